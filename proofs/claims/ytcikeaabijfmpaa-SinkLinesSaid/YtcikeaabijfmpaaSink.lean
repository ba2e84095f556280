/- Layer 7: what is printed (sink.Sink): contracts of New, Len, Full, Left, Text, Print, Line. -/
import Derived.Test.YtcikeaabijfmpaaRows
import Derived.Test.YtcikeaabijfmpaaBase
namespace Go.Proofs.Ytcikeaabijfmpaa
open Go.RowKit

/-- A sink, its cells and its row of bytes at F. -/
structure IsSinkAt (w : World) (F : Nat → Prop) (b : Nat) (v : Value) (xs : List UInt8) (lim : Int) (full : Bool) : Prop where
  blk : w.heap[b]? = some (.cells #[v, .int .i64 lim, .bool full] 79 (0, 0))
  here : F b
  row : Row w F 5 1 v xs.length (byteCells xs)
  inw : In F w
def IsSink (w : World) (F : Nat → Prop) (b : Nat) (xs : List UInt8) (lim : Int) (full : Bool) : Prop := ∃ v, IsSinkAt w F b v xs lim full

theorem IsSink.keeps {w w1 : World} {F S : Nat → Prop} {b : Nat} {xs : List UInt8} {lim : Int} {full : Bool} (h : IsSink w F b xs lim full) (hk : Keeps S w w1) (hn : Apart F S) : IsSink w1 F b xs lim full := by
  obtain ⟨v, h⟩ := h
  exact ⟨v, hk.heap h.blk (hn _ h.here), h.here, h.row.keeps hk hn, h.inw.keeps hk⟩

theorem sink_New (n : Int) (w : World) :
    Calls Try.prog 14 #[.int .i64 n] w fun e w' => ∃ b F, e = .returned (.pointer (some ⟨b, 0, none⟩)) ∧ IsSink w' F b [] (max n 0) false ∧ Keeps (fun _ => False) w w' ∧ Fresh (fun _ => False) F w := by
  have key : ∀ m : Int, IsSink (w.alloc (.cells #[.slice none 0 0, .int .i64 m, .bool false] 79)) (fun k => k = w.heap.size) w.heap.size [] m false := fun m =>
    ⟨_, blk_new _ _, rfl, Row.nil _ _ _ _, fun k hk => by simp [hk]⟩
  refine post_gen fun R hR => ?_
  go_enter Try.func14, Try.ntmps14
  go_wp2
  · refine hR.out _ _ ⟨_, _, rfl, ?_, (Keeps.refl _ _).alloc _, fun k (hk : k = w.heap.size) => .inr (by omega)⟩
    rw [show max n 0 = 0 by omega]
    exact key 0
  · refine hR.out _ _ ⟨_, _, rfl, ?_, (Keeps.refl _ _).alloc _, fun k (hk : k = w.heap.size) => .inr (by omega)⟩
    rw [show max n 0 = n by omega]
    exact key n

theorem sink_Len (w : World) (F : Nat → Prop) (b : Nat) (xs : List UInt8) (lim : Int) (full : Bool) (h : IsSink w F b xs lim full) :
    Calls Try.prog 17 #[.pointer (some ⟨b, 0, none⟩)] w fun e w' => e = .returned (.int .i64 xs.length) ∧ w = w' := by
  obtain ⟨v, h⟩ := h
  obtain ⟨A, c, rfl⟩ := h.row.form
  have c0 : w.cell? ⟨b, 0, none⟩ = some (.slice A xs.length c) := blk_cell h.blk 0
  go_enter Try.func17, Try.ntmps17
  go_wp2
  go_ret
  exact ⟨rfl, rfl⟩

theorem sink_Full (w : World) (F : Nat → Prop) (b : Nat) (xs : List UInt8) (lim : Int) (full : Bool) (h : IsSink w F b xs lim full) :
    Calls Try.prog 18 #[.pointer (some ⟨b, 0, none⟩)] w fun e w' => e = .returned (.bool full) ∧ w = w' := by
  obtain ⟨v, h⟩ := h
  have c0 : w.cell? ⟨b, 2, none⟩ = some (.bool full) := blk_cell h.blk 2
  go_enter Try.func18, Try.ntmps18
  go_wp2
  go_ret
  exact ⟨rfl, rfl⟩

theorem sink_Left (w : World) (F : Nat → Prop) (b : Nat) (xs : List UInt8) (lim : Int) (full : Bool) (h : IsSink w F b xs lim full) (h0 : 0 ≤ lim) (h1 : lim ≤ 9223372036854775807) (hx : (xs.length : Int) ≤ lim) :
    Calls Try.prog 19 #[.pointer (some ⟨b, 0, none⟩)] w fun e w' => e = .returned (.int .i64 (if full then 0 else lim - xs.length)) ∧ ∃ n, w' = w.drewN n := by
  obtain ⟨v, h⟩ := h
  obtain ⟨A, c, rfl⟩ := h.row.form
  have c0 : w.cell? ⟨b, 0, none⟩ = some (.slice A xs.length c) := blk_cell h.blk 0
  have c1 : w.cell? ⟨b, 1, none⟩ = some (.int .i64 lim) := blk_cell h.blk 1
  have c2 : w.cell? ⟨b, 2, none⟩ = some (.bool full) := blk_cell h.blk 2
  clear h
  cases full
  · go_enter Try.func19, Try.ntmps19
    go_wp2
    go_quiet (fail)
    go_wp2
    go_ret
    exact ⟨rfl, _, rfl⟩
  · go_enter Try.func19, Try.ntmps19
    go_wp2
    go_ret
    exact ⟨rfl, 0, rfl⟩

theorem sink_Text (w : World) (F : Nat → Prop) (b : Nat) (xs : List UInt8) (lim : Int) (full : Bool) (h : IsSink w F b xs lim full) :
    Calls Try.prog 16 #[.pointer (some ⟨b, 0, none⟩)] w fun e w' => e = .returned (.string (mkS xs)) ∧ w = w' := by
  obtain ⟨v, h⟩ := h
  obtain ⟨A, c, rfl⟩ := h.row.form
  have c0 : w.cell? ⟨b, 0, none⟩ = some (.slice A xs.length c) := blk_cell h.blk 0
  have hrun := own_text (P := Try.prog) Try.underlying71 Try.underlying5 Try.underlying9 h.row.1
  go_enter Try.func16, Try.ntmps16
  go_wp2
  go_ret
  exact ⟨rfl, rfl⟩


/-- strings that stand in a row that is read -/
def Strs (w : World) (A : Option Addr) (ss : List ByteArray) : Prop := ∀ i s, ss[i]? = some s → ∃ b o, A = some ⟨b, o, none⟩ ∧ w.cell? ⟨b, o + i, none⟩ = some (.string s)

/-- ErrFull, or OK. -/
def codeIf (n : Int) (b : Bool) : Int := if b then n else 0
theorem codeIf_true (n : Int) : codeIf n true = n := rfl
theorem codeIf_false (n : Int) : codeIf n false = 0 := rfl
/-- Texts, one behind the other. -/
def cat (ss : List ByteArray) : List UInt8 := ss.flatMap fun s => s.data.toList
theorem cat_append (ss ts : List ByteArray) : cat (ss ++ ts) = cat ss ++ cat ts := by simp [cat]
theorem cat_take {ss : List ByteArray} {k : Nat} (hk : k < ss.length) : (cat (ss.take (k + 1))).length = (cat (ss.take k)).length + ss[k].size := by
  rw [List.take_succ_eq_append_getElem hk, cat_append]
  simp [cat]
theorem cat_take_le (ss : List ByteArray) (k : Nat) : (cat (ss.take k)).length ≤ (cat ss).length := by
  have := congrArg (fun l => (cat l).length) (List.take_append_drop k ss)
  simp only [cat_append, List.length_append] at this
  omega
/-- What is printed: what is there behind it, and whether it is full. -/
def prt (lim : Nat) : List ByteArray → List UInt8 → Bool → List UInt8 × Bool
  | [], xs, full => (xs, full)
  | s :: ss, xs, full => if full then (xs, true) else if lim < xs.length + s.size then (xs ++ s.data.toList.take (lim - xs.length), true) else prt lim ss (xs ++ s.data.toList) false

theorem Strs.keeps {w w1 : World} {S : Nat → Prop} {A : Option Addr} {ss : List ByteArray} (h : Strs w A ss) (hk : Keeps S w w1) (hn : ∀ b o, A = some ⟨b, o, none⟩ → ¬ S b) : Strs w1 A ss := fun i s hi => by
  obtain ⟨b, o, rfl, hc⟩ := h i s hi
  exact ⟨b, o, rfl, hk.cell hc (hn b o rfl)⟩

theorem IsSinkAt.put {wr w1 w2 : World} {F : Nat → Prop} {b m n : Nat} {v v1 : Value} {xs ys : List UInt8} {cs : List Value} {lim : Int} {full full1 : Bool} (h : IsSinkAt wr F b v xs lim full) (hn : n = ys.length) (hc : cs = byteCells ys)
    (hR : Row w1 (fun k => F k ∨ wr.heap.size ≤ k) 5 1 v1 n cs) (hk : Keeps (fun k => v.ownBlock = some k) (wr.drewN m) w1) (h2 : SameBut b w1 w2) (hb : w2.heap[b]? = some (.cells #[v1, .int .i64 lim, .bool full1] 79 (0, 0))) :
    ∃ F2, IsSinkAt w2 F2 b v1 ys lim full1 ∧ Keeps F wr w2 ∧ Fresh F F2 wr := by
  subst hn hc
  have hne : ∀ k, v1.ownBlock = some k → k ≠ b := hR.ne (hk.heap (k := b) h.blk (fun e => h.row.ne h.blk (by decide) b e rfl)) (by decide)
  obtain ⟨F2, h3, h4, h5, h6, h7⟩ := upd_end h.inw h.here h.row hR hk hne h2
  exact ⟨F2, ⟨hb, h4, h3, h5⟩, h6, h7⟩

theorem extract_cells (s : ByteArray) (n : Nat) : Go.byteCells (s.extract 0 n) = byteCells (s.data.toList.take n) := by
  simp [Go.byteCells, byteCells]
theorem prt_full (lim : Nat) (ss : List ByteArray) (xs : List UInt8) : prt lim ss xs true = (xs, true) := by cases ss <;> simp [prt]
theorem prt_over {lim : Nat} {ss : List ByteArray} {xs : List UInt8} {k : Nat} (hk : k < ss.length) (h : lim < xs.length + ss[k].size) : prt lim (ss.drop k) xs false = (xs ++ ss[k].data.toList.take (lim - xs.length), true) := by
  rw [List.drop_eq_getElem_cons hk]; simp [prt, h]
theorem prt_room {lim : Nat} {ss : List ByteArray} {xs : List UInt8} {k : Nat} (hk : k < ss.length) (h : ¬ lim < xs.length + ss[k].size) : prt lim (ss.drop k) xs false = prt lim (ss.drop (k + 1)) (xs ++ ss[k].data.toList) false := by
  rw [List.drop_eq_getElem_cons hk]; simp [prt, h]

/-- The loop of Print at its head. -/
def PrtAt (w : World) (F : Nat → Prop) (b : Nat) (xs : List UInt8) (lim : Nat) (full : Bool) (ss : List ByteArray) (k : Nat) (wr : World) : Prop :=
  ∃ F' cur fl, IsSink wr F' b cur lim fl ∧ (cur.length ≤ lim ∧ cur.length ≤ xs.length + (cat (ss.take k)).length) ∧ prt lim (ss.drop k) cur fl = prt lim ss xs full ∧ Keeps F w wr ∧ Fresh F F' w

theorem info_uint8 : (Try.prog.info? 5).map (fun i => (i.zero, i.size, i.bytes)) = some (some (.int .u8 0), 1, 1) := by kernel_rfl

set_option maxHeartbeats 1000000 in
theorem sink_Print (w : World) (F : Nat → Prop) (b : Nat) (xs : List UInt8) (lim : Nat) (full : Bool) (A : Option Addr) (c : Nat) (ss : List ByteArray) (h : IsSink w F b xs lim full) (hl : lim ≤ 9223372036854775807) (hx : xs.length ≤ lim) (hmin : min lim (xs.length + (cat ss).length) ≤ 140737488355328)
    (hs : Strs w A ss) (hap : 0 < ss.length → ∀ b o, A = some ⟨b, o, none⟩ → ¬ F b) (hlen : ss.length ≤ 9223372036854775807) :
    Calls Try.prog 15 #[.pointer (some ⟨b, 0, none⟩), .slice A ss.length c] w fun e w' => ∃ F', e = .returned (.int .i64 (codeIf 40 (prt lim ss xs full).2)) ∧ IsSink w' F' b (prt lim ss xs full).1 lim (prt lim ss xs full).2 ∧ Keeps F w w' ∧ Fresh F F' w := by
  have h0 : PrtAt w F b xs lim full ss 0 w := ⟨F, xs, full, h, ⟨hx, by simp⟩, rfl, Keeps.refl _ _, Fresh.refl _ _⟩
  have hs' := hidden hs
  have hap' := hidden hap
  have hinw : In F w := by obtain ⟨_, h⟩ := h; exact h.inw
  clear h hs hap hx
  refine post_gen fun R hR => ?_
  go_enter Try.func15, Try.ntmps15
  go_wp2
  go_loopw [10] (fun i wr => ∃ k : Nat, k ≤ ss.length ∧ i = .int .i64 k ∧ PrtAt w F b xs lim full ss k wr) (fun i _ => ss.length - (intOf i).toNat)
  case atStart => exact ⟨0, Nat.zero_le _, rfl, h0⟩
  case round =>
    clear h0
    obtain ⟨k, hk, rfl, F', cur, fl, ⟨v, hS⟩, ⟨hcur, hcur2⟩, hp, hK, hF⟩ := hrel
    have hct := cat_take_le ss k
    have HS := hidden hS
    have HP := hidden hp
    obtain ⟨A1, c1, rfl⟩ := hS.row.form
    have b0 : wr.cell? ⟨b, 0, none⟩ = some (.slice A1 cur.length c1) := blk_cell hS.blk 0
    have b1 : wr.cell? ⟨b, 1, none⟩ = some (.int .i64 lim) := blk_cell hS.blk 1
    have b2 : wr.cell? ⟨b, 2, none⟩ = some (.bool fl) := blk_cell hS.blk 2
    clear hS hp
    by_cases hlt : k < ss.length
    · have hct1 := hidden (cat_take hlt)
      have hct2 := cat_take_le ss (k + 1)
      have hroom1 : cur.length + ss[k].size ≤ xs.length + (cat ss).length := by have := hct1.out; omega
      obtain ⟨ab, ao, rfl, hc⟩ := (hs'.out.keeps hK (hap'.out (by omega))) k _ (List.getElem?_eq_getElem hlt)
      have hab : ¬ F ab := hap'.out (by omega) _ _ rfl
      cases fl with
      | true =>
        go_wp2
        refine hR.out _ _ ⟨F', ?_, ?_, hK, hF⟩
        · rw [← HP.out, prt_full]; rfl
        · rw [← HP.out, prt_full]; exact ⟨_, HS.out⟩
      | false =>
        by_cases hroom : lim < cur.length + ss[k].size
        · have i1 : (lim : Int) - cur.length ≤ ss[k].size := by omega
          have i2 : 0 ≤ (lim : Int) - cur.length := by omega
          have HE := hidden (show (ss[k].extract 0 (lim - cur.length)).size = lim - cur.length by simp; omega)
          go_wp2
          go_quiet (fail)
          go_wp2
          go_region_law (refine app_step rfl F' _ _ _ _ _ _ 1 1 rfl Try.underlying71 info_uint8 rfl (by decide) _ _ _ rfl ((HS.out.row.drewN nq).drew) _ rfl _ _ (Src.ofString _ Try.underlying9 _) (by have := HE.out; omega) (by have := HE.out; omega) ?_; intro A2 c2 w1 hR2 hK2; have d := hidden (hK2.heap (k := b) HS.out.blk (fun e => HS.out.row.ne HS.out.blk (by decide) b e rfl)); have e0 := blk_cell d.out 0; have e2 := blk_cell d.out 2; have f0 := blk_frozen d.out 0; have f2 := blk_frozen d.out 2; simp only [List.getElem?_toArray, List.getElem?_cons_zero, List.getElem?_cons_succ] at e0 e2; have HR2 := hidden hR2; have HK2 := hidden hK2; clear hR2 hK2)
          go_wp2
          obtain ⟨F2, g1, g2, g3⟩ := HS.out.put (ys := cur ++ ss[k].data.toList.take (lim - cur.length)) (by simp) (by rw [byteCells_append, extract_cells]) HR2.out HK2.out (((SameBut.refl b w1).set 0 _).set 2 (.bool true)) (blk_set (blk_set d.out 0 _) 2 _)
          simp only [ByteArray.size_extract, Nat.sub_zero] at g1 g2
          refine hR.out _ _ ⟨F2, ?_, ?_, hK.fresh hF g2, hF.trans g3 hK⟩
          · rw [← HP.out, prt_over hlt hroom]; rfl
          · rw [← HP.out, prt_over hlt hroom]; exact ⟨_, g1⟩
        · go_wp2
          go_quiet (fail)
          go_wp2_with (at_builtin; refine app_list rfl F' _ _ _ _ _ _ 1 1 rfl Try.underlying71 info_uint8 rfl (by decide) _ _ _ rfl (HS.out.row.drewN nq) _ rfl _ _ (Src.ofString _ Try.underlying9 _) (by omega) (by omega) ?_; intro A2 c2 w1 hR2 hK2; have d := hidden (hK2.heap (k := b) HS.out.blk (fun e => HS.out.row.ne HS.out.blk (by decide) b e rfl)); have e0 := blk_cell d.out 0; have e2 := blk_cell d.out 2; have f0 := blk_frozen d.out 0; have f2 := blk_frozen d.out 2; simp only [List.getElem?_toArray, List.getElem?_cons_zero, List.getElem?_cons_succ] at e0 e2; have HR2 := hidden hR2; have HK2 := hidden hK2; clear hR2 hK2)
          go_wp2
          go_roundw
          case rel =>
            obtain ⟨F2, g1, g2, g3⟩ := HS.out.put (ys := cur ++ ss[k].data.toList) (by simp) (by rw [byteCells_append]; rfl) HR2.out HK2.out ((SameBut.refl b w1).set 0 _) (blk_set d.out 0 _)
            refine ⟨k + 1, hlt, by go_num, F2, _, false, ⟨_, g1⟩, ?_, ?_, hK.fresh hF g2, hF.trans g3 hK⟩
            · have := hct1.out; have e : ss[k].data.size = ss[k].size := rfl; constructor <;> (simp; omega)
            · rw [← HP.out, prt_room hlt hroom]
          case measure => simp [intOf]; omega
    · obtain rfl : k = ss.length := by omega
      cases fl with
      | true =>
        go_wp2
        refine hR.out _ _ ⟨F', ?_, ?_, hK, hF⟩
        · rw [← HP.out, List.drop_length]; rfl
        · rw [← HP.out, List.drop_length]; exact ⟨_, HS.out⟩
      | false =>
        go_wp2
        refine hR.out _ _ ⟨F', ?_, ?_, hK, hF⟩
        · rw [← HP.out, List.drop_length]; rfl
        · rw [← HP.out, List.drop_length]; exact ⟨_, HS.out⟩
end Go.Proofs.Ytcikeaabijfmpaa
