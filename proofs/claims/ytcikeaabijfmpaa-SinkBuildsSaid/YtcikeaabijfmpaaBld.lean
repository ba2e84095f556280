/- Layer 7: a text put together (sink.Builder): Add, Text. -/
import Derived.Test.YtcikeaabijfmpaaSrc
namespace Go.Proofs.Ytcikeaabijfmpaa
open Go.RowKit

structure IsBldAt (w : World) (F : Nat → Prop) (b : Nat) (v : Value) (xs : List UInt8) (long : Bool) : Prop where
  blk : w.heap[b]? = some (.cells #[v, .bool long] 73 (0, 0))
  here : F b
  row : Row w F 5 1 v xs.length (byteCells xs)
  inw : In F w
def IsBld (w : World) (F : Nat → Prop) (b : Nat) (xs : List UInt8) (long : Bool) : Prop := ∃ v, IsBldAt w F b v xs long
theorem IsBld.keeps {w w1 : World} {F S : Nat → Prop} {b : Nat} {xs : List UInt8} {long : Bool} (h : IsBld w F b xs long) (hk : Keeps S w w1) (hn : Apart F S) : IsBld w1 F b xs long := by
  obtain ⟨v, h⟩ := h
  exact ⟨v, hk.heap h.blk (hn _ h.here), h.here, h.row.keeps hk hn, h.inw.keeps hk⟩
theorem IsBld.new (w : World) : IsBld (w.alloc (.cells #[.slice none 0 0, .bool false] 73)) (fun k => k = w.heap.size) w.heap.size [] false :=
  ⟨_, blk_new _ _, rfl, Row.nil _ _ _ _, fun k hk => by simp [hk]⟩
theorem IsBldAt.put {wr w1 w2 : World} {F : Nat → Prop} {b m n : Nat} {v v1 : Value} {xs ys : List UInt8} {cs : List Value} {full full1 : Bool} (h : IsBldAt wr F b v xs full) (hn : n = ys.length) (hc : cs = byteCells ys)
    (hR : Row w1 (fun k => F k ∨ wr.heap.size ≤ k) 5 1 v1 n cs) (hk : Keeps (fun k => v.ownBlock = some k) (wr.drewN m) w1) (h2 : SameBut b w1 w2) (hb : w2.heap[b]? = some (.cells #[v1, .bool full1] 73 (0, 0))) :
    ∃ F2, IsBldAt w2 F2 b v1 ys full1 ∧ Keeps F wr w2 ∧ Fresh F F2 wr := by
  subst hn hc
  have hne : ∀ k, v1.ownBlock = some k → k ≠ b := hR.ne (hk.heap (k := b) h.blk (fun e => h.row.ne h.blk (by decide) b e rfl)) (by decide)
  obtain ⟨F2, h3, h4, h5, h6, h7⟩ := upd_end h.inw h.here h.row hR hk hne h2
  exact ⟨F2, ⟨hb, h4, h3, h5⟩, h6, h7⟩

/-- What is put together. -/
def addl : List ByteArray → List UInt8 → Bool → List UInt8 × Bool
  | [], xs, long => (xs, long)
  | s :: ss, xs, long => if long then (xs, true) else if 1048576 < xs.length + s.size then (xs, true) else addl ss (xs ++ s.data.toList) false
theorem addl_long (ss : List ByteArray) (xs : List UInt8) : addl ss xs true = (xs, true) := by cases ss <;> simp [addl]
theorem addl_over {ss : List ByteArray} {xs : List UInt8} {k : Nat} (hk : k < ss.length) (h : 1048576 < xs.length + ss[k].size) : addl (ss.drop k) xs false = (xs, true) := by
  rw [List.drop_eq_getElem_cons hk]; simp [addl, h]
theorem addl_room {ss : List ByteArray} {xs : List UInt8} {k : Nat} (hk : k < ss.length) (h : ¬ 1048576 < xs.length + ss[k].size) : addl (ss.drop k) xs false = addl (ss.drop (k + 1)) (xs ++ ss[k].data.toList) false := by
  rw [List.drop_eq_getElem_cons hk]; simp [addl, h]
def AddAt (w : World) (F : Nat → Prop) (b : Nat) (xs : List UInt8) (full : Bool) (ss : List ByteArray) (k : Nat) (wr : World) : Prop :=
  ∃ F' cur fl, IsBld wr F' b cur fl ∧ cur.length ≤ 1048576 ∧ addl (ss.drop k) cur fl = addl ss xs full ∧ Keeps F w wr ∧ Fresh F F' w

set_option maxHeartbeats 1000000 in
theorem builder_Add (w : World) (F : Nat → Prop) (b : Nat) (xs : List UInt8) (full : Bool) (A : Option Addr) (c : Nat) (ss : List ByteArray) (h : IsBld w F b xs full) (hx : xs.length ≤ 1048576)
    (hs : Strs w A ss) (hap : 0 < ss.length → ∀ b o, A = some ⟨b, o, none⟩ → ¬ F b) (hlen : ss.length ≤ 9223372036854775807) :
    Calls Try.prog 48 #[.pointer (some ⟨b, 0, none⟩), .slice A ss.length c] w fun e w' => ∃ F', e = .returned (.int .i64 (codeIf 2 (addl ss xs full).2)) ∧ IsBld w' F' b (addl ss xs full).1 (addl ss xs full).2 ∧ Keeps F w w' ∧ Fresh F F' w := by
  have h0 : AddAt w F b xs full ss 0 w := ⟨F, xs, full, h, hx, rfl, Keeps.refl _ _, Fresh.refl _ _⟩
  have hs' := hidden hs
  have hap' := hidden hap
  have hinw : In F w := by obtain ⟨_, h⟩ := h; exact h.inw
  clear h hs hap hx
  refine post_gen fun R hR => ?_
  go_enter Try.func48, Try.ntmps48
  go_wp2
  go_loopw [9] (fun i wr => ∃ k : Nat, k ≤ ss.length ∧ i = .int .i64 k ∧ AddAt w F b xs full ss k wr) (fun i _ => ss.length - (intOf i).toNat)
  case atStart => exact ⟨0, Nat.zero_le _, rfl, h0⟩
  case round =>
    clear h0
    obtain ⟨k, hk, rfl, F', cur, fl, ⟨v, hS⟩, hcur, hp, hK, hF⟩ := hrel
    have HS := hidden hS
    have HP := hidden hp
    obtain ⟨A1, c1, rfl⟩ := hS.row.form
    have b0 : wr.cell? ⟨b, 0, none⟩ = some (.slice A1 cur.length c1) := blk_cell hS.blk 0
    have b1 : wr.cell? ⟨b, 1, none⟩ = some (.bool fl) := blk_cell hS.blk 1
    have f1 := blk_frozen hS.blk 1
    clear hS hp
    by_cases hlt : k < ss.length
    · obtain ⟨ab, ao, rfl, hc⟩ := (hs'.out.keeps hK (hap'.out (by omega))) k _ (List.getElem?_eq_getElem hlt)
      have hab : ¬ F ab := hap'.out (by omega) _ _ rfl
      cases fl with
      | true =>
        go_wp2
        refine hR.out _ _ ⟨F', ?_, ?_, hK.fresh hF ((Keeps.refl _ _).setCell (p := ⟨b, 1, none⟩) (fun _ => HS.out.here) _), hF⟩
        · rw [← HP.out, addl_long]; rfl
        · rw [← HP.out, addl_long]
          refine ⟨_, blk_set HS.out.blk 1 _, HS.out.here, HS.out.row.set (HS.out.row.ne HS.out.blk (by decide)) _, fun k hk => ?_⟩
          have := HS.out.inw k hk
          simpa [World.setCell] using this
      | false =>
        by_cases hroom : 1048576 < cur.length + ss[k].size
        · have i1 : (1048576 : Int) - cur.length < ss[k].size := by omega
          go_wp2
          refine hR.out _ _ ⟨F', ?_, ?_, hK.fresh hF ((Keeps.refl _ _).setCell (p := ⟨b, 1, none⟩) (fun _ => HS.out.here) _), hF⟩
          · rw [← HP.out, addl_over hlt hroom]; rfl
          · rw [← HP.out, addl_over hlt hroom]
            refine ⟨_, blk_set HS.out.blk 1 _, HS.out.here, HS.out.row.set (HS.out.row.ne HS.out.blk (by decide)) _, fun k hk => ?_⟩
            have := HS.out.inw k hk
            simpa [World.setCell] using this
        · have i1 : ¬ (1048576 : Int) - cur.length < ss[k].size := by omega
          go_wp2_with (at_builtin; refine app_list rfl F' _ _ _ _ _ _ 1 1 rfl Try.underlying71 info_uint8 rfl (by decide) _ _ _ rfl HS.out.row _ rfl _ _ (Src.ofString _ Try.underlying9 _) (by omega) (by omega) ?_; intro A2 c2 w1 hR2 hK2; have d := hidden (hK2.heap (k := b) HS.out.blk (fun e => HS.out.row.ne HS.out.blk (by decide) b e rfl)); have e0 := blk_cell d.out 0; have f0 := blk_frozen d.out 0; simp only [List.getElem?_toArray, List.getElem?_cons_zero] at e0; have HR2 := hidden hR2; have HK2 := hidden hK2; clear hR2 hK2)
          go_roundw
          case rel =>
            obtain ⟨F2, g1, g2, g3⟩ := HS.out.put (m := 0) (ys := cur ++ ss[k].data.toList) (by simp) (by rw [byteCells_append]; rfl) HR2.out HK2.out ((SameBut.refl b w1).set 0 _) (blk_set d.out 0 _)
            refine ⟨k + 1, hlt, by go_num, F2, _, false, ⟨_, g1⟩, ?_, ?_, hK.fresh hF g2, hF.trans g3 hK⟩
            · simp; have : ss[k].data.size = ss[k].size := rfl; omega
            · rw [← HP.out, addl_room hlt hroom]
          case measure => simp [intOf]; omega
    · obtain rfl : k = ss.length := by omega
      cases fl with
      | true =>
        go_wp2
        refine hR.out _ _ ⟨F', ?_, ?_, hK, hF⟩
        · rw [← HP.out, List.drop_length]; rfl
        · rw [← HP.out, List.drop_length]; exact ⟨_, HS.out⟩
      | false =>
        go_wp2
        refine hR.out _ _ ⟨F', ?_, ?_, hK, hF⟩
        · rw [← HP.out, List.drop_length]; rfl
        · rw [← HP.out, List.drop_length]; exact ⟨_, HS.out⟩

theorem builder_Text (w : World) (F : Nat → Prop) (b : Nat) (xs : List UInt8) (h : IsBld w F b xs false) :
    Calls Try.prog 50 #[.pointer (some ⟨b, 0, none⟩)] w fun e w' => e = .returned (.tuple #[.string (mkS xs), .int .i64 0]) ∧ w = w' := by
  obtain ⟨v, h⟩ := h
  obtain ⟨A, c, rfl⟩ := h.row.form
  have c0 : w.cell? ⟨b, 0, none⟩ = some (.slice A xs.length c) := blk_cell h.blk 0
  have c1 : w.cell? ⟨b, 1, none⟩ = some (.bool false) := blk_cell h.blk 1
  have hrun := own_text (P := Try.prog) Try.underlying71 Try.underlying5 Try.underlying9 h.row.1
  clear h
  go_enter Try.func50, Try.ntmps50
  go_wp2
  go_ret2
  exact ⟨rfl, rfl⟩
theorem builder_Text_long (w : World) (F : Nat → Prop) (b : Nat) (xs : List UInt8) (h : IsBld w F b xs true) :
    Calls Try.prog 50 #[.pointer (some ⟨b, 0, none⟩)] w fun e w' => e = .returned (.tuple #[.string ⟨#[]⟩, .int .i64 2]) ∧ w = w' := by
  obtain ⟨v, h⟩ := h
  have c1 : w.cell? ⟨b, 1, none⟩ = some (.bool true) := blk_cell h.blk 1
  clear h
  go_enter Try.func50, Try.ntmps50
  go_wp2
  go_ret2
  exact ⟨rfl, rfl⟩
end Go.Proofs.Ytcikeaabijfmpaa
