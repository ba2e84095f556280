/- Layer 5: the statements' heads: right, keeps. -/
import Derived.Test.YtpaefeknbpfpmaaDo5
namespace Go.Proofs.Ytpaefeknbpfpmaa
open Go.RowKit
set_option maxRecDepth 100000

structure LOp5 where
  k : Int
  key : V
  val : V
def LOp5.cells (o : LOp5) : List Value := [.int .i64 o.k, .int .i64 o.key.k, .int .i64 o.key.n, .string o.key.t, .int .i64 o.val.k, .int .i64 o.val.n, .string o.val.t]
structure Op5At (w : World) (g o i : Nat) (x : LOp5) : Prop where
  c0 : w.cell? ⟨g, o + i * 7, none⟩ = some (.int .i64 x.k)
  c1 : w.cell? ⟨g, o + i * 7 + 1, none⟩ = some (.int .i64 x.key.k)
  c2 : w.cell? ⟨g, o + i * 7 + 2, none⟩ = some (.int .i64 x.key.n)
  c3 : w.cell? ⟨g, o + i * 7 + 3, none⟩ = some (.string x.key.t)
  c4 : w.cell? ⟨g, o + i * 7 + 4, none⟩ = some (.int .i64 x.val.k)
  c5 : w.cell? ⟨g, o + i * 7 + 5, none⟩ = some (.int .i64 x.val.n)
  c6 : w.cell? ⟨g, o + i * 7 + 6, none⟩ = some (.string x.val.t)
/-- Acts that stand in a row that is read. -/
def Lops5 (w : World) (A : Option Addr) (xs : List LOp5) : Prop := ∀ i x, xs[i]? = some x → ∃ b o, A = some ⟨b, o, none⟩ ∧ Op5At w b o i x
theorem Lops5.keeps {w w1 : World} {S : Nat → Prop} {A : Option Addr} {xs : List LOp5} (h : Lops5 w A xs) (hk : Keeps S w w1) (hn : ∀ j, j < w.heap.size → ¬ S j) : Lops5 w1 A xs := fun i x hi => by
  obtain ⟨b, o, rfl, h0, h1, h2, h3, h4, h5, h6⟩ := h i x hi
  have hb := hn b (World.block_lt_of_cell? w _ h0)
  exact ⟨b, o, rfl, hk.cell h0 hb, hk.cell h1 hb, hk.cell h2 hb, hk.cell h3 hb, hk.cell h4 hb, hk.cell h5 hb, hk.cell h6 hb⟩
theorem Lops5.far {w w1 : World} {A : Option Addr} {xs : List LOp5} (h : Lops5 w A xs) (hk : Keeps (fun k => w.heap.size ≤ k) w w1) : Lops5 w1 A xs := h.keeps hk (fun k h1 h2 => by omega)
theorem Lops5.calm {w w1 : World} {A : Option Addr} {xs : List LOp5} (h : Lops5 w A xs) (hk : Keeps (fun _ => False) w w1) : Lops5 w1 A xs := h.keeps hk (fun _ _ h2 => h2)

def LOp5.fine (x : LOp5) : Bool := x.key.chk == 0 && x.val.chk == 0 && decide (x.key.t.size ≤ 200)
def right5 (xs : List LOp5) : Bool := xs.all LOp5.fine && decide (xs.length ≤ 100)
set_option maxHeartbeats 4000000 in
theorem right5_any (w : World) (A : Option Addr) (c : Nat) (xs : List LOp5) (h : Lops5 w A xs) (hl : xs.length ≤ 4398046511104) :
    Calls Try.prog 11 #[.slice A xs.length c] w fun e w' => e = .returned (.bool (right5 xs)) ∧ Keeps (fun _ => False) w w' := by
  have HV := hidden h
  clear h
  refine post_gen fun R hR => ?_
  go_enter Try.func11, Try.ntmps11
  go_wp2_with fail
  go_loopw [7] (fun i wr => ∃ k : Nat, k ≤ xs.length ∧ i = .int .i64 k ∧ Hid ((xs.take k).all LOp5.fine = true) ∧ Keeps (fun _ => False) w wr) (fun i _ => xs.length - (intOf i).toNat)
  case atStart => exact ⟨0, Nat.zero_le _, rfl, hidden rfl, Keeps.refl _ _⟩
  case round =>
    obtain ⟨k, hk, rfl, HA, hK⟩ := hrel
    have HK := hidden hK
    by_cases hlt : k < xs.length
    · obtain ⟨rb, ro, rfl, h0, h1, h2, h3, h4, h5, h6⟩ := (HV.out.calm hK) k xs[k] (List.getElem?_eq_getElem hlt)
      have hr := World.block_lt_of_cell? wr _ h0
      have HX := hidden (show xs[k]? = some xs[k] from List.getElem?_eq_getElem hlt)
      have HM := hidden (show xs[k] ∈ xs from List.getElem_mem hlt)
      clear hK
      generalize xs[k] = x at *
      obtain ⟨xk, ⟨kk, kn, kt⟩, ⟨vk, vn, vt⟩⟩ := x
      simp only at h0 h1 h2 h3 h4 h5 h6
      have C1 := hidden (value_Check ⟨kk, kn, kt⟩)
      have C2 := hidden (value_Check ⟨vk, vn, vt⟩)
      unfold V.val at C1 C2
      have BX0 := hidden (blk_new wr (.cells #[.int .i64 xk, .int .i64 kk, .int .i64 kn, .string kt, .int .i64 vk, .int .i64 vn, .string vt] 32))
      have NOT := hidden (show (⟨xk, ⟨kk, kn, kt⟩, ⟨vk, vn, vt⟩⟩ : LOp5).fine = false → right5 xs = false from fun h => by
        rw [right5, List.all_eq_false.2 ⟨_, HM.out, by rw [h]; decide⟩]; rfl)
      by_cases f1 : V.chk ⟨kk, kn, kt⟩ = 0
      · have F1 := hidden f1
        rw [f1] at C1
        clear f1
        by_cases f2 : V.chk ⟨vk, vn, vt⟩ = 0
        · have F2 := hidden f2
          rw [f2] at C2
          clear f2
          by_cases f3 : kt.size ≤ 200
          · have HN := hidden (show (xs.take (k + 1)).all LOp5.fine = true by rw [List.take_add_one, HX.out]; simp [HA.out, LOp5.fine, F1.out, F2.out, f3])
            go_wp2_with (first | (go_at_call 27; refine (C1.out _).mono ?_; rintro e w1 ⟨rfl, hk1⟩; have HK1 := hidden hk1; have BX1 := hidden (hk1.heap BX0.out (fun h => h)); have x4 := blk_cell BX1.out 4; have x5 := blk_cell BX1.out 5; have x6 := blk_cell BX1.out 6; have x3 := blk_cell BX1.out 3; simp only [List.getElem?_toArray, List.getElem?_cons_zero, List.getElem?_cons_succ] at x3 x4 x5 x6; have hbx := blk_lt BX1.out; clear hk1 C1) | (go_at_call 27; refine (C2.out _).mono ?_; rintro e w2 ⟨rfl, hk2⟩; have HK2 := hidden hk2; have y3 := hk2.cell x3 (fun h => h); have hby := blk_lt (hk2.heap BX1.out (fun h => h)); clear hk2 C2))
            go_roundw
            case rel => exact ⟨k + 1, hlt, by go_num, HN, ((HK.out.alloc _).trans HK1.out (fun _ _ h => h)).trans HK2.out (fun _ _ h => h)⟩
            case measure => simp [intOf]; omega
          · have HN := hidden (NOT.out (by simp [LOp5.fine]; omega))
            go_wp2_with (first | (go_at_call 27; refine (C1.out _).mono ?_; rintro e w1 ⟨rfl, hk1⟩; have HK1 := hidden hk1; have BX1 := hidden (hk1.heap BX0.out (fun h => h)); have x4 := blk_cell BX1.out 4; have x5 := blk_cell BX1.out 5; have x6 := blk_cell BX1.out 6; have x3 := blk_cell BX1.out 3; simp only [List.getElem?_toArray, List.getElem?_cons_zero, List.getElem?_cons_succ] at x3 x4 x5 x6; have hbx := blk_lt BX1.out; clear hk1 C1) | (go_at_call 27; refine (C2.out _).mono ?_; rintro e w2 ⟨rfl, hk2⟩; have HK2 := hidden hk2; have y3 := hk2.cell x3 (fun h => h); have hby := blk_lt (hk2.heap BX1.out (fun h => h)); clear hk2 C2))
            exact hR.out _ _ ⟨by rw [HN.out] <;> rfl, ((HK.out.alloc _).trans HK1.out (fun _ _ h => h)).trans HK2.out (fun _ _ h => h)⟩
        · have HN := hidden (NOT.out (by simp [LOp5.fine, f2]))
          go_wp2_with (first | (go_at_call 27; refine (C1.out _).mono ?_; rintro e w1 ⟨rfl, hk1⟩; have HK1 := hidden hk1; have BX1 := hidden (hk1.heap BX0.out (fun h => h)); have x4 := blk_cell BX1.out 4; have x5 := blk_cell BX1.out 5; have x6 := blk_cell BX1.out 6; have x3 := blk_cell BX1.out 3; simp only [List.getElem?_toArray, List.getElem?_cons_zero, List.getElem?_cons_succ] at x3 x4 x5 x6; have hbx := blk_lt BX1.out; clear hk1 C1) | (go_at_call 27; refine (C2.out _).mono ?_; rintro e w2 ⟨rfl, hk2⟩; have HK2 := hidden hk2; have y3 := hk2.cell x3 (fun h => h); have hby := blk_lt (hk2.heap BX1.out (fun h => h)); clear hk2 C2))
          exact hR.out _ _ ⟨by rw [HN.out] <;> rfl, ((HK.out.alloc _).trans HK1.out (fun _ _ h => h)).trans HK2.out (fun _ _ h => h)⟩
      · have HN := hidden (NOT.out (by simp [LOp5.fine, f1]))
        go_wp2_with (go_at_call 27; refine (C1.out _).mono ?_; rintro e w1 ⟨rfl, hk1⟩; have HK1 := hidden hk1; clear hk1 C1)
        exact hR.out _ _ ⟨by rw [HN.out] <;> rfl, (HK.out.alloc _).trans HK1.out (fun _ _ h => h)⟩
    · obtain rfl : k = xs.length := by omega
      have HA2 := hidden (show xs.all LOp5.fine = true by have := HA.out; rwa [List.take_length] at this)
      clear hK HA
      go_wp2_with fail
      exact hR.out _ _ ⟨show Ending.returned (.bool _) = _ from ret_bool (by rw [right5, HA2.out, Bool.true_and, decide_eq_decide]; omega), HK.out⟩
end Go.Proofs.Ytpaefeknbpfpmaa
