/- Layer 7: the head of its statements (dreylaw07.prints) is true. -/
import Derived.Test.YtcikeaabijfmpaaSrc
import Derived.Test.YtcikeaabijfmpaaBld
import Derived.Test.YtcikeaabijfmpaaSplit
namespace Go.Proofs.Ytcikeaabijfmpaa
open Go.RowKit

theorem sink_Left_full (w : World) (F : Nat → Prop) (b : Nat) (xs : List UInt8) (lim : Int) (h : IsSink w F b xs lim true) (h0 : 0 ≤ lim) (h1 : lim ≤ 9223372036854775807) (hx : (xs.length : Int) ≤ lim) :
    Calls Try.prog 19 #[.pointer (some ⟨b, 0, none⟩)] w fun e w' => e = .returned (.int .i64 0) ∧ ∃ n, w' = w.drewN n := by
  simpa using sink_Left w F b xs lim true h h0 h1 hx
theorem sink_Left_room (w : World) (F : Nat → Prop) (b : Nat) (xs : List UInt8) (lim : Int) (h : IsSink w F b xs lim false) (h0 : 0 ≤ lim) (h1 : lim ≤ 9223372036854775807) (hx : (xs.length : Int) ≤ lim) :
    Calls Try.prog 19 #[.pointer (some ⟨b, 0, none⟩)] w fun e w' => e = .returned (.int .i64 (lim - xs.length)) ∧ ∃ n, w' = w.drewN n := by
  simpa using sink_Left w F b xs lim false h h0 h1 hx
theorem IsSink.inw {w : World} {F : Nat → Prop} {b : Nat} {xs : List UInt8} {lim : Int} {full : Bool} (h : IsSink w F b xs lim full) : In F w := by obtain ⟨_, h⟩ := h; exact h.inw
theorem IsBld.inw {w : World} {F : Nat → Prop} {b : Nat} {xs : List UInt8} {full : Bool} (h : IsBld w F b xs full) : In F w := by obtain ⟨_, h⟩ := h; exact h.inw
theorem IsSink.alloc {w : World} {F : Nat → Prop} {b : Nat} {xs : List UInt8} {lim : Int} {full : Bool} (h : IsSink w F b xs lim full) (o : Obj) : IsSink (w.alloc o) F b xs lim full := h.keeps ((Keeps.refl (fun _ => False) w).alloc o) (Apart.no _)
theorem IsBld.alloc {w : World} {F : Nat → Prop} {b : Nat} {xs : List UInt8} {full : Bool} (h : IsBld w F b xs full) (o : Obj) : IsBld (w.alloc o) F b xs full := h.keeps ((Keeps.refl (fun _ => False) w).alloc o) (Apart.no _)
theorem IsSource.alloc {w : World} {F : Nat → Prop} {b n : Nat} {ls : List ByteArray} (h : IsSource w F b ls n) (o : Obj) : IsSource (w.alloc o) F b ls n := h.keeps ((Keeps.refl (fun _ => False) w).alloc o) (Apart.no _)
theorem lit_apart {w : World} {F : Nat → Prop} {q : Prop} (h : In F w) : q → ∀ b o, (some ⟨w.heap.size, 0, none⟩ : Option Addr) = some ⟨b, o, none⟩ → ¬ F b := by
  intro _ b o e hF
  simp at e
  have := h b hF
  omega

theorem turn0 {B : Nat} {w wi wj : World} {F F' G : Nat → Prop} (K : Hid (Keeps (fun k => B ≤ k) w wi)) (hB : B ≤ wi.heap.size) (hF : Hid (∀ k, F k → B ≤ k)) (hA : Hid (Apart F G)) (hG : In G wi) (k : Keeps F wi wj) (f : Fresh F F' wi) :
    Hid (Keeps (fun k => B ≤ k) w wj) ∧ Hid (∀ k, F' k → B ≤ k) ∧ Hid (Apart F' G) ∧ B ≤ wj.heap.size :=
  ⟨K.out.step hF.out k, f.ge hF.out hB, hA.out.fresh f hG, Nat.le_trans hB k.size⟩
theorem turn1 {B : Nat} {w wi wj : World} {o : Obj} {F F' G : Nat → Prop} (K : Hid (Keeps (fun k => B ≤ k) w wi)) (hB : B ≤ wi.heap.size) (hF : Hid (∀ k, F k → B ≤ k)) (hA : Hid (Apart F G)) (hG : In G wi) (k : Keeps F (wi.alloc o) wj) (f : Fresh F F' (wi.alloc o)) :
    Hid (Keeps (fun k => B ≤ k) w wj) ∧ Hid (∀ k, F' k → B ≤ k) ∧ Hid (Apart F' G) ∧ B ≤ wj.heap.size :=
  turn0 (hidden (K.out.alloc o)) (by simp; omega) hF hA (fun k h => by have := hG k h; simp; omega) k f

set_option maxHeartbeats 2000000 in
theorem prints_true (w : World) : Calls Try.prog 12 #[] w fun e w' => e = .returned (.bool true) ∧ Below w.heap.size w w' := by
  refine post_gen fun R hR => ?_
  go_enter Try.func12, Try.ntmps12
  go_wp2_with fail
  refine (sink_New 5 _).mono ?_
  rintro e w1 ⟨sb, SF, rfl, hS, hK, hF⟩
  have HS := hidden hS
  have HK := hidden (Keeps.step (Keeps.refl (fun k => w.heap.size ≤ k) w) (fun _ h => h.elim) hK)
  have HSF := hidden (hF.ge (B := w.heap.size) (fun _ h => h.elim) (Nat.le_refl _))
  clear hS hK hF
  rw [show max (5 : Int) 0 = ((5 : Nat) : Int) from rfl] at HS
  go_wp2_with fail
  refine (source_Read _ _ 2 [⟨#[97]⟩, ⟨#[98]⟩] (Strs.lit w1 _ _) (by simp)).mono ?_
  rintro e w2 ⟨rb, RF, rfl, hr, hK, hF⟩
  have HR := hidden hr
  have HA := hidden (show Apart SF RF from Apart.symm (Apart.fresh (Apart.none SF) hF ((HS.out.alloc _).inw)))
  have HRF := hidden (hF.ge (B := w.heap.size) (fun _ h => h.elim) (by have := HK.out.size; simp; omega))
  have HS := hidden ((HS.out.alloc _).keeps hK (Apart.no _))
  have HK := hidden ((HK.out.alloc _).step (fun _ h => h.elim) hK)
  clear hr hK hF
  have hwid : w.heap.size ≤ w2.heap.size := HK.out.size
  go_wp2_with fail
  refine (sink_Line _ SF sb [] 5 false (some ⟨w2.heap.size, 0, none⟩) 1 [⟨#[97, 98]⟩] (HS.out.alloc _) (by omega) (by simp) (by omega) (Strs.lit w2 _ _) (lit_apart HS.out.inw) (by simp)).mono ?_
  rintro e w3 ⟨SF2, rfl, hS, hK, hF⟩
  obtain ⟨HK3, HSF3, HA3, hB3⟩ := turn1 HK hwid HSF HA HR.out.inw hK hF
  have HR3 := hidden ((HR.out.alloc _).keeps hK (Apart.symm HA.out))
  have HS3 := hidden hS
  clear hS hK hF HK HSF HA HR HS hwid
  rw [show prt 5 ([⟨#[97, 98]⟩] ++ [⟨#[10]⟩]) [] false = ([97, 98, 10], false) from by decide] at *
  go_wp2_with fail
  refine (sink_Left _ SF2 sb _ _ _ HS3.out (by omega) (by omega) (by simp)).mono ?_
  rintro e _ ⟨rfl, n4, rfl⟩
  have HK3 := hidden (HK3.out.drewN n4)
  have HR3 := hidden (HR3.out.keeps ((Keeps.refl (fun _ => False) w3).drewN n4) (Apart.no _))
  have HS3 := hidden (HS3.out.keeps ((Keeps.refl (fun _ => False) w3).drewN n4) (Apart.no _))
  have hB4 : w.heap.size ≤ (w3.drewN n4).heap.size := hB3
  clear hB3
  generalize w3.drewN n4 = w4 at *
  go_wp2_with fail
  refine (sink_Print _ SF2 sb _ 5 false (some ⟨w4.heap.size, 0, none⟩) 1 [⟨#[99, 100, 101]⟩] (HS3.out.alloc _) (by omega) (by simp) (by omega) (Strs.lit w4 _ _) (lit_apart HS3.out.inw) (by simp)).mono ?_
  rintro e w5 ⟨SF3, rfl, hS, hK, hF⟩
  obtain ⟨HK5, HSF5, HA5, hB5⟩ := turn1 HK3 hB4 HSF3 HA3 HR3.out.inw hK hF
  have HR5 := hidden ((HR3.out.alloc _).keeps hK (Apart.symm HA3.out))
  have HS5 := hidden hS
  clear hS hK hF HK3 HSF3 HA3 HR3 HS3 hB4
  rw [show prt 5 [⟨#[99, 100, 101]⟩] [97, 98, 10] false = ([97, 98, 10, 99, 100], true) from by decide] at *
  rw [codeIf_true]
  go_wp2_with fail
  refine (sink_Text _ SF3 sb _ _ _ HS5.out).mono ?_
  rintro e _ ⟨rfl, rfl⟩
  rw [show mkS [97, 98, 10, 99, 100] = ⟨#[97, 98, 10, 99, 100]⟩ from rfl]
  go_wp2_with fail
  refine (sink_Full _ SF3 sb _ _ _ HS5.out).mono ?_
  rintro e _ ⟨rfl, rfl⟩
  go_wp2_with fail
  refine (sink_Left _ SF3 sb _ _ _ HS5.out (by omega) (by omega) (by simp)).mono ?_
  rintro e _ ⟨rfl, n4, rfl⟩
  have HK5 := hidden (HK5.out.drewN n4)
  have HR5 := hidden (HR5.out.keeps ((Keeps.refl (fun _ => False) w5).drewN n4) (Apart.no _))
  have HS5 := hidden (HS5.out.keeps ((Keeps.refl (fun _ => False) w5).drewN n4) (Apart.no _))
  have hB6 : w.heap.size ≤ (w5.drewN n4).heap.size := hB5
  clear hB5
  generalize w5.drewN n4 = w6 at *
  go_wp2_with fail
  refine (sink_Len _ SF3 sb _ _ _ HS5.out).mono ?_
  rintro e _ ⟨rfl, rfl⟩
  go_wp2_with fail
  refine (source_Next_some _ RF rb _ 0 (by simp) (by simp) HR5.out).mono ?_
  rintro e w7 ⟨rfl, hR', hK⟩
  have HR7 := hidden hR'
  have HK7 := hidden (HK5.out.step HRF.out hK)
  have hB7 := Nat.le_trans hB6 hK.size
  clear hR' hK HK5 HR5 HS5 HA5 HSF5 hB6
  have hno : Hid (Apart (fun k => k = w7.heap.size) RF) := hidden (fun k hk h => by have := HR7.out.inw k h; omega)
  go_wp2_with fail
  refine (builder_Add _ (fun k => k = w7.heap.size) w7.heap.size [] false (some ⟨w7.heap.size + 1, 0, none⟩) 2 [⟨#[97]⟩, ⟨#[98]⟩] ((IsBld.new w7).alloc _) (by simp) (Strs.lit' (w7.alloc _) _ _ (by simp)) (by intro _ b o e h; simp at e; try omega) (by simp)).mono ?_
  rintro e w8 ⟨BF, rfl, hS, hK, hF⟩
  obtain ⟨HK8, HBF, HA8, hB8⟩ := turn0 (hidden ((HK7.out.alloc _).alloc _)) (by simp; omega) (hidden (fun k hk => by omega)) hno ((HR7.out.alloc _).alloc _).inw hK hF
  have HR8 := hidden (((HR7.out.alloc _).alloc _).keeps hK (Apart.symm hno.out))
  have HS8 := hidden hS
  clear hS hK hF HK7 hno hB7 HR7
  rw [show addl [⟨#[97]⟩, ⟨#[98]⟩] [] false = ([97, 98], false) from by decide] at *
  rw [codeIf_false]
  go_wp2_with fail
  refine (builder_Text _ BF _ _ HS8.out).mono ?_
  rintro e _ ⟨rfl, rfl⟩
  rw [show mkS [97, 98] = ⟨#[97, 98]⟩ from rfl]
  go_wp2_with fail
  refine (source_Taken _ RF _ _ _ HR8.out).mono ?_
  rintro e _ ⟨rfl, rfl⟩
  go_wp2_with fail
  refine (sink_Lines _ ⟨#[97, 10, 10, 98, 10]⟩ (by decide)).mono ?_
  rintro e w9 ⟨A, c, F, rfl, hRow, hin, hK, hF⟩
  have HK9 := hidden (HK8.out.step (fun _ h => h.elim) hK)
  rw [show (lines (⟨#[97, 10, 10, 98, 10]⟩ : ByteArray).data.toList).length = 3 from by decide]
  clear hRow hin hK hF
  go_wp2
  exact hR.out _ _ ⟨rfl, HK9.out.below (Nat.le_refl _) (fun _ h => h)⟩
end Go.Proofs.Ytcikeaabijfmpaa
