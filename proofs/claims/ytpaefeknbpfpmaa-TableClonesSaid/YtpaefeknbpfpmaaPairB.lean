/- Layer 5: the statements' model: without a pair. -/
import Derived.Test.YtpaefeknbpfpmaaPair
import Derived.Deep.RegionHeld3
namespace Go.Proofs.Ytpaefeknbpfpmaa
open Go.RowKit
set_option maxRecDepth 100000

theorem madeP (w0 : World) (e size : Nat) {m : Nat} (hm : m = w0.heap.size) {F : Nat → Prop} (hF : F m) : Row (w0.alloc (.cells #[] e)) F e size (.slice (some ⟨m, 0, none⟩) 0 0) 0 [] := by
  subst hm
  exact (Row.made0 w0 e size).mono (fun k _ h => by subst h; exact hF)
set_option maxHeartbeats 8000000 in
theorem model_without (w : World) (G : Nat → Prop) (A : Option Addr) (c : Nat) (L : List Ent) (i : Nat) (h : Row w G 39 6 (.slice A L.length c) L.length (flatP L)) (hi : i < L.length) (hl : L.length ≤ 1073741824) (hin : In G w) :
    Calls Try.prog 64 #[.slice A L.length c, .int .i64 i] w fun e w' => ∃ A' c' G', e = .returned (.slice A' (L.eraseIdx i).length c') ∧ Row w' G' 39 6 (.slice A' (L.eraseIdx i).length c') (L.eraseIdx i).length (flatP (L.eraseIdx i)) ∧ In G' w' ∧ Keeps (fun _ => False) w w' ∧ Fresh (fun _ => False) G' w := by
  have hcap := h.cap
  obtain ⟨g, cur, rfl, hGg, hgb, hnc, hcm, -, -⟩ := h.blk (by omega)
  unfold maxLen at hcm
  obtain ⟨qq, s9, c9, hq1, hq2, hq3, hsrc⟩ := h.srcDrop (P := Try.prog) (t := 28) (flatP_one _) (i := i + 1) (by omega) Try.underlying28
  have HSRC := hidden hsrc
  have HROW := hidden h
  have hGW := hidden (show ∀ k, G k → k < w.heap.size from hin)
  have hrowK := hidden (fun (W' : World) (hk : Keeps (fun k => w.heap.size ≤ k) w W') => HROW.out.keeps hk (fun k hG hge => by have := hGW.out k hG; omega))
  have hw1 : IntKind.i64.wrap ((i : Int) + 1) = (i : Int) + 1 := by rw [IntKind.wrap_i64]; omega
  have hw2 : (0 : Int) ≤ (i : Int) + 1 := by omega
  have hw3 : ((i : Int) + 1).toNat = i + 1 := by omega
  have hw4 : (i : Int) ≤ (L.length : Int) := by omega
  have hw5 : (i : Int) + 1 ≤ (L.length : Int) := by omega
  have hw6 : (i : Int) ≤ (c : Int) := by omega
  have hw7 : (i : Int) + 1 ≤ (c : Int) := by omega
  clear hsrc hgb hcm h
  refine post_gen fun R hR => ?_
  have fin : Hid (∀ (A6 : Option Addr) (c6 n6 : Nat) (w6 : World) (G6 : Nat → Prop) (cs : List Value), Row w6 G6 39 6 (.slice A6 n6 c6) n6 cs → cs = flatP (L.take i) ++ flatP (L.drop (i + 1)) → n6 = L.length - 1 → (∀ k, G6 k → w.heap.size ≤ k) → Keeps (fun k => w.heap.size ≤ k) w w6 → R (.returned (.slice A6 n6 c6)) w6) := hidden (by
    intro A6 c6 n6 w6 G6 cs hr hcs hn hg hk
    have hlen : n6 = (L.eraseIdx i).length := by rw [List.length_eraseIdx_of_lt hi]; exact hn
    rw [hcs, ← flatP_append, ← List.eraseIdx_eq_take_drop_succ] at hr
    subst hlen
    exact hR.out _ _ ⟨A6, c6, fun k => w.heap.size ≤ k ∧ k < w6.heap.size, rfl, hr.mono (fun k hlt hk => ⟨hg k hk, hlt⟩), fun k hk => hk.2, hk.mono (fun k hlt hge => by omega), fun k hk => .inr hk.1⟩)
  clear hR
  go_enter Try.func64, Try.ntmps64
  go_wp2_with fail
  by_cases hz : c = i + 1
  · obtain ⟨rfl, rfl, rfl⟩ := hq1 hz
    have hl9 : L.length = i + 1 := by omega
    have hw8 : (i : Int) ≤ (i : Int) + 1 := by omega
    subst hz
    clear hq1 hq2 hq3
    go_region_held3 (fun w' => True) (exact True.intro) (first | (refine app_step rfl (fun k => w.heap.size ≤ k) _ _ _ _ _ _ 6 64 rfl Try.underlying28 info_pair rfl (by decide) (.slice (some ⟨w.heap.size, 0, none⟩) 0 0) 0 [] rfl (madeP _ _ _ rfl (Nat.le_refl _)) _ rfl i (flatP (L.take i)) (by rw [← flatP_take]; exact (hrowK.out _ (((Keeps.refl _ w).drewN _).alloc _)).srcTake (flatP_one _) (by omega) Try.underlying28) (by omega) (by omega) ?_; intro A5 c5 w5 hR5 hK5; have HK5 := hidden ((((Keeps.refl (fun k => w.heap.size ≤ k) w).drewN _).alloc _).trans hK5 (fun k _ e => by simp [Value.ownBlock] at e; omega)); have HR5 := hidden hR5; clear hR5 hK5) | (refine app_step rfl (fun k => w.heap.size ≤ k) _ _ _ _ _ _ 6 64 rfl Try.underlying28 info_pair rfl (by decide) _ _ _ rfl (HR5.out.mono (fun k _ h => h.elim id (fun h => by simp at h; omega))) _ rfl _ (flatP (L.drop (i + 1))) (by rw [← flatP_drop _ _ hi]; exact (HSRC.out _ _ (hrowK.out _ HK5.out))) (by omega) (by omega) ?_; intro A6 c6 w6 hR6 hK6; have HK6 := hidden (HK5.out.trans hK6 (fun k _ e => by have h := HR5.out.2 k e; simp at h; show w.heap.size ≤ k; omega)); have HR6 := hidden hR6; clear hR6 hK6))
    all_goals
      go_wp2_with fail
      have hr6 := HR6.out
      simp only [Nat.zero_add, Nat.add_zero, List.nil_append] at hr6
      exact fin.out _ _ _ _ _ _ hr6 (by first | rfl | simp) (by omega) (fun k h => by have := HK5.out.size; rcases h with h | h <;> omega) HK6.out
  · obtain ⟨rfl, rfl, rfl⟩ := hq2 hz
    clear hq1 hq2
    go_region_held3 (fun w' => True) (exact True.intro) (first | (refine app_step rfl (fun k => w.heap.size ≤ k) _ _ _ _ _ _ 6 64 rfl Try.underlying28 info_pair rfl (by decide) (.slice (some ⟨w.heap.size, 0, none⟩) 0 0) 0 [] rfl (madeP _ _ _ rfl (Nat.le_refl _)) _ rfl i (flatP (L.take i)) (by rw [← flatP_take]; exact (hrowK.out _ (((Keeps.refl _ w).drewN _).alloc _)).srcTake (flatP_one _) (by omega) Try.underlying28) (by omega) (by omega) ?_; intro A5 c5 w5 hR5 hK5; have HK5 := hidden ((((Keeps.refl (fun k => w.heap.size ≤ k) w).drewN _).alloc _).trans hK5 (fun k _ e => by simp [Value.ownBlock] at e; omega)); have HR5 := hidden hR5; clear hR5 hK5) | (refine app_step rfl (fun k => w.heap.size ≤ k) _ _ _ _ _ _ 6 64 rfl Try.underlying28 info_pair rfl (by decide) _ _ _ rfl (HR5.out.mono (fun k _ h => h.elim id (fun h => by simp at h; omega))) _ rfl _ (flatP (L.drop (i + 1))) (by rw [← flatP_drop _ _ hi]; exact (HSRC.out _ _ (hrowK.out _ HK5.out))) (by omega) (by omega) ?_; intro A6 c6 w6 hR6 hK6; have HK6 := hidden (HK5.out.trans hK6 (fun k _ e => by have h := HR5.out.2 k e; simp at h; show w.heap.size ≤ k; omega)); have HR6 := hidden hR6; clear hR6 hK6))
    all_goals
      go_wp2_with fail
      have hr6 := HR6.out
      simp only [Nat.zero_add, Nat.add_zero, List.nil_append] at hr6
      exact fin.out _ _ _ _ _ _ hr6 (by first | rfl | simp) (by omega) (fun k h => by have := HK5.out.size; rcases h with h | h <;> omega) HK6.out
end Go.Proofs.Ytpaefeknbpfpmaa
