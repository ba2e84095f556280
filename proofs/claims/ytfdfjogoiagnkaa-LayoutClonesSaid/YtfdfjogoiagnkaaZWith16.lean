/- Layer 16: the statements' with and same. -/
import Derived.Test.YtfdfjogoiagnkaaZQ16
import Derived.Deep.RegionHeld3
namespace Go.Proofs.Ytfdfjogoiagnkaa
open Go.RowKit
set_option maxRecDepth 100000

theorem info_pair16 : (Try.prog.info? 56).map (fun i => (i.zero, i.size, i.bytes)) = some (some (.agg #[.int .i64 0, .int .i64 0, .string ⟨#[]⟩, .int .i64 0, .int .i64 0, .string ⟨#[]⟩]), 6, 64) := by kernel_rfl
set_option maxHeartbeats 8000000 in
theorem with16 (w : World) (A : Option Addr) (c : Nat) (E : List (V × V)) (p : V × V) (h : Qs w A E) (hl : E.length ≤ 1048576) :
    Calls Try.prog 20 #[.slice A E.length c, .agg #[.int .i64 p.1.k, .int .i64 p.1.n, .string p.1.t, .int .i64 p.2.k, .int .i64 p.2.n, .string p.2.t]] w fun e w' => ∃ A' c' F', e = .returned (.slice A' (withQ E p).length c') ∧ Row w' F' 56 6 (.slice A' (withQ E p).length c') (withQ E p).length (flatQ (withQ E p)) ∧ In F' w' ∧ Keeps (fun _ => False) w w' ∧ Fresh (fun _ => False) F' w := by
  have HQ := hidden h
  clear h
  obtain ⟨⟨kk, kn, kt⟩, ⟨vk, vn, vt⟩⟩ := p
  refine post_gen fun R hR => ?_
  go_enter Try.func20, Try.ntmps20
  go_wp2_with (at_builtin; refine app_list rfl (fun k => w.heap.size < k) _ _ _ _ _ _ 6 64 rfl Try.underlying48 info_pair16 rfl (by decide) _ 0 [] rfl (madeQ (m := w.heap.size + 1) (w.alloc _) _ _ (by simp) (show w.heap.size < w.heap.size + 1 by omega)) _ rfl _ _ ((HQ.out.calm (((Keeps.refl _ w).alloc _).alloc _)).src Try.underlying48) (by omega) (by omega) ?_; intro A1 c1 w1 hR1 hK1; have R1 := hidden hR1; have K1 := hidden hK1; clear hR1 hK1)
  have KO := hidden (K1.out.mono (T := fun k => k = w.heap.size + 1) (fun k _ h => by
    have h2 : some (w.heap.size + 1) = some k := h
    exact (Option.some.inj h2).symm))
  have KA := hidden (show Keeps (fun _ => False) w w1 from (((Keeps.refl (fun _ => False) w).alloc _).alloc _).trans KO.out (fun i hi h => absurd h (by omega)))
  have R2 := hidden (show Row w1 (fun k => w.heap.size < k ∧ k < w1.heap.size) 56 6 (.slice A1 E.length c1) E.length (flatQ E) from by
    have h := R1.out
    rw [Nat.zero_add, List.nil_append] at h
    exact h.mono (fun k hlt hk => ⟨hk.elim id (fun h => by simp at h; omega), hlt⟩))
  have PB := hidden (show w1.heap[w.heap.size]? = some (.cells #[.int .i64 kk, .int .i64 kn, .string kt, .int .i64 vk, .int .i64 vn, .string vt] 56 (0, 0)) from KO.out.heap (blk_alloc (blk_new w _) _) (fun e => by omega))
  clear R1 K1
  go_loopw [12] (fun i wr => ∃ k : Nat, k ≤ E.length ∧ i = .int .i64 k ∧ Hid (∀ (j : Nat) (hj : j < E.length), j < k → E[j].1 ≠ ⟨kk, kn, kt⟩) ∧ Drew w1 wr) (fun i _ => E.length - (intOf i).toNat)
  case atStart => exact ⟨0, Nat.zero_le _, rfl, hidden (fun j hj h => absurd h (by omega)), Drew.refl _⟩
  case round =>
    obtain ⟨k, hk, rfl, HNO, hD⟩ := hrel
    have HD := hidden hD
    have RK := hidden (R2.out.keeps (hD.keeps (fun _ => False)) (Apart.no _))
    have PK := hidden ((hD.keeps (fun _ => False)).heap PB.out (fun h => h))
    have p0 := blk_cell PK.out 0
    have p1 := blk_cell PK.out 1
    have p2 := blk_cell PK.out 2
    have p3 := blk_cell PK.out 3
    have p4 := blk_cell PK.out 4
    have p5 := blk_cell PK.out 5
    have hpz := blk_lt PK.out
    simp only [List.getElem?_toArray, List.getElem?_cons_zero, List.getElem?_cons_succ] at p0 p1 p2 p3 p4 p5
    clear hD
    by_cases hlt : k < E.length
    · obtain ⟨g, rfl, hFg, hgz, hq, hfr⟩ := RK.out.openQ hlt
      have f0 := hfr (k * 6)
      have f1 := hfr (k * 6 + 1)
      have f2 := hfr (k * 6 + 2)
      have f3 := hfr (k * 6 + 3)
      have f4 := hfr (k * 6 + 4)
      have f5 := hfr (k * 6 + 5)
      obtain ⟨e0, e1, e2, e3, e4, e5⟩ := hq
      rw [Nat.zero_add] at e0 e1 e2 e3 e4 e5
      have HNX := hidden (show E[k].1 ≠ ⟨kk, kn, kt⟩ → ∀ (j : Nat) (hj : j < E.length), j < k + 1 → E[j].1 ≠ ⟨kk, kn, kt⟩ from fun h j hj hjk => by
        by_cases e : j = k
        · subst e; exact h
        · exact HNO.out j hj (by omega))
      have HYES := hidden (show E[k].1 = ⟨kk, kn, kt⟩ → withQ E (⟨kk, kn, kt⟩, ⟨vk, vn, vt⟩) = E.set k (⟨kk, kn, kt⟩, ⟨vk, vn, vt⟩) from fun h => withQ_at hlt h HNO.out)
      clear hfr
      generalize E[k] = x at *
      obtain ⟨⟨xk, xn, xt⟩, ⟨yk, yn, yt⟩⟩ := x
      simp only at e0 e1 e2 e3 e4 e5 HNX HYES
      by_cases hx : (⟨xk, xn, xt⟩ : V) = ⟨kk, kn, kt⟩
      · have HY := hidden (HYES.out hx)
        simp only [V.mk.injEq] at hx
        obtain ⟨rfl, rfl, rfl⟩ := hx
        clear HYES HNX
        go_wp2_with fail
        go_quiet (fail)
        go_wp2_with fail
        have hr := (RK.out.drewN nq).putQ hlt (⟨xk, xn, xt⟩, ⟨vk, vn, vt⟩)
        rw [HY.out] at hR
        have hlen : (E.set k ((⟨xk, xn, xt⟩ : V), (⟨vk, vn, vt⟩ : V))).length = E.length := List.length_set
        have hkp := (((HD.out.keeps (fun k => k = g)).drewN nq).trans ((SameBut.refl g (wr.drewN nq)).putQ k ((⟨xk, xn, xt⟩ : V), (⟨vk, vn, vt⟩ : V))).keeps (fun _ _ h => h))
        rw [hlen] at hR
        exact hR.out _ _ ⟨_, _, _, rfl, hr, fun j hj => Nat.lt_of_lt_of_le hj.2 hkp.size, KA.out.trans hkp (fun i hi h => absurd hFg.1 (by rw [← h]; omega)), fun j hj => .inr (Nat.le_of_lt hj.1)⟩
      · have HN2 := hidden (HNX.out hx)
        clear HYES HNX
        rcases V.ne_cases' hx with d0 | ⟨d0, d1⟩ | ⟨d0, d1, d2⟩
        · have d3 : ¬ xk = kk := fun e => d0 e.symm
          have d4 : (xk == kk) = false := beq_eq_false_iff_ne.2 d3
          clear hx d0
          go_wp2_with fail
          go_quiet (fail)
          go_wp2_with fail
          go_roundw
          case rel => exact ⟨k + 1, hlt, by go_num, HN2, HD.out.drewN _⟩
          case measure => simp [intOf]; omega
        · have d3 : ¬ xn = kn := fun e => d1 e.symm
          have d4 : (xn == kn) = false := beq_eq_false_iff_ne.2 d3
          obtain rfl : kk = xk := d0
          clear hx d1
          go_wp2_with fail
          go_quiet (fail)
          go_wp2_with fail
          go_roundw
          case rel => exact ⟨k + 1, hlt, by go_num, HN2, HD.out.drewN _⟩
          case measure => simp [intOf]; omega
        · have d3 : ¬ xt.toList = kt.toList := fun e => d2 e.symm
          have d5 : ¬ xt = kt := fun e => d3 (by rw [e])
          obtain rfl : kk = xk := d0
          obtain rfl : kn = xn := d1
          clear hx d2
          go_wp2_with fail
          go_quiet (fail)
          go_wp2_with fail
          go_roundw
          case rel => exact ⟨k + 1, hlt, by go_num, HN2, HD.out.drewN _⟩
          case measure => simp [intOf]; omega
    · obtain rfl : k = E.length := by omega
      have HW := hidden (show withQ E (⟨kk, kn, kt⟩, ⟨vk, vn, vt⟩) = E ++ [(⟨kk, kn, kt⟩, ⟨vk, vn, vt⟩)] from withQ_no (fun j hj => HNO.out j hj hj))
      have hwr : w.heap.size < wr.heap.size := hpz
      clear HNO hlt
      go_wp2_with (at_builtin; refine app_list rfl (fun k => w.heap.size < k) _ _ _ _ _ _ 6 64 rfl Try.underlying48 info_pair16 rfl (by decide) _ _ _ rfl ((RK.out.mono (fun k _ h => h.1)).alloc _) _ rfl 1 _ ((Qs.lit wr ((⟨kk, kn, kt⟩ : V), (⟨vk, vn, vt⟩ : V)) 56 rfl).src Try.underlying48) (by omega) (by omega) ?_; intro A3 c3 w3 hR3 hK3; have R3 := hidden hR3; have K3 := hidden hK3; clear hR3 hK3)
      have hlen : (E ++ [((⟨kk, kn, kt⟩ : V), (⟨vk, vn, vt⟩ : V))]).length = E.length + 1 := by simp
      have hr := R3.out
      rw [← flatQ_append] at hr
      have hkw := HD.out.keeps (fun _ => False)
      rw [HW.out, hlen] at hR
      have hK3 := K3.out.mono (T := fun k => w.heap.size < k ∧ k < w1.heap.size) (fun k _ e => RK.out.2 k e)
      exact hR.out _ _ ⟨_, _, _, rfl, hr.mono (G := fun k => w.heap.size < k ∧ k < w3.heap.size) (fun j hlt hj => ⟨hj.elim id (fun h => by simp at h; omega), hlt⟩), fun j hj => hj.2, (KA.out.trans (hkw.alloc _) (fun _ _ h => h)).trans hK3 (fun i hi h => absurd h.1 (by omega)), fun j hj => .inr (Nat.le_of_lt hj.1)⟩
set_option maxHeartbeats 8000000 in
theorem same16 (w : World) (F : Nat → Prop) (b : Nat) (A : Option Addr) (c : Nat) (L : List Ent) (s : Int) (h : IsT w F b L s) (hs : s < 1073741823) (hq : Qs w A (L.map Ent.kv)) :
    Calls Try.prog 25 #[.pointer (some ⟨b, 0, none⟩), .slice A L.length c] w fun e w' => e = .returned (.bool true) ∧ Keeps (fun _ => False) w w' := by
  have HQ := hidden hq
  have CL := hidden (t_Len h)
  have CK := hidden (fun (W : World) (hk : Keeps (fun _ => False) w W) => t_Keys (h.none hk) hs)
  have CV := hidden (fun (W : World) (hk : Keeps (fun _ => False) w W) => t_Vals (h.none hk) hs)
  have hmost := h.lok.most
  clear h hq
  refine post_gen fun R hR => ?_
  go_enter Try.func25, Try.ntmps25
  go_wp2_with (go_at_call 57; refine CL.out.mono ?_; rintro e _ ⟨rfl, rfl⟩)
  refine (CK.out _ (Keeps.refl _ _)).mono ?_
  rintro e w1 ⟨A1, c1, F1, rfl, hR1, hK1, -⟩
  have K1 := hidden hK1
  have V1 := hidden (Vals.own hR1.1)
  clear hR1 hK1
  go_wp2_with fail
  refine (CV.out _ K1.out).mono ?_
  rintro e w2 ⟨A2, c2, F2, rfl, hR2, hK2, -⟩
  have K2 := hidden (K1.out.trans hK2 (fun _ _ h => h))
  have V1b := hidden (V1.out.keeps hK2 (fun _ _ _ _ h => h))
  have V2 := hidden (Vals.own hR2.1)
  clear hR2 hK2 V1 K1 CL CK CV
  go_wp2_with fail
  go_loopw [24] (fun i wr => ∃ k : Nat, k ≤ L.length ∧ i = .int .i64 k ∧ Keeps (fun _ => False) w2 wr) (fun i _ => L.length - (intOf i).toNat)
  case atStart => exact ⟨0, Nat.zero_le _, rfl, Keeps.refl _ _⟩
  case round =>
    obtain ⟨k, hk, rfl, hK⟩ := hrel
    have HK := hidden hK
    clear hK
    by_cases hlt : k < L.length
    · obtain ⟨g, o, rfl, e0, e1, e2, e3, e4, e5⟩ := (HQ.out.calm (K2.out.trans HK.out (fun _ _ h => h))) k (L[k]).kv (by simp [hlt])
      obtain ⟨g1, o1, rfl, a0, a1, a2⟩ := (V1b.out.keeps HK.out (fun _ _ _ _ h => h)) k L[k].key (by simp [hlt])
      obtain ⟨g2, o2, rfl, b0, b1, b2⟩ := (V2.out.keeps HK.out (fun _ _ _ _ h => h)) k L[k].val (by simp [hlt])
      have hgz := World.block_lt_of_cell? wr _ e0
      have hgz1 := World.block_lt_of_cell? wr _ a0
      have hgz2 := World.block_lt_of_cell? wr _ b0
      generalize L[k] = x at *
      obtain ⟨⟨xk, xn, xt⟩, ⟨yk, yn, yt⟩, xs, xg⟩ := x
      simp only [Ent.kv] at e0 e1 e2 e3 e4 e5 a0 a1 a2 b0 b1 b2
      go_wp2_with fail
      go_quiet (fail)
      go_wp2_with fail
      go_roundw
      case rel => exact ⟨k + 1, hlt, by go_num, (HK.out.alloc _).drewN _⟩
      case measure => simp [intOf]; omega
    · obtain rfl : k = L.length := by omega
      go_wp2_with fail
      exact hR.out _ _ ⟨rfl, K2.out.trans HK.out (fun _ _ h => h)⟩
end Go.Proofs.Ytfdfjogoiagnkaa
