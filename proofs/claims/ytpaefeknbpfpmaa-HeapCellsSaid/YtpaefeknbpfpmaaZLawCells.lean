/- dreylaw06.HeapCells: the walk's end. -/
import Derived.Test.YtpaefeknbpfpmaaZLawCellsB
namespace Go.Proofs.Ytpaefeknbpfpmaa
open Go.RowKit
set_option maxRecDepth 100000
set_option linter.unusedSimpArgs false
set_option maxHeartbeats 8000000 in
theorem cells_rest (ok : Int) : cells_G.1 ok := by
  intro w kind other Av An lp0 tp0 cv cn xs ns text hl1 hl2 ht HV0 HN0 NV NN R w1 h50 hn50 h200 qq_0 qq_1 qq_2 qq_3 qq_4 qq_5 u6 u43 u44 u45 u46 u47 u48 u49 hk qq_6 qq_7 qq_8 w2 lb LF LF2 w3 w4 hb F0 hk1 hk11 cl w5 i p F' H' s' HCL qq_9 w6 w7 Fv A1 cap1 lp1 tp1 An1 cn1 nq w8 cs w9 A9 c9 F9 w10 A10 c10 F10 qq_10 qq_11 qq_12 qq_13 u14 u151 u152 u153 u154 u155 u156 u157 u158 u159 u160 u161 u162 hk3 hlt2 qq_14 qq_15 qq_16 qq_17 qq_18 wo wr u4 u15 u167 u168 u169 u170 u171 u172 u173 u174 u175 u176 u177 u178 u179 u180 u181 u182 u183 u184 u185 u186 u187 u188 u189 hk4 HVK F H s HD HI HKC SK CR CIa CT TS kn TY NM CST FIN SF
  have key : ∃ (pr : Option Addr) (ee : Int) (b0 b1 : Bool), (∀ (W : World) (_ : Keeps (fun _ => False) wr W), Calls Try.prog 32 #[.pointer (some ⟨hb, 0, none⟩), V.val ⟨4, i, ⟨#[]⟩⟩, .int .i64 other] W fun e w' => e = .returned (.tuple #[.pointer pr, .int .i64 ee]) ∧ Keeps (fun _ => False) W w') ∧
      ((other == 0) = b0) ∧ ((other == kind) = b1) ∧ (((b0 || b1) = true ∧ ee = 0) ∨ ((b0 || b1) = false ∧ ee = 30)) := by
    by_cases ho : other = 0 ∨ kind = other
    · refine ⟨some ⟨p, 0, none⟩, 0, _, _, fun W hk => heap_Of_ok (HD.out.heap.calm hk) HI.out other ⟨#[]⟩ (by rw [HKC.out]; exact ho), rfl, rfl, .inl ⟨?_, rfl⟩⟩
      rcases ho with ho | ho <;> simp [ho]
    · refine ⟨none, 30, _, _, fun W hk => heap_Of_kind (HD.out.heap.calm hk) HI.out other ⟨#[]⟩ (fun e => ho (.inl e)) (by rw [HKC.out]; exact fun e => ho (.inr e)), rfl, rfl, .inr ⟨?_, rfl⟩⟩
      simp only [not_or] at ho
      simp [ho.1, Ne.symm ho.2]
  obtain ⟨pr, ee, b0, b1, CO, hb0, hb1, hbe⟩ := key
  have CO := hidden CO
  unfold V.val at CO
  rcases hbe with ⟨hbb, rfl⟩ | ⟨hbb, rfl⟩
  ·
    obtain ⟨x0, x1, x2, x3, x4, x5, x6, x7, hcz⟩ := SF.out
    go_wp2_with fail
    refine (CR.out _).mono ?_
    rintro e w14 ⟨rfl, h1⟩
    have K14 := hidden h1
    clear h1
    go_wp2_with fail
    refine (CO.out _ K14.out).mono ?_
    rintro e w15 ⟨rfl, h1⟩
    have K15 := hidden (K14.out.trans h1 (fun _ _ h => h))
    clear h1
    go_wp2_with fail
    refine (CIa.out _).mono ?_
    rintro e w16 ⟨rfl, h1⟩
    have K16 := hidden (K15.out.trans h1 (fun _ _ h => h))
    clear h1
    go_wp2_with fail
    refine (CT.out _).mono ?_
    rintro e w17 ⟨rfl, h1⟩
    have K17 := hidden (K16.out.trans h1 (fun _ _ h => h))
    have x0 := SK.out _ K17.out
    have hcz := World.block_lt_of_cell? w17 _ x0
    clear h1 K14 K15 K16
    cases b0 <;> cases b1 <;> first | (cases hbb; done) | skip
    all_goals
      go_wp2_with fail
      clear x0 hcz
      refine wp_region_noPanic ?_
      refine wp_region_held_drew (S := (fun W' => W'.cell? ⟨w.heap.size, 0, none⟩ = some (.int .i64 kind))) (by kernel_rfl) ?_ (fun hHeld => ?_)
      · ((try dsimp only); (first | exact SK.out _ K17.out | exact SK.out _ (K17.out.drewN _) | exact SK.out _ K22.out | exact SK.out _ K21.out | exact SK.out _ K20.out | exact SK.out _ K19.out | exact SK.out _ K18.out))
      refine wpAnyH_take (i := 0) (oi := ⟨_, _, _, _, _, _⟩) (v := ?_) rfl (by kernel_rfl) (by kernel_rfl) (by kernel_rfl) (fun _ _ _ h => h) (Or.inl ⟨by rfl, ?_⟩) hHeld ?_
      rotate_left
      · (intro w' hSw; (try dsimp only at hSw); go_simp; (try with_reducible rfl))
      try simp only [Act.put, List.setIfInBounds_toArray, List.set_cons_zero, List.set_cons_succ]
      refine wpAnyH_take (i := 1) (oi := ⟨_, _, _, _, _, _⟩) (v := ?_) rfl (by kernel_rfl) (by kernel_rfl) (by kernel_rfl) (fun _ _ _ h => h) (Or.inl ⟨by rfl, ?_⟩) hHeld ?_
      rotate_left
      · (intro w' hSw; (try dsimp only at hSw); go_simp; (try with_reducible rfl))
      try simp only [Act.put, List.setIfInBounds_toArray, List.set_cons_zero, List.set_cons_succ]
      refine wpAnyH_take (i := 2) (oi := ⟨_, _, _, _, _, _⟩) (v := ?_) rfl (by kernel_rfl) (by kernel_rfl) (by kernel_rfl) (fun _ _ _ h => h) (Or.inl ⟨by rfl, ?_⟩) hHeld ?_
      rotate_left
      · (intro w' hSw; (try dsimp only at hSw); go_simp; (try with_reducible rfl))
      try simp only [Act.put, List.setIfInBounds_toArray, List.set_cons_zero, List.set_cons_succ]
      refine wpAnyH_take (i := 3) (oi := ⟨_, _, _, _, _, _⟩) (v := ?_) rfl (by kernel_rfl) (by kernel_rfl) (by kernel_rfl) (fun _ _ _ h => h) (Or.inl ⟨by rfl, ?_⟩) hHeld ?_
      rotate_left
      · (intro w' hSw; (try dsimp only at hSw); go_simp; (try with_reducible rfl))
      try simp only [Act.put, List.setIfInBounds_toArray, List.set_cons_zero, List.set_cons_succ]
      refine wpAnyH_take (i := 4) (oi := ⟨_, _, _, _, _, _⟩) (v := ?_) rfl (by kernel_rfl) (by kernel_rfl) (by kernel_rfl) (fun _ _ _ h => h) (Or.inl ⟨by rfl, ?_⟩) hHeld ?_
      rotate_left
      · (intro w' hSw; (try dsimp only at hSw); go_simp; (try with_reducible rfl))
      try simp only [Act.put, List.setIfInBounds_toArray, List.set_cons_zero, List.set_cons_succ]
      refine wpAnyH_take (i := 5) (oi := ⟨_, _, _, _, _, _⟩) (v := ?_) rfl (by kernel_rfl) (by kernel_rfl) (by kernel_rfl) (fun _ _ _ h => h) (Or.inl ⟨by rfl, ?_⟩) hHeld ?_
      rotate_left
      · (intro w' hSw; (try dsimp only at hSw); go_simp; (try with_reducible rfl))
      try simp only [Act.put, List.setIfInBounds_toArray, List.set_cons_zero, List.set_cons_succ]
      refine wpAnyH_take (i := 6) (oi := ⟨_, _, _, _, _, _⟩) (v := ?_) rfl (by kernel_rfl) (by kernel_rfl) (by kernel_rfl) (fun _ _ _ h => h) (Or.inl ⟨by rfl, ?_⟩) hHeld ?_
      rotate_left
      · (intro w' hSw; (try dsimp only at hSw); go_simp; (try with_reducible rfl))
      try simp only [Act.put, List.setIfInBounds_toArray, List.set_cons_zero, List.set_cons_succ]
      refine wpAnyH_take (i := 7) (oi := ⟨_, _, _, _, _, _⟩) (v := undef) rfl (by kernel_rfl) (by kernel_rfl) (by kernel_rfl) (fun _ _ _ h => h) (Or.inr ⟨by rfl, rfl⟩) hHeld ?_
      try simp only [Act.put, List.setIfInBounds_toArray, List.set_cons_zero, List.set_cons_succ]
      refine wpAnyH_take (i := 8) (oi := ⟨_, _, _, _, _, _⟩) (v := undef) rfl (by kernel_rfl) (by kernel_rfl) (by kernel_rfl) (fun _ _ _ h => h) (Or.inr ⟨by rfl, rfl⟩) hHeld ?_
      try simp only [Act.put, List.setIfInBounds_toArray, List.set_cons_zero, List.set_cons_succ]
      refine wpAnyH_take (i := 9) (oi := ⟨_, _, _, _, _, _⟩) (v := ?_) rfl (by kernel_rfl) (by kernel_rfl) (by kernel_rfl) (fun _ _ _ h => h) (Or.inl ⟨by rfl, ?_⟩) hHeld ?_
      rotate_left
      · (intro w' hSw; (try dsimp only at hSw); go_simp; (try with_reducible rfl))
      try simp only [Act.put, List.setIfInBounds_toArray, List.set_cons_zero, List.set_cons_succ]
      refine wpAnyH_take (i := 10) (oi := ⟨_, _, _, _, _, _⟩) (v := ?_) rfl (by kernel_rfl) (by kernel_rfl) (by kernel_rfl) (fun _ _ _ h => h) (Or.inl ⟨by rfl, ?_⟩) hHeld ?_
      rotate_left
      · (intro w' hSw; (try dsimp only at hSw); go_simp; (try with_reducible rfl))
      try simp only [Act.put, List.setIfInBounds_toArray, List.set_cons_zero, List.set_cons_succ]
      refine wpAnyH_take (i := 11) (oi := ⟨_, _, _, _, _, _⟩) (v := ?_) rfl (by kernel_rfl) (by kernel_rfl) (by kernel_rfl) (fun _ _ _ h => h) (Or.inl ⟨by rfl, ?_⟩) hHeld ?_
      rotate_left
      · (intro w' hSw; (try dsimp only at hSw); go_simp; (try with_reducible rfl))
      try simp only [Act.put, List.setIfInBounds_toArray, List.set_cons_zero, List.set_cons_succ]
      refine wpAnyH_take (i := 12) (oi := ⟨_, _, _, _, _, _⟩) (v := ?_) rfl (by kernel_rfl) (by kernel_rfl) (by kernel_rfl) (fun _ _ _ h => h) (Or.inl ⟨by rfl, ?_⟩) hHeld ?_
      rotate_left
      · (intro w' hSw; (try dsimp only at hSw); go_simp; (try with_reducible rfl))
      try simp only [Act.put, List.setIfInBounds_toArray, List.set_cons_zero, List.set_cons_succ]
      refine wpAnyH_take (i := 13) (oi := ⟨_, _, _, _, _, _⟩) (v := ?_) rfl (by kernel_rfl) (by kernel_rfl) (by kernel_rfl) (fun _ _ _ h => h) (Or.inl ⟨by rfl, ?_⟩) hHeld ?_
      rotate_left
      · (intro w' hSw; (try dsimp only at hSw); go_simp; (try with_reducible rfl))
      try simp only [Act.put, List.setIfInBounds_toArray, List.set_cons_zero, List.set_cons_succ]
      refine wpAnyH_take (i := 14) (oi := ⟨_, _, _, _, _, _⟩) (v := ?_) rfl (by kernel_rfl) (by kernel_rfl) (by kernel_rfl) (fun _ _ _ h => h) (Or.inl ⟨by rfl, ?_⟩) hHeld ?_
      rotate_left
      · (intro w' hSw; (try dsimp only at hSw); go_simp; (try with_reducible rfl))
      try simp only [Act.put, List.setIfInBounds_toArray, List.set_cons_zero, List.set_cons_succ]
      refine wpAnyH_take (i := 15) (oi := ⟨_, _, _, _, _, _⟩) (v := ?_) rfl (by kernel_rfl) (by kernel_rfl) (by kernel_rfl) (fun _ _ _ h => h) (Or.inl ⟨by rfl, ?_⟩) hHeld ?_
      rotate_left
      · (intro w' hSw; (try dsimp only at hSw); go_simp; (try with_reducible rfl))
      try simp only [Act.put, List.setIfInBounds_toArray, List.set_cons_zero, List.set_cons_succ]
      refine wpAnyH_take (i := 16) (oi := ⟨_, _, _, _, _, _⟩) (v := ?_) rfl (by kernel_rfl) (by kernel_rfl) (by kernel_rfl) (fun _ _ _ h => h) (Or.inl ⟨by rfl, ?_⟩) hHeld ?_
      rotate_left
      · (intro w' hSw; (try dsimp only at hSw); go_simp; (try with_reducible rfl))
      try simp only [Act.put, List.setIfInBounds_toArray, List.set_cons_zero, List.set_cons_succ]
      refine wpAnyH_take (i := 17) (oi := ⟨_, _, _, _, _, _⟩) (v := ?_) rfl (by kernel_rfl) (by kernel_rfl) (by kernel_rfl) (fun _ _ _ h => h) (Or.inl ⟨by rfl, ?_⟩) hHeld ?_
      rotate_left
      · (intro w' hSw; (try dsimp only at hSw); go_simp; (try with_reducible rfl))
      try simp only [Act.put, List.setIfInBounds_toArray, List.set_cons_zero, List.set_cons_succ]
      refine wpAnyH_take (i := 20) (oi := ⟨_, _, _, _, _, _⟩) (v := ?_) rfl (by kernel_rfl) (by kernel_rfl) (by kernel_rfl) (fun _ _ _ h => h) (Or.inl ⟨by rfl, ?_⟩) hHeld ?_
      rotate_left
      · (intro w' hSw; (try dsimp only at hSw); go_simp; (try with_reducible rfl))
      try simp only [Act.put, List.setIfInBounds_toArray, List.set_cons_zero, List.set_cons_succ]
      refine wpAnyH_take (i := 21) (oi := ⟨_, _, _, _, _, _⟩) (v := ?_) rfl (by kernel_rfl) (by kernel_rfl) (by kernel_rfl) (fun _ _ _ h => h) (Or.inl ⟨by rfl, ?_⟩) hHeld ?_
      rotate_left
      · (intro w' hSw; (try dsimp only at hSw); go_simp; (try with_reducible rfl))
      try simp only [Act.put, List.setIfInBounds_toArray, List.set_cons_zero, List.set_cons_succ]
      refine wpAnyH_ready (rs := [18]) (by kernel_rfl) (by simp) ?_
      refine AllReadyH.cons (o := ⟨_, _, _, _, _, _⟩) rfl (fun K hK => ?_) AllReadyH.nil
      go_simp
      (first | (go_at_call 24; refine (CR.out _).mono ?_; rintro e w18 ⟨rfl, h1⟩; have K18 := hidden ((K17.out.drewN _).trans h1 (fun _ _ h => h)); clear h1) | (go_at_call 36; refine (TY.out _ K18.out).mono ?_; rintro e w19 ⟨rfl, h1⟩; have K19 := hidden (K18.out.trans h1 (fun _ _ h => h)); clear h1 TY) | (go_at_call 31; refine (NM.out _).mono ?_; rintro e w20 ⟨rfl, h1⟩; have K20 := hidden (K19.out.trans h1 (fun _ _ h => h)); clear h1) | (go_at_call 37; refine (CST.out _).mono ?_; rintro e w21 ⟨rfl, h1⟩; have K21 := hidden (K20.out.trans h1 (fun _ _ h => h)); clear h1) | (go_at_call 36; refine (TS.out _).mono ?_; rintro e w22 ⟨rfl, h1⟩; have K22 := hidden (K21.out.trans h1 (fun _ _ h => h)); clear h1))
      go_wp2_with fail
      refine hK.out _ _ ?_ (fun hH2 => ?_)
      · ((try dsimp only); (first | exact SK.out _ K17.out | exact SK.out _ (K17.out.drewN _) | exact SK.out _ K22.out | exact SK.out _ K21.out | exact SK.out _ K20.out | exact SK.out _ K19.out | exact SK.out _ K18.out))
      clear hK K hHeld
      have hHeld := hH2
      clear hH2
      try simp only [Act.put, List.setIfInBounds_toArray, List.set_cons_zero, List.set_cons_succ]
      refine wpAnyH_ready (rs := [19]) (by kernel_rfl) (by simp) ?_
      refine AllReadyH.cons (o := ⟨_, _, _, _, _, _⟩) rfl (fun K hK => ?_) AllReadyH.nil
      go_simp
      (first | (go_at_call 24; refine (CR.out _).mono ?_; rintro e w18 ⟨rfl, h1⟩; have K18 := hidden ((K17.out.drewN _).trans h1 (fun _ _ h => h)); clear h1) | (go_at_call 36; refine (TY.out _ K18.out).mono ?_; rintro e w19 ⟨rfl, h1⟩; have K19 := hidden (K18.out.trans h1 (fun _ _ h => h)); clear h1 TY) | (go_at_call 31; refine (NM.out _).mono ?_; rintro e w20 ⟨rfl, h1⟩; have K20 := hidden (K19.out.trans h1 (fun _ _ h => h)); clear h1) | (go_at_call 37; refine (CST.out _).mono ?_; rintro e w21 ⟨rfl, h1⟩; have K21 := hidden (K20.out.trans h1 (fun _ _ h => h)); clear h1) | (go_at_call 36; refine (TS.out _).mono ?_; rintro e w22 ⟨rfl, h1⟩; have K22 := hidden (K21.out.trans h1 (fun _ _ h => h)); clear h1))
      go_wp2_with fail
      refine hK.out _ _ ?_ (fun hH2 => ?_)
      · ((try dsimp only); (first | exact SK.out _ K17.out | exact SK.out _ (K17.out.drewN _) | exact SK.out _ K22.out | exact SK.out _ K21.out | exact SK.out _ K20.out | exact SK.out _ K19.out | exact SK.out _ K18.out))
      clear hK K hHeld
      have hHeld := hH2
      clear hH2
      try simp only [Act.put, List.setIfInBounds_toArray, List.set_cons_zero, List.set_cons_succ]
      refine wpAnyH_ready (rs := [22]) (by kernel_rfl) (by simp) ?_
      refine AllReadyH.cons (o := ⟨_, _, _, _, _, _⟩) rfl (fun K hK => ?_) AllReadyH.nil
      go_simp
      (first | (go_at_call 24; refine (CR.out _).mono ?_; rintro e w18 ⟨rfl, h1⟩; have K18 := hidden ((K17.out.drewN _).trans h1 (fun _ _ h => h)); clear h1) | (go_at_call 36; refine (TY.out _ K18.out).mono ?_; rintro e w19 ⟨rfl, h1⟩; have K19 := hidden (K18.out.trans h1 (fun _ _ h => h)); clear h1 TY) | (go_at_call 31; refine (NM.out _).mono ?_; rintro e w20 ⟨rfl, h1⟩; have K20 := hidden (K19.out.trans h1 (fun _ _ h => h)); clear h1) | (go_at_call 37; refine (CST.out _).mono ?_; rintro e w21 ⟨rfl, h1⟩; have K21 := hidden (K20.out.trans h1 (fun _ _ h => h)); clear h1) | (go_at_call 36; refine (TS.out _).mono ?_; rintro e w22 ⟨rfl, h1⟩; have K22 := hidden (K21.out.trans h1 (fun _ _ h => h)); clear h1))
      go_wp2_with fail
      refine hK.out _ _ ?_ (fun hH2 => ?_)
      · ((try dsimp only); (first | exact SK.out _ K17.out | exact SK.out _ (K17.out.drewN _) | exact SK.out _ K22.out | exact SK.out _ K21.out | exact SK.out _ K20.out | exact SK.out _ K19.out | exact SK.out _ K18.out))
      clear hK K hHeld
      have hHeld := hH2
      clear hH2
      try simp only [Act.put, List.setIfInBounds_toArray, List.set_cons_zero, List.set_cons_succ]
      refine wpAnyH_take (i := 23) (oi := ⟨_, _, _, _, _, _⟩) (v := ?_) rfl (by kernel_rfl) (by kernel_rfl) (by kernel_rfl) (fun _ _ _ h => h) (Or.inl ⟨by rfl, ?_⟩) hHeld ?_
      rotate_left
      · (intro w' hSw; (try dsimp only at hSw); go_simp; (try with_reducible rfl))
      try simp only [Act.put, List.setIfInBounds_toArray, List.set_cons_zero, List.set_cons_succ]
      refine wpAnyH_take (i := 24) (oi := ⟨_, _, _, _, _, _⟩) (v := ?_) rfl (by kernel_rfl) (by kernel_rfl) (by kernel_rfl) (fun _ _ _ h => h) (Or.inl ⟨by rfl, ?_⟩) hHeld ?_
      rotate_left
      · (intro w' hSw; (try dsimp only at hSw); go_simp; (try with_reducible rfl))
      try simp only [Act.put, List.setIfInBounds_toArray, List.set_cons_zero, List.set_cons_succ]
      refine wpAnyH_take (i := 25) (oi := ⟨_, _, _, _, _, _⟩) (v := ?_) rfl (by kernel_rfl) (by kernel_rfl) (by kernel_rfl) (fun _ _ _ h => h) (Or.inl ⟨by rfl, ?_⟩) hHeld ?_
      rotate_left
      · (intro w' hSw; (try dsimp only at hSw); go_simp; (try with_reducible rfl))
      try simp only [Act.put, List.setIfInBounds_toArray, List.set_cons_zero, List.set_cons_succ]
      refine wpAnyH_take (i := 26) (oi := ⟨_, _, _, _, _, _⟩) (v := ?_) rfl (by kernel_rfl) (by kernel_rfl) (by kernel_rfl) (fun _ _ _ h => h) (Or.inl ⟨by rfl, ?_⟩) hHeld ?_
      rotate_left
      · (intro w' hSw; (try dsimp only at hSw); go_simp; (try with_reducible rfl))
      try simp only [Act.put, List.setIfInBounds_toArray, List.set_cons_zero, List.set_cons_succ]
      refine wpAnyH_ready (rs := [27]) (by kernel_rfl) (by simp) ?_
      refine AllReadyH.cons (o := ⟨_, _, _, _, _, _⟩) rfl (fun K hK => ?_) AllReadyH.nil
      go_simp
      (first | (go_at_call 24; refine (CR.out _).mono ?_; rintro e w18 ⟨rfl, h1⟩; have K18 := hidden ((K17.out.drewN _).trans h1 (fun _ _ h => h)); clear h1) | (go_at_call 36; refine (TY.out _ K18.out).mono ?_; rintro e w19 ⟨rfl, h1⟩; have K19 := hidden (K18.out.trans h1 (fun _ _ h => h)); clear h1 TY) | (go_at_call 31; refine (NM.out _).mono ?_; rintro e w20 ⟨rfl, h1⟩; have K20 := hidden (K19.out.trans h1 (fun _ _ h => h)); clear h1) | (go_at_call 37; refine (CST.out _).mono ?_; rintro e w21 ⟨rfl, h1⟩; have K21 := hidden (K20.out.trans h1 (fun _ _ h => h)); clear h1) | (go_at_call 36; refine (TS.out _).mono ?_; rintro e w22 ⟨rfl, h1⟩; have K22 := hidden (K21.out.trans h1 (fun _ _ h => h)); clear h1))
      go_wp2_with fail
      refine hK.out _ _ ?_ (fun hH2 => ?_)
      · ((try dsimp only); (first | exact SK.out _ K17.out | exact SK.out _ (K17.out.drewN _) | exact SK.out _ K22.out | exact SK.out _ K21.out | exact SK.out _ K20.out | exact SK.out _ K19.out | exact SK.out _ K18.out))
      clear hK K hHeld
      have hHeld := hH2
      clear hH2
      try simp only [Act.put, List.setIfInBounds_toArray, List.set_cons_zero, List.set_cons_succ]
      refine wpAnyH_ready (rs := [28]) (by kernel_rfl) (by simp) ?_
      refine AllReadyH.cons (o := ⟨_, _, _, _, _, _⟩) rfl (fun K hK => ?_) AllReadyH.nil
      go_simp
      (first | (go_at_call 24; refine (CR.out _).mono ?_; rintro e w18 ⟨rfl, h1⟩; have K18 := hidden ((K17.out.drewN _).trans h1 (fun _ _ h => h)); clear h1) | (go_at_call 36; refine (TY.out _ K18.out).mono ?_; rintro e w19 ⟨rfl, h1⟩; have K19 := hidden (K18.out.trans h1 (fun _ _ h => h)); clear h1 TY) | (go_at_call 31; refine (NM.out _).mono ?_; rintro e w20 ⟨rfl, h1⟩; have K20 := hidden (K19.out.trans h1 (fun _ _ h => h)); clear h1) | (go_at_call 37; refine (CST.out _).mono ?_; rintro e w21 ⟨rfl, h1⟩; have K21 := hidden (K20.out.trans h1 (fun _ _ h => h)); clear h1) | (go_at_call 36; refine (TS.out _).mono ?_; rintro e w22 ⟨rfl, h1⟩; have K22 := hidden (K21.out.trans h1 (fun _ _ h => h)); clear h1))
      go_wp2_with fail
      refine hK.out _ _ ?_ (fun hH2 => ?_)
      · ((try dsimp only); (first | exact SK.out _ K17.out | exact SK.out _ (K17.out.drewN _) | exact SK.out _ K22.out | exact SK.out _ K21.out | exact SK.out _ K20.out | exact SK.out _ K19.out | exact SK.out _ K18.out))
      clear hK K hHeld
      have hHeld := hH2
      clear hH2
      try simp only [Act.put, List.setIfInBounds_toArray, List.set_cons_zero, List.set_cons_succ]
      refine wpAnyH_take (i := 29) (oi := ⟨_, _, _, _, _, _⟩) (v := ?_) rfl (by kernel_rfl) (by kernel_rfl) (by kernel_rfl) (fun _ _ _ h => h) (Or.inl ⟨by rfl, ?_⟩) hHeld ?_
      rotate_left
      · (intro w' hSw; (try dsimp only at hSw); go_simp; (try with_reducible rfl))
      try simp only [Act.put, List.setIfInBounds_toArray, List.set_cons_zero, List.set_cons_succ]
      refine wpAnyH_take (i := 30) (oi := ⟨_, _, _, _, _, _⟩) (v := ?_) rfl (by kernel_rfl) (by kernel_rfl) (by kernel_rfl) (fun _ _ _ h => h) (Or.inl ⟨by rfl, ?_⟩) hHeld ?_
      rotate_left
      · (intro w' hSw; (try dsimp only at hSw); go_simp; (try with_reducible rfl))
      try simp only [Act.put, List.setIfInBounds_toArray, List.set_cons_zero, List.set_cons_succ]
      refine wpAnyH_ready (rs := [31]) (by kernel_rfl) (by simp) ?_
      refine AllReadyH.cons (o := ⟨_, _, _, _, _, _⟩) rfl (fun K hK => ?_) AllReadyH.nil
      go_simp
      refine hK.out _ _ ?_ (fun hH2 => ?_)
      · ((try dsimp only); (first | exact SK.out _ K17.out | exact SK.out _ (K17.out.drewN _) | exact SK.out _ K22.out | exact SK.out _ K21.out | exact SK.out _ K20.out | exact SK.out _ K19.out | exact SK.out _ K18.out))
      clear hK K hHeld
      have hHeld := hH2
      clear hH2
      try simp only [Act.put, List.setIfInBounds_toArray, List.set_cons_zero, List.set_cons_succ]
      refine wpAnyH_done (by kernel_rfl) ?_ _
      refine NoPanic.normal ?_
      clear hHeld
      go_wp2_with fail
      exact FIN.out _ K22.out
  ·
    obtain ⟨x0, x1, x2, x3, x4, x5, x6, x7, hcz⟩ := SF.out
    go_wp2_with fail
    refine (CR.out _).mono ?_
    rintro e w14 ⟨rfl, h1⟩
    have K14 := hidden h1
    clear h1
    go_wp2_with fail
    refine (CO.out _ K14.out).mono ?_
    rintro e w15 ⟨rfl, h1⟩
    have K15 := hidden (K14.out.trans h1 (fun _ _ h => h))
    clear h1
    go_wp2_with fail
    refine (CIa.out _).mono ?_
    rintro e w16 ⟨rfl, h1⟩
    have K16 := hidden (K15.out.trans h1 (fun _ _ h => h))
    clear h1
    go_wp2_with fail
    refine (CT.out _).mono ?_
    rintro e w17 ⟨rfl, h1⟩
    have K17 := hidden (K16.out.trans h1 (fun _ _ h => h))
    have x0 := SK.out _ K17.out
    have hcz := World.block_lt_of_cell? w17 _ x0
    clear h1 K14 K15 K16
    cases b0 <;> cases b1 <;> first | (cases hbb; done) | skip
    all_goals
      go_wp2_with fail
      clear x0 hcz
      go_region_held3 (fun W' => W'.cell? ⟨w.heap.size, 0, none⟩ = some (.int .i64 kind)) (first | exact SK.out _ K17.out | exact SK.out _ (K17.out.drewN _) | exact SK.out _ K22.out | exact SK.out _ K21.out | exact SK.out _ K20.out | exact SK.out _ K19.out | exact SK.out _ K18.out) (first | (go_at_call 24; refine (CR.out _).mono ?_; rintro e w18 ⟨rfl, h1⟩; have K18 := hidden ((K17.out.drewN _).trans h1 (fun _ _ h => h)); clear h1) | (go_at_call 36; refine (TY.out _ K18.out).mono ?_; rintro e w19 ⟨rfl, h1⟩; have K19 := hidden (K18.out.trans h1 (fun _ _ h => h)); clear h1 TY) | (go_at_call 31; refine (NM.out _).mono ?_; rintro e w20 ⟨rfl, h1⟩; have K20 := hidden (K19.out.trans h1 (fun _ _ h => h)); clear h1) | (go_at_call 37; refine (CST.out _).mono ?_; rintro e w21 ⟨rfl, h1⟩; have K21 := hidden (K20.out.trans h1 (fun _ _ h => h)); clear h1) | (go_at_call 36; refine (TS.out _).mono ?_; rintro e w22 ⟨rfl, h1⟩; have K22 := hidden (K21.out.trans h1 (fun _ _ h => h)); clear h1))
      go_wp2_with fail
      exact FIN.out _ K22.out
theorem heapCells_walk (w : World) (kind other : Int) (Av An lp0 tp0 : Option Addr) (cv cn : Nat) (xs : List V) (ns : List Int) (text : ByteArray) (hV : Vals w Av xs) (hN : Ints w An ns) (nv : Av = none → xs = []) (nn : An = none → ns = []) (hl1 : xs.length ≤ 9223372036854775807) (hl2 : ns.length ≤ 9223372036854775807) (ht : True) :
    Calls Try.prog 6 #[.agg #[.int .i64 kind, .slice Av xs.length cv, .pointer lp0, .pointer tp0, .slice An ns.length cn, .string text], .int .i64 other] w fun e w' => e = .returned (.bool true) ∧ Below w.heap.size w w' :=
  cells_G.2 cells_rest w kind other Av An lp0 tp0 cv cn xs ns text hV hN nv nn hl1 hl2 ht
end Go.Proofs.Ytpaefeknbpfpmaa
