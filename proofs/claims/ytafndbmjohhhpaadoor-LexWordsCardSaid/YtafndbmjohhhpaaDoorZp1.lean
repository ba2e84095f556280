/- Texts that belong together: LexI LexL LexJ LexM LexQ LawLexWords. -/
import Derived.Test.YtafndbmjohhhpaaDoorZp0
set_option linter.unusedSimpArgs false
set_option linter.unusedVariables false
namespace Go.Proofs.YtafndbmjohhhpaaDoor
open Go.RowKit
set_option maxRecDepth 100000

theorem find_hit {α : Type} {p : α → Bool} : ∀ {xs : List α} {i : Nat} (h : i < xs.length), (∀ j (hj : j < xs.length), j < i → p xs[j] = false) → p xs[i] = true → xs.find? p = some xs[i] := by
  intro xs
  induction xs with
  | nil => intro i h; cases h
  | cons x xs ih =>
    intro i h h1 h2
    cases i with
    | zero => simp at h2; simp [h2]
    | succ i =>
      have h0 := h1 0 (by simp) (by omega)
      simp at h0
      rw [List.find?_cons, h0]
      exact ih (by simpa using h) (fun j hj hlt => by have := h1 (j + 1) (by simp; omega) (by omega); simpa using this) (by simpa using h2)
theorem find_miss {α : Type} {p : α → Bool} {xs : List α} (h1 : ∀ j (hj : j < xs.length), p xs[j] = false) : xs.find? p = none := by
  rw [List.find?_eq_none]
  intro x hx
  obtain ⟨j, hj, rfl⟩ := List.mem_iff_getElem.1 hx
  rw [h1 j hj]; simp
theorem quo_get (q : UInt8) : ∀ (m : Nat) (l : List UInt8), l.length ≤ m → ∀ n, quo q l = some n → l[n]? = some q := by
  intro m
  induction m with
  | zero =>
    intro l hl n h
    obtain rfl := List.eq_nil_of_length_eq_zero (Nat.le_zero.1 hl)
    cases h
  | succ m ih =>
    intro l hl n h
    cases l with
    | nil => cases h
    | cons c r =>
      simp only [List.length_cons] at hl
      rw [quo_cons] at h
      by_cases h1 : c = q
      · rw [if_pos h1] at h; cases h; simp [h1]
      rw [if_neg h1] at h
      by_cases h2 : c.toNat = 10
      · rw [if_pos h2] at h; cases h
      rw [if_neg h2] at h
      by_cases h3 : c.toNat = 92
      · rw [if_pos h3] at h
        cases r with
        | nil => cases h
        | cons d r' =>
          simp only at h
          by_cases h4 : d.toNat = 10
          · rw [if_pos h4] at h; cases h
          rw [if_neg h4] at h
          obtain ⟨k, hk, rfl⟩ := Option.map_eq_some_iff.1 h
          simp only [List.length_cons] at hl
          have := ih r' (by omega) k hk
          simpa using this
      · rw [if_neg h3] at h
        obtain ⟨k, hk, rfl⟩ := Option.map_eq_some_iff.1 h
        have := ih r (by omega) k hk
        simpa using this
section
variable {c : UInt8} {r : List UInt8}
theorem front_letter (h : letterB c = true) : front (c :: r) = .inl (if keyB (wordL (c :: r)) then 2 else 1, wordL (c :: r), 0, (wordL (c :: r)).length) := by rw [front, if_pos h]
theorem front_digit (h0 : ¬ letterB c = true) (h : digitB c = true) : front (c :: r) = numCut (wordL (c :: r)) (numP (wordL (c :: r))) := by
  rw [front, if_neg h0, if_pos h, numP_is]
  cases numL (wordL (c :: r)) <;> rfl
theorem front_str (h0 : ¬ letterB c = true) (h1 : ¬ digitB c = true) (h : c = 34) : front (c :: r) = strCut 34 r := by
  subst h
  rw [front, if_neg h0, if_neg h1, if_pos (.inl rfl), strCut]
  cases quo 34 r with
  | none => rfl
  | some n =>
    simp only
    cases unesc (r.take n) <;> rfl
theorem front_char (h0 : ¬ letterB c = true) (h1 : ¬ digitB c = true) (h : c = 39) : front (c :: r) = charCut r := by
  subst h
  rw [front, if_neg h0, if_neg h1, if_pos (.inr rfl), charCut]
  cases hq : quo 39 r with
  | none => rfl
  | some n =>
    have hg := quo_get 39 _ r (Nat.le_refl _) n hq
    obtain ⟨hn, hg⟩ := List.getElem?_eq_some_iff.1 hg
    have e : (39 :: r).take (n + 2) = 39 :: r.take n ++ [39] := by
      rw [List.take_succ_cons, List.take_succ_eq_append_getElem hn, hg]; rfl
    simp only
    cases unesc (r.take n) with
    | inr k => rfl
    | inl t =>
      simp only
      rw [if_neg (by decide), e]
      match t with
      | [] => rfl
      | [b] => rfl
      | _ :: _ :: _ => rfl
theorem front_sign (h0 : ¬ letterB c = true) (h1 : ¬ digitB c = true) (h2 : ¬ (c.toNat = 34 ∨ c.toNat = 39)) : front (c :: r) = match signList.find? (fun s => s.isPrefixOf (c :: r)) with | some s => .inl (5, s, 0, s.length) | none => .inr (80, 0) := by
  rw [front, if_neg h0, if_neg h1, if_neg h2]
  cases signList.find? (fun s => s.isPrefixOf (c :: r)) <;> rfl
end
def NextPost (w : World) (b : Nat) (s : ByteArray) (a : Nat) (line : Bool) (L : Value) (C : (Int × List UInt8 × Int × Nat) ⊕ (Int × Nat)) (e : Ending) (w' : World) : Prop :=
  e = .returned (cutAns a C) ∧ (∀ t, C = .inl t → IsLex w' b s (a + t.2.2.2) line L) ∧ Keeps (fun k => k = b) w w'
theorem numCut_len (V : List UInt8) (x : Int ⊕ Int) (t : Int × List UInt8 × Int × Nat) (h : numCut V x = .inl t) : t.2.2.2 = V.length := by
  cases x with
  | inl n => cases h; rfl
  | inr e => cases h
theorem signs_at {ss : List ByteArray} (h : ss = signList.map mkS) : (∀ j (hj : j < ss.length), ∃ h2 : j < signList.length, (ss[j]'hj).data.toList = signList[j]'h2) ∧ ss.length = signList.length ∧ ss.length ≤ 100 := by
  subst h
  exact ⟨fun j hj => ⟨by simpa using hj, by rw [List.getElem_map, mkS_data]⟩, by simp, by decide⟩
set_option maxHeartbeats 4000000 in
theorem lex_next (w : World) (b : Nat) (s : ByteArray) (a : Nat) (line : Bool) (A : Option Addr) (cp : Nat) (ss : List ByteArray) (hss : ss = signList.map mkS) (m : Int) (hm : MaxL w m) (hL : IsLex w b s a line (.slice A ss.length cp)) (hS : Strs w A ss) (hA : ∀ bo o, A = some ⟨bo, o, none⟩ → bo ≠ b) (ha : a < s.size) (hs : s.size ≤ 140737488351232) :
    Calls Tryd.prog 30 #[.pointer (some ⟨b, 0, none⟩)] w (NextPost w b s a line (.slice A ss.length cp) (front (s.data.toList.drop a))) := by
  have hb := blk_lt hL
  have HK0 := hidden (((Keeps.refl (fun k => k = b) w).alloc (.cells #[.int .i64 0, .int .i64 0, .string ⟨#[]⟩, .int .i64 0, .bool false] 33)).alloc (.cells #[.int .i64 0, .int .i64 0] 29))
  have HF := hidden (((Keeps.refl (fun _ => False) w).alloc (.cells #[.int .i64 0, .int .i64 0, .string ⟨#[]⟩, .int .i64 0, .bool false] 33)).alloc (.cells #[.int .i64 0, .int .i64 0] 29))
  have HL0 := hidden (hL.keeps HF.out (fun h => h))
  have HM0 := hidden (hm.keeps HF.out (fun h => h))
  have HS0 := hidden (hS.keeps HF.out (fun _ _ _ h => h))
  have HNE := hidden (hm.ne hL)
  have HA := hidden hA
  have HR0 := hidden (Res.new w)
  have hsz : ((w.alloc (.cells #[.int .i64 0, .int .i64 0, .string ⟨#[]⟩, .int .i64 0, .bool false] 33)).alloc (.cells #[.int .i64 0, .int .i64 0] 29)).heap.size = w.heap.size + 2 := by simp
  have HSZ := hidden hsz
  have HC := hidden (list_cons ha)
  have hca : s[a].toNat < 256 := s[a].toNat_lt
  obtain ⟨q0, q1, q2, q3, z1, z2⟩ := hL.cells
  obtain ⟨hsl, hlen0, hlen⟩ := signs_at hss
  have HSL := hidden hsl
  have HLEN := hidden hlen0
  clear hL hm hS hA hsz hss hsl hlen0
  have kl := hidden (fun W => lex_letter s[a] W)
  have kd := hidden (fun W => lex_digit s[a] W)
  have kname := hidden (fun (W : World) h1 h2 => lex_name W b s a line (.slice A ss.length cp) m h1 h2 (Nat.le_of_lt ha) hs)
  have kstr := hidden (fun (W : World) h2 => lex_str W b s a line (.slice A ss.length cp) h2 ha hs)
  have kchar := hidden (fun (W : World) h2 => lex_char W b s a line (.slice A ss.length cp) h2 ha hs)
  have knum := hidden (fun hd (W : World) h2 => lex_number W b s a line (.slice A ss.length cp) h2 ha hs hd)
  refine post_gen fun R hR => ?_
  go_enter Tryd.func30, Tryd.ntmps30
  go_wp2_with fail
  go_quiet (fail)
  have HL1 := hidden (HL0.out.drewN nq)
  have HM1 := hidden (HM0.out.drewN nq)
  have HS1 := hidden (HS0.out.keeps ((Keeps.refl (fun _ => False) _).drewN nq) (fun _ _ _ h => h))
  have HK1 := hidden (HK0.out.drewN nq)
  have HR1 := hidden (HR0.out.keeps ((Keeps.refl (fun _ => False) _).drewN nq) (fun h => h) (fun h => h))
  have hz1 : w.heap.size + 2 ≤ (((w.alloc (.cells #[.int .i64 0, .int .i64 0, .string ⟨#[]⟩, .int .i64 0, .bool false] 33)).alloc (.cells #[.int .i64 0, .int .i64 0] 29)).drewN nq).heap.size := Nat.le_of_eq HSZ.out.symm
  clear HL0 HM0 HS0 HK0 HR0 HF HSZ q0 q1 q2 q3 z1 z2
  generalize (((w.alloc (.cells #[.int .i64 0, .int .i64 0, .string ⟨#[]⟩, .int .i64 0, .bool false] 33)).alloc (.cells #[.int .i64 0, .int .i64 0] 29)).drewN nq) = w0 at *
  rw [HC.out] at hR kname knum
  by_cases h1 : letterB s[a] = true
  · rw [front_letter h1] at hR
    rw [h1] at kl
    clear h1 kd kstr kchar knum HSL HLEN
    have kk := fun W h1 h2 => kname.out W h1 h2
    generalize wordL (s[a] :: s.data.toList.drop (a + 1)) = V at *
    cases hkb : keyB V
    · rw [hkb] at hR kk
      simp only [Bool.false_eq_true, if_false] at hR kk
      unfold tokV at kk
      have KK := hidden kk
      clear kk kname hkb
      go_wp2_with (first | (go_at_call 49; refine (kl.out _).mono ?_; rintro e _ ⟨rfl, rfl⟩) | (go_at_call 50; refine (KK.out _ HM1.out HL1.out).mono ?_; rintro e w1 ⟨rfl, hI, hK⟩; have HL2 := hidden hI; have HK2 := hidden (HK1.out.trans hK (fun _ _ h => h)); have HR2 := hidden (HR1.out.keeps hK (by omega) (by omega)); clear hI hK; obtain ⟨t0, t1, t2, t3, t4⟩ := HR2.out.1.cells; obtain ⟨x0, x1, x2, x3, x4⟩ := HR2.out.1.frozen; obtain ⟨f0, f1, g0, g1⟩ := FaultAt.cells HR2.out.2; have hz2 := HK2.out.size))
      obtain ⟨hT, hF, hI2, hKK⟩ := Res.done HR2.out HL2.out HK2.out hb 1 0 (mkS V) 0 false 0 0
      obtain ⟨d0, d1, d2, d3, d4⟩ := hT.cells
      obtain ⟨e0, e1, -, -⟩ := FaultAt.cells hF
      simp only [resW] at d0 d1 d2 d3 d4 e0 e1
      refine bodyPost_ret (v := .tuple #[tokV 1 (mkS V) 0, fltV 0 0]) ?_ rfl (hR.out _ _ ⟨?_, ?_, hKK⟩)
      · simp [results, Tryd.results30, go_sem, d0, d1, d2, d3, d4, e0, e1, tokV, fltV]
      · rw [cutAns_inl]
      · rintro t ht; cases ht; exact hI2
    · rw [hkb] at hR kk
      simp only [if_true] at hR kk
      unfold tokV at kk
      have KK := hidden kk
      clear kk kname hkb
      go_wp2_with (first | (go_at_call 49; refine (kl.out _).mono ?_; rintro e _ ⟨rfl, rfl⟩) | (go_at_call 50; refine (KK.out _ HM1.out HL1.out).mono ?_; rintro e w1 ⟨rfl, hI, hK⟩; have HL2 := hidden hI; have HK2 := hidden (HK1.out.trans hK (fun _ _ h => h)); have HR2 := hidden (HR1.out.keeps hK (by omega) (by omega)); clear hI hK; obtain ⟨t0, t1, t2, t3, t4⟩ := HR2.out.1.cells; obtain ⟨x0, x1, x2, x3, x4⟩ := HR2.out.1.frozen; obtain ⟨f0, f1, g0, g1⟩ := FaultAt.cells HR2.out.2; have hz2 := HK2.out.size))
      obtain ⟨hT, hF, hI2, hKK⟩ := Res.done HR2.out HL2.out HK2.out hb 2 0 (mkS V) 0 false 0 0
      obtain ⟨d0, d1, d2, d3, d4⟩ := hT.cells
      obtain ⟨e0, e1, -, -⟩ := FaultAt.cells hF
      simp only [resW] at d0 d1 d2 d3 d4 e0 e1
      refine bodyPost_ret (v := .tuple #[tokV 2 (mkS V) 0, fltV 0 0]) ?_ rfl (hR.out _ _ ⟨?_, ?_, hKK⟩)
      · simp [results, Tryd.results30, go_sem, d0, d1, d2, d3, d4, e0, e1, tokV, fltV]
      · rw [cutAns_inl]
      · rintro t ht; cases ht; exact hI2
  have hl0 : letterB s[a] = false := (Bool.not_eq_true _).mp h1
  have H1 := hidden h1
  rw [hl0] at kl
  clear h1 hl0 kname
  by_cases h2 : digitB s[a] = true
  · rw [front_digit H1.out h2] at hR
    rw [h2] at kd
    have kn := fun W h => knum.out h2 W h
    have HVL := hidden (fun t => numCut_len (wordL (s[a] :: s.data.toList.drop (a + 1))) (numP (wordL (s[a] :: s.data.toList.drop (a + 1)))) t)
    clear h2 kstr kchar knum HSL HLEN
    have kk := fun (W : World) h2 => kn W h2
    generalize numCut (wordL (s[a] :: s.data.toList.drop (a + 1))) (numP (wordL (s[a] :: s.data.toList.drop (a + 1)))) = C at *
    cases C with
    | inl t =>
      obtain ⟨tk, tt, tn, tm⟩ := t
      rw [cutAns_inl] at kk
      unfold tokV fltV at kk
      have KK := hidden kk
      clear kk
      go_wp2_with (first | (go_at_call 49; refine (kl.out _).mono ?_; rintro e _ ⟨rfl, rfl⟩) | (go_at_call 51; refine (kd.out _).mono ?_; rintro e _ ⟨rfl, rfl⟩) | (go_at_call 52; refine (KK.out _ HL1.out).mono ?_; rintro e w1 ⟨rfl, hI, hK⟩; have HL2 := hidden hI; have HK2 := hidden (HK1.out.trans hK (fun _ _ h => h)); have HR2 := hidden (HR1.out.keeps hK (by omega) (by omega)); clear hI hK; obtain ⟨t0, t1, t2, t3, t4⟩ := HR2.out.1.cells; obtain ⟨x0, x1, x2, x3, x4⟩ := HR2.out.1.frozen; obtain ⟨f0, f1, g0, g1⟩ := FaultAt.cells HR2.out.2; have hz2 := HK2.out.size))
      obtain ⟨hT, hF, hI2, hKK⟩ := Res.done HR2.out HL2.out HK2.out hb tk 0 (mkS tt) tn false 0 0
      obtain ⟨d0, d1, d2, d3, d4⟩ := hT.cells
      obtain ⟨e0, e1, -, -⟩ := FaultAt.cells hF
      simp only [resW] at d0 d1 d2 d3 d4 e0 e1
      refine bodyPost_ret (v := .tuple #[tokV tk (mkS tt) tn, fltV 0 0]) ?_ rfl (hR.out _ _ ⟨?_, ?_, hKK⟩)
      · simp [results, Tryd.results30, go_sem, d0, d1, d2, d3, d4, e0, e1, tokV, fltV]
      · rw [cutAns_inl]
      · rintro t ht; cases ht; have h9 := HVL.out _ rfl; simp only at h9 ⊢; rw [h9]; exact hI2
    | inr t =>
      obtain ⟨ec, ek⟩ := t
      rw [cutAns_inr] at kk
      unfold tokV fltV at kk
      have KK := hidden kk
      clear kk
      go_wp2_with (first | (go_at_call 49; refine (kl.out _).mono ?_; rintro e _ ⟨rfl, rfl⟩) | (go_at_call 51; refine (kd.out _).mono ?_; rintro e _ ⟨rfl, rfl⟩) | (go_at_call 52; refine (KK.out _ HL1.out).mono ?_; rintro e w1 ⟨rfl, hI, hK⟩; have HL2 := hidden hI; have HK2 := hidden (HK1.out.trans hK (fun _ _ h => h)); have HR2 := hidden (HR1.out.keeps hK (by omega) (by omega)); clear hI hK; obtain ⟨t0, t1, t2, t3, t4⟩ := HR2.out.1.cells; obtain ⟨x0, x1, x2, x3, x4⟩ := HR2.out.1.frozen; obtain ⟨f0, f1, g0, g1⟩ := FaultAt.cells HR2.out.2; have hz2 := HK2.out.size))
      obtain ⟨hT, hF, hI2, hKK⟩ := Res.done HR2.out HL2.out HK2.out hb 0 0 ⟨#[]⟩ 0 false ec ((a : Int) + ek)
      obtain ⟨d0, d1, d2, d3, d4⟩ := hT.cells
      obtain ⟨e0, e1, -, -⟩ := FaultAt.cells hF
      simp only [resW] at d0 d1 d2 d3 d4 e0 e1
      refine bodyPost_ret (v := .tuple #[tokV 0 ⟨#[]⟩ 0, fltV ec ((a : Int) + ek)]) ?_ rfl (hR.out _ _ ⟨?_, ?_, hKK⟩)
      · simp [results, Tryd.results30, go_sem, d0, d1, d2, d3, d4, e0, e1, tokV, fltV]
      · rw [cutAns_inr, show ((a + ek : Nat) : Int) = (a : Int) + ek by omega]
      · rintro t ht; cases ht
  have hd0 : digitB s[a] = false := (Bool.not_eq_true _).mp h2
  have H2 := hidden h2
  rw [hd0] at kd
  clear h2 hd0 knum
  by_cases h3 : s[a] = 34
  · rw [front_str H1.out H2.out h3] at hR
    have i3 : ((s[a].toNat : Int) == 34) = true := by rw [h3]; rfl
    clear h3 kchar HSL HLEN
    have kk := fun (W : World) h2 => kstr.out W h2
    generalize strCut 34 (s.data.toList.drop (a + 1)) = C at *
    cases C with
    | inl t =>
      obtain ⟨tk, tt, tn, tm⟩ := t
      rw [cutAns_inl] at kk
      unfold tokV fltV at kk
      have KK := hidden kk
      clear kk
      go_wp2_with (first | (go_at_call 49; refine (kl.out _).mono ?_; rintro e _ ⟨rfl, rfl⟩) | (go_at_call 51; refine (kd.out _).mono ?_; rintro e _ ⟨rfl, rfl⟩) | (go_at_call 53; refine (KK.out _ HL1.out).mono ?_; rintro e w1 ⟨rfl, hI, hK⟩; have HL2 := hidden hI; have HK2 := hidden (HK1.out.trans hK (fun _ _ h => h)); have HR2 := hidden (HR1.out.keeps hK (by omega) (by omega)); clear hI hK; obtain ⟨t0, t1, t2, t3, t4⟩ := HR2.out.1.cells; obtain ⟨x0, x1, x2, x3, x4⟩ := HR2.out.1.frozen; obtain ⟨f0, f1, g0, g1⟩ := FaultAt.cells HR2.out.2; have hz2 := HK2.out.size))
      obtain ⟨hT, hF, hI2, hKK⟩ := Res.done HR2.out HL2.out HK2.out hb tk 0 (mkS tt) tn false 0 0
      obtain ⟨d0, d1, d2, d3, d4⟩ := hT.cells
      obtain ⟨e0, e1, -, -⟩ := FaultAt.cells hF
      simp only [resW] at d0 d1 d2 d3 d4 e0 e1
      refine bodyPost_ret (v := .tuple #[tokV tk (mkS tt) tn, fltV 0 0]) ?_ rfl (hR.out _ _ ⟨?_, ?_, hKK⟩)
      · simp [results, Tryd.results30, go_sem, d0, d1, d2, d3, d4, e0, e1, tokV, fltV]
      · rw [cutAns_inl]
      · rintro t ht; cases ht; exact hI2
    | inr t =>
      obtain ⟨ec, ek⟩ := t
      rw [cutAns_inr] at kk
      unfold tokV fltV at kk
      have KK := hidden kk
      clear kk
      go_wp2_with (first | (go_at_call 49; refine (kl.out _).mono ?_; rintro e _ ⟨rfl, rfl⟩) | (go_at_call 51; refine (kd.out _).mono ?_; rintro e _ ⟨rfl, rfl⟩) | (go_at_call 53; refine (KK.out _ HL1.out).mono ?_; rintro e w1 ⟨rfl, hI, hK⟩; have HL2 := hidden hI; have HK2 := hidden (HK1.out.trans hK (fun _ _ h => h)); have HR2 := hidden (HR1.out.keeps hK (by omega) (by omega)); clear hI hK; obtain ⟨t0, t1, t2, t3, t4⟩ := HR2.out.1.cells; obtain ⟨x0, x1, x2, x3, x4⟩ := HR2.out.1.frozen; obtain ⟨f0, f1, g0, g1⟩ := FaultAt.cells HR2.out.2; have hz2 := HK2.out.size))
      obtain ⟨hT, hF, hI2, hKK⟩ := Res.done HR2.out HL2.out HK2.out hb 0 0 ⟨#[]⟩ 0 false ec ((a : Int) + ek)
      obtain ⟨d0, d1, d2, d3, d4⟩ := hT.cells
      obtain ⟨e0, e1, -, -⟩ := FaultAt.cells hF
      simp only [resW] at d0 d1 d2 d3 d4 e0 e1
      refine bodyPost_ret (v := .tuple #[tokV 0 ⟨#[]⟩ 0, fltV ec ((a : Int) + ek)]) ?_ rfl (hR.out _ _ ⟨?_, ?_, hKK⟩)
      · simp [results, Tryd.results30, go_sem, d0, d1, d2, d3, d4, e0, e1, tokV, fltV]
      · rw [cutAns_inr, show ((a + ek : Nat) : Int) = (a : Int) + ek by omega]
      · rintro t ht; cases ht
  have i3 : ((s[a].toNat : Int) == 34) = false := by
    rw [beq_eq_false_iff_ne]
    exact fun h => h3 (UInt8.toNat_inj.1 (show s[a].toNat = (34 : UInt8).toNat by have : (34 : UInt8).toNat = 34 := rfl; omega))
  by_cases h4 : s[a] = 39
  · rw [front_char H1.out H2.out h4] at hR
    have i4 : ((s[a].toNat : Int) == 39) = true := by rw [h4]; rfl
    clear h3 h4 kstr HSL HLEN
    have kk := fun (W : World) h2 => kchar.out W h2
    generalize charCut (s.data.toList.drop (a + 1)) = C at *
    cases C with
    | inl t =>
      obtain ⟨tk, tt, tn, tm⟩ := t
      rw [cutAns_inl] at kk
      unfold tokV fltV at kk
      have KK := hidden kk
      clear kk
      go_wp2_with (first | (go_at_call 49; refine (kl.out _).mono ?_; rintro e _ ⟨rfl, rfl⟩) | (go_at_call 51; refine (kd.out _).mono ?_; rintro e _ ⟨rfl, rfl⟩) | (go_at_call 54; refine (KK.out _ HL1.out).mono ?_; rintro e w1 ⟨rfl, hI, hK⟩; have HL2 := hidden hI; have HK2 := hidden (HK1.out.trans hK (fun _ _ h => h)); have HR2 := hidden (HR1.out.keeps hK (by omega) (by omega)); clear hI hK; obtain ⟨t0, t1, t2, t3, t4⟩ := HR2.out.1.cells; obtain ⟨x0, x1, x2, x3, x4⟩ := HR2.out.1.frozen; obtain ⟨f0, f1, g0, g1⟩ := FaultAt.cells HR2.out.2; have hz2 := HK2.out.size))
      obtain ⟨hT, hF, hI2, hKK⟩ := Res.done HR2.out HL2.out HK2.out hb tk 0 (mkS tt) tn false 0 0
      obtain ⟨d0, d1, d2, d3, d4⟩ := hT.cells
      obtain ⟨e0, e1, -, -⟩ := FaultAt.cells hF
      simp only [resW] at d0 d1 d2 d3 d4 e0 e1
      refine bodyPost_ret (v := .tuple #[tokV tk (mkS tt) tn, fltV 0 0]) ?_ rfl (hR.out _ _ ⟨?_, ?_, hKK⟩)
      · simp [results, Tryd.results30, go_sem, d0, d1, d2, d3, d4, e0, e1, tokV, fltV]
      · rw [cutAns_inl]
      · rintro t ht; cases ht; exact hI2
    | inr t =>
      obtain ⟨ec, ek⟩ := t
      rw [cutAns_inr] at kk
      unfold tokV fltV at kk
      have KK := hidden kk
      clear kk
      go_wp2_with (first | (go_at_call 49; refine (kl.out _).mono ?_; rintro e _ ⟨rfl, rfl⟩) | (go_at_call 51; refine (kd.out _).mono ?_; rintro e _ ⟨rfl, rfl⟩) | (go_at_call 54; refine (KK.out _ HL1.out).mono ?_; rintro e w1 ⟨rfl, hI, hK⟩; have HL2 := hidden hI; have HK2 := hidden (HK1.out.trans hK (fun _ _ h => h)); have HR2 := hidden (HR1.out.keeps hK (by omega) (by omega)); clear hI hK; obtain ⟨t0, t1, t2, t3, t4⟩ := HR2.out.1.cells; obtain ⟨x0, x1, x2, x3, x4⟩ := HR2.out.1.frozen; obtain ⟨f0, f1, g0, g1⟩ := FaultAt.cells HR2.out.2; have hz2 := HK2.out.size))
      obtain ⟨hT, hF, hI2, hKK⟩ := Res.done HR2.out HL2.out HK2.out hb 0 0 ⟨#[]⟩ 0 false ec ((a : Int) + ek)
      obtain ⟨d0, d1, d2, d3, d4⟩ := hT.cells
      obtain ⟨e0, e1, -, -⟩ := FaultAt.cells hF
      simp only [resW] at d0 d1 d2 d3 d4 e0 e1
      refine bodyPost_ret (v := .tuple #[tokV 0 ⟨#[]⟩ 0, fltV ec ((a : Int) + ek)]) ?_ rfl (hR.out _ _ ⟨?_, ?_, hKK⟩)
      · simp [results, Tryd.results30, go_sem, d0, d1, d2, d3, d4, e0, e1, tokV, fltV]
      · rw [cutAns_inr, show ((a + ek : Nat) : Int) = (a : Int) + ek by omega]
      · rintro t ht; cases ht
  have i4 : ((s[a].toNat : Int) == 39) = false := by
    rw [beq_eq_false_iff_ne]
    exact fun h => h4 (UInt8.toNat_inj.1 (show s[a].toNat = (39 : UInt8).toNat by have : (39 : UInt8).toNat = 39 := rfl; omega))
  rw [front_sign H1.out H2.out (fun h => h.elim (fun h => h3 (UInt8.toNat_inj.1 h)) (fun h => h4 (UInt8.toNat_inj.1 h)))] at hR
  clear h3 h4 kstr kchar
  rw [← HC.out] at hR
  have HFD := hidden (show front (s.data.toList.drop a) = front (s.data.toList.drop a) from rfl)
  clear HFD
  have kp := hidden (fun (x : ByteArray) (W : World) => Tryd.strings_HasPrefix (s.extract a s.size) x W)
  have HX := hidden (drop_list s a)
  obtain ⟨q0, q1, q2, q3, z1, z2⟩ := HL1.out.cells
  have hb1 := blk_lt HL1.out
  go_wp2_with (first | (go_at_call 49; refine (kl.out _).mono ?_; rintro e _ ⟨rfl, rfl⟩) | (go_at_call 51; refine (kd.out _).mono ?_; rintro e _ ⟨rfl, rfl⟩))
  clear q0 q1 q2 q3 z1 z2 hb1
  go_loopw [48, 6] (fun i _ wr => ∃ k : Nat, k ≤ ss.length ∧ i = .int .i64 k ∧ Keeps (fun _ => False) w0 wr ∧ Hid (∀ j (hj : j < signList.length), j < k → (signList[j]).isPrefixOf (s.data.toList.drop a) = false)) (fun i _ _ => ss.length - (intOf i).toNat)
  case atStart => exact ⟨0, Nat.zero_le _, rfl, Keeps.refl _ _, hidden (fun j _ h => absurd h (by omega))⟩
  case round =>
    obtain ⟨k, hk, rfl, hK, HN⟩ := hrel
    have HK := hidden hK
    have HL2 := hidden (HL1.out.keeps hK (fun h => h))
    have HR2 := hidden (HR1.out.keeps hK (fun h => h) (fun h => h))
    have HK2 := hidden (HK1.out.trans hK (fun _ _ h => h.elim))
    have hz2 := hK.size
    clear hK
    by_cases hlt : k < ss.length
    · obtain ⟨ab, ao, rfl, hc0⟩ := HS1.out k _ (List.getElem?_eq_getElem hlt)
      have hc := HK.out.cell hc0 (fun h => h)
      obtain ⟨hk2, hsk⟩ := HSL.out k hlt
      have kp1 := fun W => kp.out (ss[k]'hlt) W
      rw [HX.out, hsk, show Lib.hasPrefix (s.data.toList.drop a) (signList[k]'hk2) = (signList[k]'hk2).isPrefixOf (s.data.toList.drop a) from rfl] at kp1
      have hsz := list_len (ss[k]'hlt)
      rw [hsk] at hsz
      have HSK := hidden hsk
      clear hc0 hsk
      obtain ⟨q0, q1, q2, q3, z1, z2⟩ := HL2.out.cells
      obtain ⟨t0, t1, t2, t3, t4⟩ := HR2.out.1.cells
      obtain ⟨x0, x1, x2, x3, x4⟩ := HR2.out.1.frozen
      obtain ⟨f0, f1, g0, g1⟩ := FaultAt.cells HR2.out.2
      cases hp : (signList[k]'hk2).isPrefixOf (s.data.toList.drop a)
      · rw [hp] at kp1
        have KP := hidden kp1
        have HP := hidden hp
        clear kp1 hp
        go_wp2_with fail
        go_quiet ((go_at_call 43; exact Calls.quiet_of_same (KP.out _)))
        go_wp2_with fail
        go_roundw
        case rel => exact ⟨k + 1, hlt, by go_num, HK.out.drewN _, hidden (fun j hj hjk => by rcases Nat.lt_succ_iff_lt_or_eq.1 hjk with h | rfl; exact HN.out j hj h; exact HP.out)⟩
        case measure => simp [intOf]; omega
      · rw [hp] at kp1
        have KP := hidden kp1
        have HF2 := hidden (find_hit (p := fun x : List UInt8 => x.isPrefixOf (s.data.toList.drop a)) hk2 (fun j hj h => HN.out j hj h) hp)
        have hpl := pre_len hp
        rw [List.length_drop, list_len, hsz] at hpl
        have HSZ := hidden hsz
        clear kp1 hp hsz
        rw [HF2.out] at hR
        dsimp only at hR
        generalize ss[k]'hlt = x at *
        rw [← HSK.out, list_len] at hR
        rw [HSZ.out.symm.trans (congrArg List.length HSK.out.symm) |>.trans (list_len x)] at hpl
        clear HF2 HSK HSZ HN
        go_wp2_with fail
        go_quiet ((go_at_call 43; exact Calls.quiet_of_same (KP.out _)))
        go_wp2_with fail
        have hI3 : IsLex ((wr.drewN nq).setCell ⟨b, 1, none⟩ (.int .i64 ((a + x.size : Nat) : Int))) b s (a + x.size) line (.slice (some ⟨ab, ao, none⟩) ss.length cp) := (HL2.out.drewN nq).setAt (a + x.size)
        rw [show ((a + x.size : Nat) : Int) = (a : Int) + (x.size : Int) by omega] at hI3
        obtain ⟨hT, hF, hI2, hKK⟩ := Res.done ((HR2.out.keeps ((Keeps.refl (fun _ => False) wr).drewN nq) (fun h => h) (fun h => h)).keeps ((Keeps.refl (fun k => k = b) _).lex rfl 1 _) (by omega) (by omega)) hI3 ((HK2.out.drewN nq).lex rfl 1 _) hb 5 0 x 0 false 0 0
        obtain ⟨d0, d1, d2, d3, d4⟩ := hT.cells
        obtain ⟨e0, e1, -, -⟩ := FaultAt.cells hF
        simp only [resW] at d0 d1 d2 d3 d4 e0 e1
        refine bodyPost_ret (v := .tuple #[tokV 5 x 0, fltV 0 0]) ?_ rfl (hR.out _ _ ⟨?_, ?_, hKK⟩)
        · simp [results, Tryd.results30, go_sem, d0, d1, d2, d3, d4, e0, e1, tokV, fltV]
        · rw [cutAns_inl, mkS_list]
        · rintro t ht; cases ht; exact hI2
    · obtain rfl : k = ss.length := by omega
      have HF2 := hidden (find_miss (p := fun x : List UInt8 => x.isPrefixOf (s.data.toList.drop a)) (xs := signList) (fun j hj => HN.out j hj (by rw [HLEN.out]; exact hj)))
      rw [HF2.out] at hR
      dsimp only at hR
      clear HF2 HN
      obtain ⟨q0, q1, q2, q3, z1, z2⟩ := HL2.out.cells
      obtain ⟨t0, t1, t2, t3, t4⟩ := HR2.out.1.cells
      obtain ⟨x0, x1, x2, x3, x4⟩ := HR2.out.1.frozen
      obtain ⟨f0, f1, g0, g1⟩ := FaultAt.cells HR2.out.2
      go_wp2_with fail
      go_region
      go_wp2_with fail
      obtain ⟨hT, hF, hI2, hKK⟩ := HR2.out.done HL2.out HK2.out hb 0 0 ⟨#[]⟩ 0 false 80 a
      obtain ⟨d0, d1, d2, d3, d4⟩ := hT.cells
      obtain ⟨e0, e1, -, -⟩ := FaultAt.cells hF
      simp only [resW] at d0 d1 d2 d3 d4 e0 e1
      refine bodyPost_ret (v := .tuple #[tokV 0 ⟨#[]⟩ 0, fltV 80 a]) ?_ rfl (hR.out _ _ ⟨?_, ?_, hKK.drew⟩)
      · simp [results, Tryd.results30, go_sem, d0, d1, d2, d3, d4, e0, e1, tokV, fltV]
      · rw [cutAns_inr, Nat.add_zero]
      · rintro t ht; cases ht
end Go.Proofs.YtafndbmjohhhpaaDoor
namespace Go.Proofs.YtafndbmjohhhpaaDoor
set_option maxRecDepth 100000

theorem gapF_le (f : Nat) : ∀ l : List UInt8, (gapF f l).1 ≤ l.length := by
  induction f with
  | zero => intro l; simp [gapF]
  | succ f ih =>
    intro l
    cases l with
    | nil => simp [gapF]
    | cons c r =>
      simp only [gapF]
      by_cases h1 : c.toNat = 10
      · rw [if_pos h1]; have := ih r; simp [gup]; omega
      rw [if_neg h1]
      by_cases h2 : c.toNat = 32 ∨ c.toNat = 9 ∨ c.toNat = 13
      · rw [if_pos h2]; have := ih r; simp [gup]; omega
      rw [if_neg h2]
      by_cases h3 : c.toNat = 35 ∨ [47, 47].isPrefixOf (c :: r) = true
      · rw [if_pos h3]
        have h := ih ((c :: r).drop (lineN (c :: r)))
        have h4 := lineN_le (c :: r)
        rw [List.length_drop] at h
        simp only [gup]; omega
      rw [if_neg h3]
      by_cases h4 : [47, 42].isPrefixOf (c :: r) = true
      · rw [if_pos h4]
        by_cases h5 : Lib.index ((c :: r).drop 2) [42, 47] < 0
        · rw [if_pos h5]; simp
        · rw [if_neg h5]
          have h := ih ((c :: r).drop ((Lib.index ((c :: r).drop 2) [42, 47]).toNat + 4))
          have h6 := index_room ((c :: r).drop 2) [42, 47]
          have h7 := pre_len h4
          rw [List.length_drop] at h h6
          simp only [List.length_cons, List.length_nil] at h6 h7
          simp only [gup]
          rcases h6 with h6 | h6
          · simp only [List.length_cons] at h ⊢; omega
          · exact absurd h6 h5
      · rw [if_neg h4]; simp
theorem gap_le (l : List UInt8) : (gap l).1 ≤ l.length := gapF_le _ _
theorem signs_pos : ∀ x ∈ signList, 1 ≤ x.length := by decide
theorem front_many {l : List UInt8} {t : Int × List UInt8 × Int × Nat} (h : front l = .inl t) : 1 ≤ t.2.2.2 ∧ t.2.2.2 ≤ l.length := by
  cases l with
  | nil => cases h
  | cons c r =>
    have hw : (letterB c = true ∨ digitB c = true) → 1 ≤ (wordL (c :: r)).length ∧ (wordL (c :: r)).length ≤ (c :: r).length := fun h => by
      have hi : innerB c = true := by rw [innerB]; rcases h with h | h <;> simp [h]
      refine ⟨?_, wordL_le _⟩
      rw [wordL, List.takeWhile_cons, if_pos hi]; simp
    by_cases h1 : letterB c = true
    · rw [front_letter h1] at h; cases h; exact hw (.inl h1)
    by_cases h2 : digitB c = true
    · rw [front_digit h1 h2] at h
      rw [numCut_len _ _ _ h]; exact hw (.inr h2)
    have hq : ∀ q n, quo q r = some n → 1 ≤ n + 2 ∧ n + 2 ≤ (c :: r).length := fun q n h => by
      have := quo_lt q _ r (Nat.le_refl _) n h
      simp; omega
    by_cases h3 : c = 34
    · rw [front_str h1 h2 h3, strCut] at h
      cases hn : quo 34 r with
      | none => rw [hn] at h; cases h
      | some n =>
        rw [hn] at h
        simp only at h
        cases hu : unesc (r.take n) with
        | inr k => rw [hu] at h; cases h
        | inl x => rw [hu] at h; cases h; exact hq 34 n hn
    by_cases h4 : c = 39
    · rw [front_char h1 h2 h4, charCut] at h
      cases hn : quo 39 r with
      | none => rw [hn] at h; cases h
      | some n =>
        rw [hn] at h
        simp only at h
        cases hu : unesc (r.take n) with
        | inr k => rw [hu] at h; cases h
        | inl x =>
          rw [hu] at h
          match x, h with
          | [], h => cases h
          | [b], h => cases h; exact hq 39 n hn
          | _ :: _ :: _, h => cases h
    rw [front_sign h1 h2 (fun h => h.elim (fun h => h3 (UInt8.toNat_inj.1 h)) (fun h => h4 (UInt8.toNat_inj.1 h)))] at h
    cases hf : signList.find? (fun s => s.isPrefixOf (c :: r)) with
    | none => rw [hf] at h; cases h
    | some x =>
      rw [hf] at h
      cases h
      exact ⟨signs_pos x (List.mem_of_find?_eq_some hf), pre_len (by have := List.find?_some hf; exact this)⟩
theorem numP_err {w : List UInt8} {e : Int} (h : numP w = .inr e) : e ≠ 0 := by
  have hp : ∀ {b : Nat} {d : List UInt8}, parseR b d = .inr e → e ≠ 0 := fun h => by rcases parseR_err h with ⟨rfl, _⟩ | ⟨rfl, _⟩ <;> decide
  simp only [numP] at h
  split at h
  · split at h
    · split at h
      · cases h
      · cases h; decide
    · exact hp h
  · split at h
    · cases h; decide
    · exact hp h
theorem front_err {l : List UInt8} {e : Int × Nat} (h : front l = .inr e) : e.1 ≠ 0 := by
  cases l with
  | nil => cases h; decide
  | cons c r =>
    by_cases h1 : letterB c = true
    · rw [front_letter h1] at h; cases h
    by_cases h2 : digitB c = true
    · rw [front_digit h1 h2] at h
      cases hn : numP (wordL (c :: r)) with
      | inl n => rw [hn] at h; cases h
      | inr x => rw [hn] at h; cases h; exact numP_err hn
    by_cases h3 : c = 34
    · rw [front_str h1 h2 h3, strCut] at h
      cases hn : quo 34 r with
      | none => rw [hn] at h; cases h; decide
      | some n =>
        rw [hn] at h
        simp only at h
        cases hu : unesc (r.take n) with
        | inr k => rw [hu] at h; cases h; show (20 : Int) ≠ 0; decide
        | inl x => rw [hu] at h; cases h
    by_cases h4 : c = 39
    · rw [front_char h1 h2 h4, charCut] at h
      cases hn : quo 39 r with
      | none => rw [hn] at h; cases h; decide
      | some n =>
        rw [hn] at h
        simp only at h
        cases hu : unesc (r.take n) with
        | inr k => rw [hu] at h; cases h; show (20 : Int) ≠ 0; decide
        | inl x =>
          rw [hu] at h
          match x, h with
          | [], h => cases h; decide
          | [b], h => cases h
          | _ :: _ :: _, h => cases h; decide
    rw [front_sign h1 h2 (fun h => h.elim (fun h => h3 (UInt8.toNat_inj.1 h)) (fun h => h4 (UInt8.toNat_inj.1 h)))] at h
    cases hf : signList.find? (fun s => s.isPrefixOf (c :: r)) with
    | none => rw [hf] at h; cases h; decide
    | some x => rw [hf] at h; cases h
theorem scanF_more (f : Nat) : ∀ (n a : Nat) (l : List UInt8) (g : Nat), l.length < f → l.length < g → scanF f n a l = scanF g n a l := by
  induction f with
  | zero => intro n a l g h; omega
  | succ f ih =>
    intro n a l g h1 h2
    obtain ⟨g, rfl⟩ : ∃ k, g = k + 1 := ⟨g - 1, by omega⟩
    simp only [scanF]
    by_cases hb : (gap l).2.2 = false
    · rw [if_pos hb, if_pos hb]
    rw [if_neg hb, if_neg hb]
    by_cases he : l.length ≤ (gap l).1
    · rw [if_pos he, if_pos he]
    rw [if_neg he, if_neg he]
    by_cases hn : n = 65536
    · rw [if_pos hn, if_pos hn]
    rw [if_neg hn, if_neg hn]
    cases hf : front (l.drop (gap l).1) with
    | inr e => rfl
    | inl t =>
      have := front_many hf
      simp only
      rw [ih (n + 1) _ (l.drop ((gap l).1 + t.2.2.2)) g (by simp; omega) (by simp; omega)]
def scanA (n a : Nat) (l : List UInt8) : List Tk ⊕ (Int × Nat) := scanF (l.length + 1) n a l
def preT (ts : List Tk) : List Tk ⊕ (Int × Nat) → List Tk ⊕ (Int × Nat)
  | .inl us => .inl (ts ++ us)
  | .inr e => .inr e
section
variable {n a : Nat} {l : List UInt8} {ts : List Tk}
theorem scanA_bad (hb : (gap l).2.2 = false) : scanA n a l = .inr (5, a + (gap l).1) := by rw [scanA, scanF, if_pos hb]
theorem scanA_end (hb : (gap l).2.2 = true) (he : l.length ≤ (gap l).1) : scanA n a l = .inl [⟨6, a + (gap l).1, [], 0, (gap l).2.1⟩] := by rw [scanA, scanF, if_neg (by rw [hb]; simp), if_pos he]
theorem scanA_full (hb : (gap l).2.2 = true) (he : ¬ l.length ≤ (gap l).1) (hn : n = 65536) : scanA n a l = .inr (2, a + (gap l).1) := by rw [scanA, scanF, if_neg (by rw [hb]; simp), if_neg he, if_pos hn]
theorem scanA_err (hb : (gap l).2.2 = true) (he : ¬ l.length ≤ (gap l).1) (hn : n ≠ 65536) {e : Int × Nat} (hf : front (l.drop (gap l).1) = .inr e) : scanA n a l = .inr (e.1, a + (gap l).1 + e.2) := by
  rw [scanA, scanF, if_neg (by rw [hb]; simp), if_neg he, if_neg hn, hf]
theorem scanA_tok (hb : (gap l).2.2 = true) (he : ¬ l.length ≤ (gap l).1) (hn : n ≠ 65536) {t : Int × List UInt8 × Int × Nat} (hf : front (l.drop (gap l).1) = .inl t) :
    scanA n a l = preT [⟨t.1, a + (gap l).1, t.2.1, t.2.2.1, (gap l).2.1⟩] (scanA (n + 1) (a + (gap l).1 + t.2.2.2) (l.drop ((gap l).1 + t.2.2.2))) := by
  have := front_many hf
  rw [scanA, scanF, if_neg (by rw [hb]; simp), if_neg he, if_neg hn, hf]
  simp only
  rw [scanF_more l.length (n + 1) _ _ ((l.drop ((gap l).1 + t.2.2.2)).length + 1) (by simp; omega) (by omega)]
  show (match scanA _ _ _ with | .inr e => _ | .inl ts => _) = _
  cases scanA (n + 1) (a + (gap l).1 + t.2.2.2) (l.drop ((gap l).1 + t.2.2.2)) <;> rfl
theorem preT_preT (ts us : List Tk) (x : List Tk ⊕ (Int × Nat)) : preT ts (preT us x) = preT (ts ++ us) x := by cases x <;> simp [preT]
theorem preT_nil (x : List Tk ⊕ (Int × Nat)) : preT [] x = x := by cases x <;> simp [preT]
end
end Go.Proofs.YtafndbmjohhhpaaDoor
namespace Go.Proofs.YtafndbmjohhhpaaDoor
open Go.RowKit
set_option maxRecDepth 100000

def signsText : List UInt8 := ([62, 62, 62, 32, 60, 61, 62, 32, 60, 45, 32, 60, 60, 32, 62, 62, 32, 60, 61, 32, 62, 61, 32, 61, 61, 32, 33, 61, 32, 38, 38, 32, 124, 124, 32, 43, 43, 32, 45, 45, 32, 43, 61, 32, 45, 61, 32, 42, 61, 32, 47, 61, 32].append [37, 61, 32, 58, 58, 32, 43, 32, 45, 32, 42, 32, 47, 32, 37, 32, 61, 32, 60, 32, 62, 32, 33, 32, 126, 32, 38, 32, 124, 32, 94, 32, 63, 32, 58, 32, 59, 32, 44, 32, 46, 32, 40, 32, 41, 32, 123, 32, 125, 32, 91, 32, 93])
theorem signs_split : Lib.splitB ⟨#[32]⟩ 0 (Lib.countB ⟨signsText.toArray⟩ ⟨#[32]⟩) ⟨signsText.toArray⟩ = signList.map mkS := by decide +kernel
theorem signs_count : Lib.countB ⟨signsText.toArray⟩ ⟨#[32]⟩ + 1 = (signList.map mkS).length := by decide +kernel
def tkCells (t : Tk) : List Value := [.int .i64 t.kind, .int .i64 (t.at_ : Int), .string (mkS t.text), .int .i64 t.num, .bool t.line]
def tkFlat (ts : List Tk) : List Value := ts.flatMap tkCells
theorem tkFlat_append (a b : List Tk) : tkFlat (a ++ b) = tkFlat a ++ tkFlat b := by simp [tkFlat]
theorem tkFlat_length (a : List Tk) : (tkFlat a).length = a.length * 5 := by
  induction a with
  | nil => rfl
  | cons x a ih =>
    simp only [tkFlat] at ih
    simp only [tkFlat, List.flatMap_cons, List.length_append, ih, List.length_cons, tkCells, List.length_nil]
    omega
theorem info_tok : (Tryd.prog.info? 33).map (fun i => (i.zero, i.size, i.bytes)) = some (some (.agg #[.int .i64 0, .int .i64 0, .string ⟨#[]⟩, .int .i64 0, .bool false]), 5, 48) := by kernel_rfl
theorem src_tok {W : World} {g : Nat} {k a : Int} {t : ByteArray} {n : Int} {l : Bool} {ty : TypeId} {z : Nat × Nat} (h : W.heap[g]? = some (.cells #[.int .i64 k, .int .i64 a, .string t, .int .i64 n, .bool l] ty z)) : Src Tryd.prog 5 27 (.slice (some ⟨g, 0, none⟩) 1 1) 1 [.int .i64 k, .int .i64 a, .string t, .int .i64 n, .bool l] W := by
  refine Src.ofSlice _ Tryd.underlying27 _ _ 1 _ rfl ?_ ?_
  · intro j u hu
    rw [add_at, Nat.zero_add, blk_cell h]
    rw [← hu]
    match j with
    | 0 | 1 | 2 | 3 | 4 => rfl
    | j + 5 => simp
  · intro u hu
    simp at hu
    rcases hu with rfl | rfl | rfl | rfl | rfl <;> rfl
def ScanPost (w : World) (C : List Tk ⊕ (Int × Nat)) (e : Ending) (w' : World) : Prop :=
  match C with
  | .inl ts => ∃ A c F, e = .returned (.tuple #[.slice A ts.length c, fltV 0 0]) ∧ Row w' F 33 5 (.slice A ts.length c) ts.length (tkFlat ts) ∧ (∀ k, F k → w.heap.size ≤ k) ∧ Keeps (fun _ => False) w w'
  | .inr x => e = .returned (.tuple #[.slice none 0 0, fltV x.1 (x.2 : Nat)]) ∧ Keeps (fun _ => False) w w'
set_option maxHeartbeats 4000000 in
theorem lex_Scan (w : World) (s : ByteArray) (m : Int) (hm : MaxL w m) (hs : s.size ≤ 140737488351232) :
    Calls Tryd.prog 13 #[.string s] w (ScanPost w (scan s.data.toList)) := by
  have HK0 := hidden ((Keeps.refl (fun _ => False) w).alloc (.cells #[.int .i64 0, .int .i64 0] 29))
  have HF0 := hidden (FaultAt.new w 0 0)
  have LA := hidden (list_len s)
  have HM0 := hidden (hm.keeps HK0.out (fun h => h))
  clear hm
  refine post_gen fun R hR => ?_
  by_cases hbig : 262144 < s.size
  · rw [show scan s.data.toList = .inr (2, 0) by rw [scan, if_pos (by rw [LA.out]; exact hbig)]] at hR
    have i1 : (262144 : Int) < s.size := by omega
    obtain ⟨f0, f1, g0, g1⟩ := FaultAt.cells HF0.out
    go_enter Tryd.func13, Tryd.ntmps13
    go_wp2_with fail
    have hF : FaultAt (w.alloc (.cells #[.int .i64 2, .int .i64 0] 29)) w.heap.size 2 0 := FaultAt.new w 2 0
    obtain ⟨e0, e1, -, -⟩ := FaultAt.cells hF
    refine bodyPost_ret (v := .tuple #[.slice none 0 0, fltV 2 0]) ?_ rfl (hR.out _ _ ⟨rfl, (Keeps.refl _ w).alloc _⟩)
    simp [results, Tryd.results13, go_sem, e0, e1, fltV]
  rw [show scan s.data.toList = scanA 0 0 s.data.toList by rw [scan, if_neg (by rw [LA.out]; exact hbig)]; rfl] at hR
  have i1 : ¬ (262144 : Int) < s.size := by omega
  have ks := fun (W : World) (hW : MaxL W m) => Tryd.strings_Split ⟨signsText.toArray⟩ ⟨#[32]⟩ m W (by decide) hW (by decide)
  rw [signs_count, signs_split] at ks
  have HSS0 := hidden (show signList.map mkS = signList.map mkS from rfl)
  obtain ⟨ss, hss⟩ : ∃ ss, ss = signList.map mkS := ⟨_, rfl⟩
  rw [← hss] at ks
  have HSS := hidden hss
  have KS := hidden ks
  clear ks hss HSS0
  go_enter Tryd.func13, Tryd.ntmps13
  go_wp2_with (go_at_call 28; refine (KS.out _ HM0.out).mono ?_; rintro e w1 ⟨rfl, rfl⟩)
  have HI0 := hidden (show IsLex (((w.alloc (.cells #[.int .i64 0, .int .i64 0] 29)).alloc (.cells (ss.map Value.string).toArray 9)).alloc (.cells #[.string s, .int .i64 0, .bool false, .slice (some ⟨w.heap.size + 1, 0, none⟩) ss.length ss.length] 59)) (w.heap.size + 1 + 1) s 0 false (.slice (some ⟨w.heap.size + 1, 0, none⟩) ss.length ss.length) by
    have := blk_new ((w.alloc (.cells #[.int .i64 0, .int .i64 0] 29)).alloc (.cells (ss.map Value.string).toArray 9)) (.cells #[.string s, .int .i64 0, .bool false, .slice (some ⟨w.heap.size + 1, 0, none⟩) ss.length ss.length] 59)
    rw [show ((w.alloc (.cells #[.int .i64 0, .int .i64 0] 29)).alloc (.cells (ss.map Value.string).toArray 9)).heap.size = w.heap.size + 1 + 1 by simp] at this
    exact this)
  have HK1 := hidden ((HK0.out.alloc (.cells (ss.map Value.string).toArray 9)).alloc (.cells #[.string s, .int .i64 0, .bool false, .slice (some ⟨w.heap.size + 1, 0, none⟩) ss.length ss.length] 59))
  have k2 := ((Keeps.refl (fun _ => False) (w.alloc (.cells #[.int .i64 0, .int .i64 0] 29))).alloc (.cells (ss.map Value.string).toArray 9)).alloc (.cells #[.string s, .int .i64 0, .bool false, .slice (some ⟨w.heap.size + 1, 0, none⟩) ss.length ss.length] 59)
  have HF1 := hidden (show FaultAt _ _ 0 0 from k2.heap HF0.out (fun h => h))
  have HM1 := hidden (HM0.out.keeps k2 (fun h => h))
  have HS1 := hidden ((Strs.lit' (w.alloc (.cells #[.int .i64 0, .int .i64 0] 29)) ss 9 (n := w.heap.size + 1) (by simp)).keeps ((Keeps.refl (fun _ => False) _).alloc (.cells #[.string s, .int .i64 0, .bool false, .slice (some ⟨w.heap.size + 1, 0, none⟩) ss.length ss.length] 59)) (fun _ _ _ h => h))
  have HZ := hidden (show (((w.alloc (.cells #[.int .i64 0, .int .i64 0] 29)).alloc (.cells (ss.map Value.string).toArray 9)).alloc (.cells #[.string s, .int .i64 0, .bool false, .slice (some ⟨w.heap.size + 1, 0, none⟩) ss.length ss.length] 59)).heap.size = w.heap.size + 3 by simp)
  have HNE := hidden (HM1.out.ne HI0.out)
  clear k2 HK0 HF0 HM0 KS
  generalize (((w.alloc (.cells #[.int .i64 0, .int .i64 0] 29)).alloc (.cells (ss.map Value.string).toArray 9)).alloc (.cells #[.string s, .int .i64 0, .bool false, .slice (some ⟨w.heap.size + 1, 0, none⟩) ss.length ss.length] 59)) = w3 at *
  have HC := hidden (show preT [] (scanA ([] : List Tk).length 0 (s.data.toList.drop 0)) = scanA 0 0 s.data.toList from preT_nil _)
  generalize scanA 0 0 s.data.toList = C at *
  go_loopw [5] (fun out wr => ∃ (k : Nat) (ts : List Tk) (A : Option Addr) (c : Nat) (F : Nat → Prop), k ≤ s.size ∧ out = .slice A ts.length c ∧ IsLex wr (w.heap.size + 1 + 1) s k false (.slice (some ⟨w.heap.size + 1, 0, none⟩) ss.length ss.length) ∧ Row wr F 33 5 (.slice A ts.length c) ts.length (tkFlat ts) ∧ (∀ i, F i → w3.heap.size ≤ i ∧ i < wr.heap.size) ∧ Keeps (fun i => i = w.heap.size + 1 + 1) w3 wr ∧ ts.length ≤ 65536 ∧ Hid (preT ts (scanA ts.length k (s.data.toList.drop k)) = C)) (fun _ wr => s.size - cellN wr (w.heap.size + 1 + 1))
  case atStart => exact ⟨0, [], none, 0, fun _ => False, Nat.zero_le _, rfl, HI0.out, Row.nil _ _ _ _, fun _ h => h.elim, Keeps.refl _ _, Nat.zero_le _, HC⟩
  case round =>
    clear HC
    obtain ⟨k, ts, A, c, F, hk, rfl, hI, hRow, hF, hK, hn, HN⟩ := hrel
    have HMr := hidden (HM1.out.keeps hK HNE.out)
    have HI := hidden hI
    have HRow := hidden hRow
    have HFG := hidden hF
    have HK := hidden hK
    have hzr : w.heap.size + 3 ≤ wr.heap.size := by have := hK.size; have := HZ.out; omega
    have hbad := fun h => scanA_bad (n := ts.length) (a := k) (l := s.data.toList.drop k) h
    have hend := fun h1 h2 => scanA_end (n := ts.length) (a := k) (l := s.data.toList.drop k) h1 h2
    have hfull := fun h1 h2 h3 => scanA_full (n := ts.length) (a := k) (l := s.data.toList.drop k) h1 h2 h3
    have herr := fun h1 h2 h3 e h4 => scanA_err (n := ts.length) (a := k) (l := s.data.toList.drop k) h1 h2 h3 (e := e) h4
    have htok := fun h1 h2 h3 t h4 => scanA_tok (n := ts.length) (a := k) (l := s.data.toList.drop k) h1 h2 h3 (t := t) h4
    have hgl := gap_le (s.data.toList.drop k)
    have kg := fun hm' => lex_gap wr (w.heap.size + 1 + 1) s k false (.slice (some ⟨w.heap.size + 1, 0, none⟩) ss.length ss.length) m hm' HI.out hk (by omega)
    rw [List.length_drop, LA.out] at hend hfull herr htok hgl
    simp only [List.drop_drop] at herr htok
    generalize gap (s.data.toList.drop k) = g at *
    obtain ⟨gn, gl, go⟩ := g
    simp only [gup, Bool.false_or] at kg hbad hend hfull herr htok hgl
    have HBAD := hidden hbad
    have HEND := hidden hend
    have HFULL := hidden hfull
    have HERR := hidden herr
    have HTOK := hidden htok
    clear hI hRow hF hK hbad hend hfull herr htok
    cases go
    · have hg := kg HMr.out
      rw [show gapAns (k + gn, gl, false) = .tuple #[.int .i64 ((k + gn : Nat) : Int), .bool false] from rfl] at hg
      have HG := hidden hg
      have hC := HN.out
      rw [HBAD.out rfl] at hC
      subst hC
      clear hg kg HBAD HEND HFULL HERR HTOK HN
      go_wp2_with fail
      refine HG.out.mono ?_
      rintro e w4 ⟨rfl, hI4, hK4⟩
      have HK4 := hidden ((HK1.out.trans HK.out (fun i hi h => by omega)).trans (hK4.mono (T := fun i => i = w.heap.size + 1 + 1) (fun _ _ h => h)) (fun i hi h => by omega))
      have HF4 := hidden ((HF1.out : w3.heap[w.heap.size]? = _) |> fun h => hK4.heap (HK.out.heap h (by omega)) (by omega))
      clear hI4 hK4
      obtain ⟨f0, f1, g0, g1⟩ := FaultAt.cells (show FaultAt w4 w.heap.size 0 0 from HF4.out)
      have hz4 := blk_lt HF4.out
      go_wp2_with fail
      have hF5 := FaultAt.set (show FaultAt _ w.heap.size 0 0 from HF4.out) 5 ((k : Int) + gn)
      obtain ⟨e0, e1, -, -⟩ := FaultAt.cells hF5
      refine bodyPost_ret (v := .tuple #[.slice none 0 0, fltV 5 ((k : Int) + gn)]) ?_ rfl (hR.out _ _ ⟨?_, (HK4.out.fault (fun h => absurd h (Nat.lt_irrefl _)) _ _)⟩)
      · simp [results, Tryd.results13, go_sem, e0, e1, fltV]
      · show _ = Ending.returned (.tuple #[.slice none 0 0, fltV 5 ((k + gn : Nat) : Int)])
        rw [show ((k + gn : Nat) : Int) = (k : Int) + gn by omega]
    have hg := kg HMr.out
    rw [show gapAns (k + gn, gl, true) = .tuple #[.int .i64 0, .bool true] from rfl] at hg
    have HG := hidden hg
    clear hg kg HBAD
    by_cases he : s.size - k ≤ gn
    · have hC := HN.out
      rw [HEND.out rfl he] at hC
      have HC := hidden hC
      have i2 : (((k + gn : Nat) : Int) == s.size) = true := by rw [beq_iff_eq]; omega
      have i3 : ((k : Int) + gn == s.size) = true := by rw [beq_iff_eq]; omega
      clear hC HEND HFULL HERR HTOK HN
      go_wp2_with fail
      refine HG.out.mono ?_
      rintro e w4 ⟨rfl, hI4, hK4⟩
      have HI4 := hidden hI4
      have HR4 := hidden (HRow.out.keeps hK4 (fun i hi h => by have := HFG.out i hi; have := HZ.out; omega))
      have HK4 := hidden ((HK1.out.trans HK.out (fun i hi h => by omega)).trans (hK4.mono (T := fun i => i = w.heap.size + 1 + 1) (fun _ _ h => h)) (fun i hi h => by omega))
      have HF4 := hidden ((HF1.out : w3.heap[w.heap.size]? = _) |> fun h => hK4.heap (HK.out.heap h (by omega)) (by omega))
      clear hI4 hK4
      obtain ⟨q0, q1, q2, q3, z1, z2⟩ := HI4.out.cells
      have hb4 := blk_lt HI4.out
      obtain ⟨f0, f1, g0, g1⟩ := FaultAt.cells (show FaultAt w4 w.heap.size 0 0 from HF4.out)
      have hz4 := blk_lt HF4.out
      go_wp2_with fail
      have hsl := HRow.out.cap
      have HRd := hidden (show Row ((w4.alloc (.cells #[.int .i64 6, .int .i64 ((k : Int) + gn), .string ⟨#[]⟩, .int .i64 0, .bool gl] 33)).drew) F 33 5 (.slice A ts.length c) ts.length (tkFlat ts) from (HR4.out.alloc _).drew)
      have HSrc := hidden (src_tok (W := (w4.alloc (.cells #[.int .i64 6, .int .i64 ((k : Int) + gn), .string ⟨#[]⟩, .int .i64 0, .bool gl] 33)).drew) (blk_new w4 (.cells #[.int .i64 6, .int .i64 ((k : Int) + gn), .string ⟨#[]⟩, .int .i64 0, .bool gl] 33)))
      go_region_law (refine app_step rfl F _ _ _ _ _ _ 5 48 rfl Tryd.underlying27 info_tok rfl (by decide) (.slice A ts.length c) _ _ rfl HRd.out _ rfl 1 _ HSrc.out (by omega) (by omega) ?_; intro A2 c2 w5 hR2 hK2; have HR2 := hidden hR2; have HK2 := hidden hK2; have HF5 := hidden (hK2.heap (show _ = _ from blk_alloc HF4.out (.cells #[.int .i64 6, .int .i64 ((k : Int) + gn), .string ⟨#[]⟩, .int .i64 0, .bool gl] 33)) (fun e => by have := HFG.out w.heap.size (HRow.out.2 _ e); have := HZ.out; omega)); clear hR2 hK2; obtain ⟨y0, y1, y2, y3⟩ := FaultAt.cells (show FaultAt w5 w.heap.size 0 0 from HF5.out))
      all_goals
        go_wp2_with fail
        have hF6 := FaultAt.set (show FaultAt _ w.heap.size 0 0 from HF5.out) 0 0
        obtain ⟨e0, e1, -, -⟩ := FaultAt.cells hF6
        have hC := HC.out
        subst hC
        refine bodyPost_ret (v := .tuple #[.slice A2 (ts.length + 1) c2, fltV 0 0]) ?_ rfl (hR.out _ _ ⟨A2, c2, fun i => w.heap.size + 1 ≤ i, ?_, ?_, ?_, ?_⟩)
        · simp [results, Tryd.results13, go_sem, e0, e1, fltV]
        · simp
        · have hr := ((HR2.out.mono (G := fun i => w.heap.size + 1 ≤ i) (fun i _ h => h.elim (fun h => by have := HFG.out i h; have := HZ.out; omega) (fun h => by simp at h; omega))).set (p := ⟨w.heap.size, 0, none⟩) (fun i hi => by show i ≠ w.heap.size; have := HR2.out.2 i hi; rcases this with h | h; have := HFG.out i h; have := HZ.out; omega; simp at h; omega) (.int .i64 0)).set (p := ⟨w.heap.size, 1, none⟩) (fun i hi => by show i ≠ w.heap.size; have := HR2.out.2 i hi; rcases this with h | h; have := HFG.out i h; have := HZ.out; omega; simp at h; omega) (.int .i64 0)
          rw [List.length_append, tkFlat_append]
          show Row _ _ _ _ (.slice A2 (ts.length + 1) c2) (ts.length + 1) (tkFlat ts ++ [.int .i64 6, .int .i64 ((k + gn : Nat) : Int), .string ⟨#[]⟩, .int .i64 0, .bool gl])
          rw [show ((k + gn : Nat) : Int) = (k : Int) + gn by omega]
          exact hr
        · intro i h; omega
        · exact ((((HK4.out.alloc _).drew).trans HK2.out (fun i hi h => by have := HFG.out i (HRow.out.2 i h); have := HZ.out; omega)).fault (fun h => absurd h (Nat.lt_irrefl _)) _ _)
    have i2 : (((k + gn : Nat) : Int) == s.size) = false := by rw [beq_eq_false_iff_ne]; omega
    have i3 : ((k : Int) + gn == s.size) = false := by rw [beq_eq_false_iff_ne]; omega
    clear HEND
    by_cases hfu : ts.length = 65536
    · have hC := HN.out
      rw [HFULL.out rfl he hfu] at hC
      subst hC
      have i4 : ((ts.length : Int) == 65536) = true := by rw [hfu]; rfl
      clear HFULL HERR HTOK HN
      go_wp2_with fail
      refine HG.out.mono ?_
      rintro e w4 ⟨rfl, hI4, hK4⟩
      have HI4 := hidden hI4
      have HK4 := hidden ((HK1.out.trans HK.out (fun i hi h => by omega)).trans (hK4.mono (T := fun i => i = w.heap.size + 1 + 1) (fun _ _ h => h)) (fun i hi h => by omega))
      have HF4 := hidden ((HF1.out : w3.heap[w.heap.size]? = _) |> fun h => hK4.heap (HK.out.heap h (by omega)) (by omega))
      clear hI4 hK4
      obtain ⟨q0, q1, q2, q3, z1, z2⟩ := HI4.out.cells
      have hb4 := blk_lt HI4.out
      obtain ⟨f0, f1, g0, g1⟩ := FaultAt.cells (show FaultAt w4 w.heap.size 0 0 from HF4.out)
      have hz4 := blk_lt HF4.out
      go_wp2_with fail
      go_region
      go_wp2_with fail
      have hF5 := FaultAt.set (show FaultAt _ w.heap.size 0 0 from HF4.out) 2 ((k : Int) + gn)
      obtain ⟨e0, e1, -, -⟩ := FaultAt.cells hF5
      refine bodyPost_ret (v := .tuple #[.slice none 0 0, fltV 2 ((k : Int) + gn)]) ?_ rfl (hR.out _ _ ⟨?_, (HK4.out.fault (fun h => absurd h (Nat.lt_irrefl _)) _ _).drew⟩)
      · simp [results, Tryd.results13, go_sem, e0, e1, fltV]
      · show _ = Ending.returned (.tuple #[.slice none 0 0, fltV 2 ((k + gn : Nat) : Int)])
        rw [show ((k + gn : Nat) : Int) = (k : Int) + gn by omega]
    have i4 : ((ts.length : Int) == 65536) = false := by rw [beq_eq_false_iff_ne]; omega
    clear HFULL
    have kn := fun (W : World) h1 h2 h3 => lex_next W (w.heap.size + 1 + 1) s (k + gn) gl (some ⟨w.heap.size + 1, 0, none⟩) ss.length ss HSS.out m h1 h2 h3 (fun bo o h => by cases h; omega) (by omega) hs
    cases hfr : front (s.data.toList.drop (k + gn)) with
    | inr x =>
      have hC := HN.out
      rw [HERR.out rfl he hfu x hfr] at hC
      subst hC
      rw [hfr] at kn
      have hx0 := front_err hfr
      obtain ⟨ec, ek⟩ := x
      have KN := hidden kn
      have j1 : ((ec : Int) != 0) = true := by simpa using hx0
      have j2 : ((ec : Int) == 0) = false := by simpa using hx0
      clear kn HERR HTOK HN hx0 hfr
      go_wp2_with fail
      refine HG.out.mono ?_
      rintro e w4 ⟨rfl, hI4, hK4⟩
      have HI4 := hidden hI4
      have HM4 := hidden (HMr.out.keeps hK4 HNE.out)
      have HS4 := hidden ((HS1.out.keeps HK.out (fun bo o h => by cases h; omega)).keeps hK4 (fun bo o h => by cases h; omega))
      have HK4 := hidden ((HK1.out.trans HK.out (fun i hi h => by omega)).trans (hK4.mono (T := fun i => i = w.heap.size + 1 + 1) (fun _ _ h => h)) (fun i hi h => by omega))
      have HF4 := hidden ((HF1.out : w3.heap[w.heap.size]? = _) |> fun h => hK4.heap (HK.out.heap h (by omega)) (by omega))
      clear hI4 hK4
      obtain ⟨q0, q1, q2, q3, z1, z2⟩ := HI4.out.cells
      have hb4 := blk_lt HI4.out
      go_wp2_with (go_at_call 30; refine (KN.out _ HM4.out HI4.out HS4.out).mono ?_; rintro e w5 ⟨he5, -, hK5⟩; rw [cutAns_inr] at he5; unfold tokV fltV at he5; subst he5; have HK5 := hidden (HK4.out.trans hK5 (fun i hi h => by omega)); have HF5 := hidden (hK5.heap HF4.out (by omega)); clear hK5; obtain ⟨f0, f1, g0, g1⟩ := FaultAt.cells (show FaultAt w5 w.heap.size 0 0 from HF5.out); have hz5 := blk_lt HF5.out)
      have HF6 := hidden (blk_alloc (blk_alloc HF5.out (.cells #[.int .i64 0, .int .i64 0, .string ⟨#[]⟩, .int .i64 0, .bool false] 33)) (.cells #[.int .i64 ec, .int .i64 ((k : Int) + gn + ek)] 29))
      have HK6 := hidden ((HK5.out.alloc (.cells #[.int .i64 0, .int .i64 0, .string ⟨#[]⟩, .int .i64 0, .bool false] 33)).alloc (.cells #[.int .i64 ec, .int .i64 ((k : Int) + gn + ek)] 29))
      have HG6 := hidden (show FaultAt _ (w5.heap.size + 1) ec ((k : Int) + gn + ek) by simpa using FaultAt.new (w5.alloc (.cells #[.int .i64 0, .int .i64 0, .string ⟨#[]⟩, .int .i64 0, .bool false] 33)) ec ((k : Int) + gn + ek))
      have hfb : w.heap.size < w5.heap.size + 1 := by omega
      clear HF5 HK5 f0 f1 g0 g1 q0 q1 q2 q3 z1 z2 HI4 HS4 HM4 HF4 hb4
      generalize (w5.alloc (.cells #[.int .i64 0, .int .i64 0, .string ⟨#[]⟩, .int .i64 0, .bool false] 33)).alloc (.cells #[.int .i64 ec, .int .i64 ((k : Int) + gn + ek)] 29) = w6 at *
      generalize w5.heap.size + 1 = fb at *
      obtain ⟨f0, f1, g0, g1⟩ := FaultAt.cells (show FaultAt w6 w.heap.size 0 0 from HF6.out)
      obtain ⟨y0, y1, -, -⟩ := FaultAt.cells HG6.out
      go_region
      go_wp2_with fail
      have hF5 := FaultAt.set (show FaultAt _ w.heap.size 0 0 from HF6.out) ec ((k : Int) + gn + ek)
      obtain ⟨e0, e1, -, -⟩ := FaultAt.cells hF5
      refine bodyPost_ret (v := .tuple #[.slice none 0 0, fltV ec ((k : Int) + gn + ek)]) ?_ rfl (hR.out _ _ ⟨?_, (HK6.out.fault (fun h => absurd h (Nat.lt_irrefl _)) _ _).drew⟩)
      · simp [results, Tryd.results13, go_sem, e0, e1, fltV]
      · show _ = Ending.returned (.tuple #[.slice none 0 0, fltV ec ((k + gn + ek : Nat) : Int)])
        rw [show ((k + gn + ek : Nat) : Int) = (k : Int) + gn + ek by omega]
    | inl x =>
      have hC := HN.out
      rw [HTOK.out rfl he hfu x hfr, preT_preT] at hC
      rw [hfr] at kn
      have hx1 := front_many hfr
      obtain ⟨tk, tt, tn, tm⟩ := x
      simp only at hx1
      rw [List.length_drop, LA.out] at hx1
      have KN := hidden kn
      have HC := hidden hC
      clear kn HERR HTOK HN hfr hC
      go_wp2_with fail
      refine HG.out.mono ?_
      rintro e w4 ⟨rfl, hI4, hK4⟩
      have HI4 := hidden hI4
      have HM4 := hidden (HMr.out.keeps hK4 HNE.out)
      have HS4 := hidden ((HS1.out.keeps HK.out (fun bo o h => by cases h; omega)).keeps hK4 (fun bo o h => by cases h; omega))
      have hz4 := hK4.size
      have HR4 := hidden (HRow.out.keeps hK4 (fun i hi h => by have := HFG.out i hi; have := HZ.out; omega))
      have HK4 := hidden (HK.out.trans hK4 (fun i hi h => by omega))
      have HF4 := hidden ((HF1.out : w3.heap[w.heap.size]? = _) |> fun h => hK4.heap (HK.out.heap h (by omega)) (by omega))
      clear hI4 hK4
      obtain ⟨q0, q1, q2, q3, z1, z2⟩ := HI4.out.cells
      have hb4 := blk_lt HI4.out
      go_wp2_with (go_at_call 30; refine (KN.out _ HM4.out HI4.out HS4.out).mono ?_; rintro e w5 ⟨he5, hI5, hK5⟩; rw [cutAns_inl] at he5; unfold tokV fltV at he5; subst he5; have hz5 := hK5.size; have HI5 := hidden (hI5 _ rfl); have HK5 := hidden (HK4.out.trans hK5 (fun i hi h => h)); have HR5 := hidden (HR4.out.keeps hK5 (fun i hi h => by have := HFG.out i hi; have := HZ.out; omega)); have HF5 := hidden (hK5.heap HF4.out (by omega)); clear hK5 hI5; obtain ⟨q0, q1, q2, q3, z1, z2⟩ := HI5.out.cells; have hb5 := blk_lt HI5.out)
      have HF6 := hidden (blk_alloc (blk_alloc HF5.out (.cells #[.int .i64 tk, .int .i64 0, .string (mkS tt), .int .i64 tn, .bool false] 33)) (.cells #[.int .i64 0, .int .i64 0] 29))
      have HK6 := hidden ((HK5.out.alloc (.cells #[.int .i64 tk, .int .i64 0, .string (mkS tt), .int .i64 tn, .bool false] 33)).alloc (.cells #[.int .i64 0, .int .i64 0] 29))
      have HI6 := hidden (blk_alloc (blk_alloc HI5.out (.cells #[.int .i64 tk, .int .i64 0, .string (mkS tt), .int .i64 tn, .bool false] 33)) (.cells #[.int .i64 0, .int .i64 0] 29))
      have HR6 := hidden ((HR5.out.alloc (.cells #[.int .i64 tk, .int .i64 0, .string (mkS tt), .int .i64 tn, .bool false] 33)).alloc (.cells #[.int .i64 0, .int .i64 0] 29))
      have HT6 := hidden (blk_alloc (TokAt.new w5 tk 0 (mkS tt) tn false) (.cells #[.int .i64 0, .int .i64 0] 29))
      have htb : wr.heap.size ≤ w5.heap.size ∧ w.heap.size + 3 ≤ w5.heap.size ∧ w3.heap.size ≤ w5.heap.size := by have := HK5.out.size; have := HZ.out; omega
      clear HF5 HK5 HI5 HR5 q0 q1 q2 q3 z1 z2 HI4 HS4 HM4 HF4 HR4 hb4 hb5
      generalize (w5.alloc (.cells #[.int .i64 tk, .int .i64 0, .string (mkS tt), .int .i64 tn, .bool false] 33)).alloc (.cells #[.int .i64 0, .int .i64 0] 29) = w6 at *
      generalize w5.heap.size = tb at *
      obtain ⟨q0, q1, q2, q3, z1, z2⟩ := IsLex.cells (show IsLex w6 (w.heap.size + 1 + 1) s (k + gn + tm) gl (.slice (some ⟨w.heap.size + 1, 0, none⟩) ss.length ss.length) from HI6.out)
      obtain ⟨y0, y1, y2, y3, y4⟩ := TokAt.cells (show TokAt w6 tb tk 0 (mkS tt) tn false from HT6.out)
      obtain ⟨x0, x1, x2, x3, x4⟩ := TokAt.frozen (show TokAt w6 tb tk 0 (mkS tt) tn false from HT6.out)
      go_region
      have k7 := (((Keeps.refl (fun i => i = tb) w6).setCell (p := ⟨tb, 1, none⟩) (fun _ => rfl) (.int .i64 ((k : Int) + gn))).setCell (p := ⟨tb, 4, none⟩) (fun _ => rfl) (.bool gl)).drew
      have HT7 := hidden (show TokAt (((w6.setCell ⟨tb, 1, none⟩ (.int .i64 ((k : Int) + gn))).setCell ⟨tb, 4, none⟩ (.bool gl)).drew) tb tk ((k : Int) + gn) (mkS tt) tn gl from blk_set (blk_set HT6.out 1 _) 4 _)
      have HI7 := hidden (k7.heap HI6.out (by omega))
      have HR7 := hidden (HR6.out.keeps k7 (fun i hi h => by have := HFG.out i hi; omega))
      have HK7 := hidden (HK6.out.trans k7 (fun i hi h => by omega))
      clear k7 HT6 HI6 HR6 HK6 HF6 y0 y1 y2 y3 y4 x0 x1 x2 x3 x4 q0 q1 q2 q3 z1 z2
      generalize ((w6.setCell ⟨tb, 1, none⟩ (.int .i64 ((k : Int) + gn))).setCell ⟨tb, 4, none⟩ (.bool gl)).drew = w7 at *
      obtain ⟨y0, y1, y2, y3, y4⟩ := TokAt.cells (show TokAt w7 tb tk ((k : Int) + gn) (mkS tt) tn gl from HT7.out)
      have hz7 := blk_lt HT7.out
      have hsl := HRow.out.cap
      go_wp2_with (at_builtin; refine app_list rfl F _ _ _ _ _ _ 5 48 rfl Tryd.underlying27 info_tok rfl (by decide) _ _ _ rfl (HR7.out.alloc _) _ rfl _ _ (src_tok (blk_new w7 _)) (by omega) (by omega) ?_; intro A2 c2 w8 hR8 hK8; have HR8 := hidden hR8; have HK8 := hidden hK8; have HI8 := hidden (hK8.heap (blk_alloc HI7.out (.cells #[.int .i64 tk, .int .i64 ((k : Int) + gn), .string (mkS tt), .int .i64 tn, .bool gl] 33)) (fun e => by have := HFG.out _ (HRow.out.2 _ e); have := HZ.out; omega)); clear hR8 hK8; obtain ⟨q0, q1, q2, q3, z1, z2⟩ := IsLex.cells (show IsLex w8 (w.heap.size + 1 + 1) s (k + gn + tm) gl (.slice (some ⟨w.heap.size + 1, 0, none⟩) ss.length ss.length) from HI8.out); have hb8 := blk_lt HI8.out)
      go_roundw
      case rel =>
        have hz8 := HK8.out.size
        simp at hz8
        refine ⟨k + gn + tm, ts ++ [⟨tk, k + gn, tt, tn, gl⟩], A2, c2, fun i => (F i ∨ (w7.alloc (.cells #[.int .i64 tk, .int .i64 ((k : Int) + gn), .string (mkS tt), .int .i64 tn, .bool gl] 33)).heap.size ≤ i) ∧ i < w8.heap.size, by omega, by simp, IsLex.setLine (show IsLex w8 (w.heap.size + 1 + 1) s (k + gn + tm) gl (.slice (some ⟨w.heap.size + 1, 0, none⟩) ss.length ss.length) from HI8.out) false, ?_, ?_, ?_, by simp; omega, hidden ?_⟩
        · have hr := (HR8.out.mono (G := fun i => (F i ∨ (w7.alloc (.cells #[.int .i64 tk, .int .i64 ((k : Int) + gn), .string (mkS tt), .int .i64 tn, .bool gl] 33)).heap.size ≤ i) ∧ i < w8.heap.size) (fun i hi h => ⟨h, hi⟩)).set (p := ⟨w.heap.size + 1 + 1, 2, none⟩) (fun i hi => by show i ≠ w.heap.size + 1 + 1; have := HR8.out.2 i hi; rcases this with h | h; have := HFG.out i h; have := HZ.out; omega; simp at h; omega) (.bool false)
          rw [List.length_append, tkFlat_append]
          show Row _ _ _ _ (.slice A2 (ts.length + 1) c2) (ts.length + 1) (tkFlat ts ++ [.int .i64 tk, .int .i64 ((k + gn : Nat) : Int), .string (mkS tt), .int .i64 tn, .bool gl])
          rw [show ((k + gn : Nat) : Int) = (k : Int) + gn by omega]
          exact hr
        · intro i hi
          refine ⟨?_, by simpa [World.setCell] using hi.2⟩
          rcases hi.1 with h | h
          · exact (HFG.out i h).1
          · simp at h; omega
        · exact ((HK7.out.alloc _).trans HK8.out (fun i hi h => by have := HFG.out i (HRow.out.2 i h); omega)).lex rfl 2 _
        · have h := HC.out
          rw [show k + (gn + tm) = k + gn + tm by omega] at h
          simpa using h
      case measure =>
        rw [HI.out.cellN, IsLex.cellN (IsLex.setLine (show IsLex w8 (w.heap.size + 1 + 1) s (k + gn + tm) gl (.slice (some ⟨w.heap.size + 1, 0, none⟩) ss.length ss.length) from HI8.out) false)]
        omega
end Go.Proofs.YtafndbmjohhhpaaDoor
namespace Go.Proofs.YtafndbmjohhhpaaDoor
open Go.RowKit
set_option maxRecDepth 100000

def Toks (w : World) (A : Option Addr) (ts : List Tk) : Prop := ∀ i t, ts[i]? = some t → ∃ b o, A = some ⟨b, o, none⟩ ∧ w.cell? ⟨b, o + i * 5 + 0, none⟩ = some (.int .i64 t.kind) ∧ w.cell? ⟨b, o + i * 5 + 1, none⟩ = some (.int .i64 (t.at_ : Int)) ∧ w.cell? ⟨b, o + i * 5 + 2, none⟩ = some (.string (mkS t.text)) ∧ w.cell? ⟨b, o + i * 5 + 3, none⟩ = some (.int .i64 t.num) ∧ w.cell? ⟨b, o + i * 5 + 4, none⟩ = some (.bool t.line)
theorem tkFlat_at {ts : List Tk} : ∀ {i : Nat} {t : Tk}, ts[i]? = some t → ∀ j v, (tkCells t)[j]? = some v → (tkFlat ts)[i * 5 + j]? = some v := by
  induction ts with
  | nil => intro i t h; simp at h
  | cons x ts ih =>
    intro i t h j v hj
    have hl : (tkCells x).length = 5 := rfl
    have e : tkFlat (x :: ts) = tkCells x ++ tkFlat ts := by simp [tkFlat]
    rw [e]
    cases i with
    | zero =>
      simp at h
      subst h
      have : j < 5 := (List.getElem?_eq_some_iff.1 hj).1
      rw [Nat.zero_mul, Nat.zero_add, List.getElem?_append_left (by rw [hl]; exact this)]
      exact hj
    | succ i =>
      simp at h
      rw [List.getElem?_append_right (by rw [hl]; omega), hl, show (i + 1) * 5 + j - 5 = i * 5 + j by omega]
      exact ih h j v hj
theorem Toks.own {w : World} {base e n c : Nat} {A : Option Addr} {ts : List Tk} (h : w.ownsRow base e 5 (.slice A n c) n (tkFlat ts)) : Toks w A ts := fun i t hi => by
  have hi' : i < ts.length := (List.getElem?_eq_some_iff.1 hi).1
  rcases h.2 with ⟨h1, h2⟩ | ⟨g, cap, cur, h1, _⟩
  · have := h.1
    rw [tkFlat_length, h2] at this
    omega
  · simp at h1
    obtain ⟨rfl, rfl⟩ := h1
    have key : ∀ j v, (tkCells t)[j]? = some v → w.cell? ⟨g, 0 + i * 5 + j, none⟩ = some v := fun j v hj => by
      have := h.cells (g := g) rfl (i * 5 + j) v (tkFlat_at hi j v hj)
      rwa [add_at, ← Nat.add_assoc] at this
    exact ⟨g, 0, rfl, key 0 _ rfl, key 1 _ rfl, key 2 _ rfl, key 3 _ rfl, key 4 _ rfl⟩
theorem Toks.keeps {w w1 : World} {S : Nat → Prop} {A : Option Addr} {ts : List Tk} (h : Toks w A ts) (hk : Keeps S w w1) (hn : ∀ b o, A = some ⟨b, o, none⟩ → ¬ S b) : Toks w1 A ts := fun i t hi => by
  obtain ⟨b, o, rfl, h0, h1, h2, h3, h4⟩ := h i t hi
  have := hn b o rfl
  exact ⟨b, o, rfl, hk.cell h0 this, hk.cell h1 this, hk.cell h2 this, hk.cell h3 this, hk.cell h4 this⟩
theorem Toks.take {w : World} {A : Option Addr} {ts : List Tk} (h : Toks w A ts) (n : Nat) : Toks w A (ts.take n) := fun i t hi => h i t (by rw [List.getElem?_take] at hi; split at hi; exact hi; cases hi)
def showL (t : Tk) : List UInt8 := if t.kind = 4 then quoteL t.text else t.text
theorem lex_Show (w : World) (k a : Int) (t : ByteArray) (n : Int) (l : Bool) (ht : t.size ≤ 17592186044416) :
    Calls Tryd.prog 15 #[.agg #[.int .i64 k, .int .i64 a, .string t, .int .i64 n, .bool l]] w fun e w' => e = .returned (.string (if k = 4 then mkS (quoteL t.data.toList) else t)) ∧ Keeps (fun _ => False) w w' := by
  have kq := hidden (fun W => str_Quote t W ht)
  have HK0 := hidden ((Keeps.refl (fun _ => False) w).alloc (.cells #[.int .i64 k, .int .i64 a, .string t, .int .i64 n, .bool l] 33))
  refine post_gen fun R hR => ?_
  by_cases h4 : k = 4
  · subst h4
    rw [if_pos rfl] at hR
    go_enter Tryd.func15, Tryd.ntmps15
    go_wp2_with (go_at_call 31; refine (kq.out _).mono ?_; rintro e w2 ⟨rfl, hK⟩)
    exact hR.out _ _ ⟨rfl, HK0.out.trans hK (fun _ _ h => h)⟩
  · rw [if_neg h4] at hR
    have i4 : ((k : Int) == 4) = false := by simpa using h4
    go_enter Tryd.func15, Tryd.ntmps15
    go_wp2_with fail
    exact hR.out _ _ ⟨rfl, HK0.out⟩
def sepL (i : Nat) (t : Tk) : List UInt8 := if t.line = true then [10] else if 0 < i then [32] else []
def joinT (i : Nat) : List Tk → List UInt8
  | [] => []
  | t :: ts => sepL i t ++ showL t ++ joinT (i + 1) ts
theorem joinT_append (ts us : List Tk) : ∀ i, joinT i (ts ++ us) = joinT i ts ++ joinT (i + ts.length) us := by
  induction ts with
  | nil => intro i; simp [joinT]
  | cons t ts ih => intro i; simp only [List.cons_append, joinT, ih, List.length_cons]; rw [show i + 1 + ts.length = i + (ts.length + 1) by omega]; simp
theorem joinT_take {ts : List Tk} {k : Nat} (h : k < ts.length) : joinT 0 (ts.take (k + 1)) = joinT 0 (ts.take k) ++ sepL k ts[k] ++ showL ts[k] := by
  rw [List.take_succ_eq_append_getElem h, joinT_append]
  simp [joinT, Nat.min_eq_left (Nat.le_of_lt h)]
theorem joinT_le (ts : List Tk) (k : Nat) : (joinT 0 (ts.take k)).length ≤ (joinT 0 ts).length := by
  have := congrArg (fun l => (joinT 0 l).length) (List.take_append_drop k ts)
  simp only [joinT_append, List.length_append] at this
  omega
theorem builder_WriteByte_k (B b : Nat) (bs : List Value) (c : Int) (w : World) (h : Lib.IsBuilderF 73 5 B b bs w) (hlen : bs.length + 1 ≤ 140737488355328) (hBw : B ≤ w.heap.size) :
    Calls Tryd.prog 39 #[.pointer (some ⟨b, 0, none⟩), .int .u8 c] w fun e w' => e = .returned .nilIface ∧ (Lib.BuilderAtF 73 5 B b (.pointer (some ⟨b, 0, none⟩)) (bs ++ [.int .u8 c]) w' ∧ Below B w w' ∧ Lib.OthersKept 5 (some b) w w') :=
  Go.Proofs.Any.Builder_WriteByte_k blays167 bextra B b bs c w h hlen hBw
theorem builder_WriteString_k (B b : Nat) (bs : List Value) (s : ByteArray) (w : World) (h : Lib.IsBuilderF 73 5 B b bs w) (hlen : bs.length + s.size ≤ 140737488355328) (hBw : B ≤ w.heap.size) :
    Calls Tryd.prog 40 #[.pointer (some ⟨b, 0, none⟩), .string s] w fun e w' => e = .returned (.tuple #[.int .i64 s.size, .nilIface]) ∧ (Lib.BuilderAtF 73 5 B b (.pointer (some ⟨b, 0, none⟩)) (bs ++ Lib.strCells s) w' ∧ Below B w w' ∧ Lib.OthersKept 5 (some b) w w') :=
  Go.Proofs.Any.Builder_WriteString_k blays166 bextra B b bs s w h hlen hBw
theorem builderF_keeps {T e : TypeId} {B b : Nat} {bs : List Value} {w w1 : World} (h : Lib.IsBuilderF T e B b bs w) (k : Keeps (fun _ => False) w w1) : Lib.IsBuilderF T e B b bs w1 := by
  have key : ∀ p, Lib.BuilderAtF T e B b p bs w → Lib.BuilderAtF T e B b p bs w1 := by
    rintro p ⟨h1, v, hb, hr, hn⟩
    refine ⟨h1, v, k.heap hb (fun h => h), ⟨hr.1, ?_⟩, hn⟩
    rcases hr.2 with h2 | ⟨g, cap, cur, fz, rfl, hg, hh, r⟩
    · exact .inl h2
    · exact .inr ⟨g, cap, cur, fz, rfl, hg, k.heap hh (fun h => h), r⟩
  exact h.elim (fun h => .inl (key _ h)) (fun h => .inr (key _ h))
theorem Toks.at_ {w : World} {A : Option Addr} {ts : List Tk} (h : Toks w A ts) {i : Nat} (hi : i < ts.length) : ∃ b o, A = some ⟨b, o, none⟩ ∧ b < w.heap.size ∧ w.cell? ⟨b, o + i * 5, none⟩ = some (.int .i64 ts[i].kind) ∧ w.cell? ⟨b, o + i * 5 + 1, none⟩ = some (.int .i64 (ts[i].at_ : Int)) ∧ w.cell? ⟨b, o + i * 5 + 2, none⟩ = some (.string (mkS ts[i].text)) ∧ w.cell? ⟨b, o + i * 5 + 3, none⟩ = some (.int .i64 ts[i].num) ∧ w.cell? ⟨b, o + i * 5 + 4, none⟩ = some (.bool ts[i].line) := by
  obtain ⟨b, o, rfl, h0, h1, h2, h3, h4⟩ := h i _ (List.getElem?_eq_getElem hi)
  exact ⟨b, o, rfl, World.block_lt_of_cell? w _ h1, h0, h1, h2, h3, h4⟩
set_option maxHeartbeats 2000000 in
theorem lex_Join (w : World) (A : Option Addr) (c : Nat) (ts : List Tk) (hT : Toks w A ts) (hn : ts.length ≤ 65537) (hz : ∀ i (h : i < ts.length), ts[i].text.length ≤ 1073741824) (hl : (joinT 0 ts).length ≤ 1073741824) :
    Calls Tryd.prog 23 #[.slice A ts.length c] w fun e w' => e = .returned (.string (mkS (joinT 0 ts))) ∧ Keeps (fun _ => False) w w' := by
  have HT := hidden hT
  have HZ := hidden hz
  clear hT hz
  refine post_gen fun R hR => ?_
  go_enter Tryd.func23, Tryd.ntmps23
  go_wp2_with fail
  have HB0 := hidden (Lib.IsBuilderF.of (Lib.fresh_isBuilder 73 5 w))
  have HW0 := hidden ((Below.refl w.heap.size w).alloc (Nat.le_refl _) (.cells #[.pointer none, .slice none 0 0] 73))
  go_loopw [8] (fun i wr => ∃ k : Nat, k ≤ ts.length ∧ i = .int .i64 k ∧ Lib.IsBuilderF 73 5 w.heap.size w.heap.size (byteCells (joinT 0 (ts.take k))) wr ∧ Below w.heap.size w wr ∧ w.heap.size < wr.heap.size) (fun i _ => ts.length - (intOf i).toNat)
  case atStart => exact ⟨0, Nat.zero_le _, rfl, by simpa [joinT, byteCells] using HB0.out, HW0.out, by simp⟩
  case round =>
    clear HB0 HW0
    obtain ⟨k, hk, rfl, hB, hW, hzr⟩ := hrel
    have HB := hidden hB
    have HW := hidden hW
    have hle := joinT_le ts k
    clear hB
    by_cases hlt : k < ts.length
    · obtain ⟨ab, ao, rfl, hab, h0, h1, h2, h3, h4⟩ := HT.out.at_ hlt
      have c0 := (Keeps.of_below hW).cell h0 (by show ¬ w.heap.size ≤ ab; omega)
      have c1 := (Keeps.of_below hW).cell h1 (by show ¬ w.heap.size ≤ ab; omega)
      have c2 := (Keeps.of_below hW).cell h2 (by show ¬ w.heap.size ≤ ab; omega)
      have c3 := (Keeps.of_below hW).cell h3 (by show ¬ w.heap.size ≤ ab; omega)
      have c4 := (Keeps.of_below hW).cell h4 (by show ¬ w.heap.size ≤ ab; omega)
      have hjt := joinT_take hlt
      have hjl := joinT_le ts (k + 1)
      have hzk := HZ.out k hlt
      clear h0 h1 h2 h3 h4 hW
      generalize ts[k] = t at *
      obtain ⟨kd, ap, tx, nm, ln⟩ := t
      simp only at c0 c1 c2 c3 c4 hzk
      have kS0 := fun W => lex_Show W kd ap (mkS tx) nm ln (by rw [mkS_size]; omega)
      rw [mkS_data, show (if kd = 4 then mkS (quoteL tx) else mkS tx) = mkS (showL ⟨kd, ap, tx, nm, ln⟩) by rw [showL]; split <;> rfl] at kS0
      have kS := hidden kS0
      clear kS0
      have hlen := congrArg List.length hjt
      simp only [List.length_append] at hlen
      cases ln
      · by_cases hk0 : 0 < k
        · have i0 : (0 : Int) < k := by omega
          have hs : sepL k ⟨kd, ap, tx, nm, false⟩ = [32] := by simp [sepL, hk0]
          rw [hs] at hjt hlen
          have JT := hidden hjt
          simp only [List.length_cons, List.length_nil] at hlen
          clear hjt hs
          go_wp2_with (first | (go_at_call 39; refine (builder_WriteByte_k w.heap.size w.heap.size _ 32 _ (HB.out.alloc (.cells #[.int .i64 kd, .int .i64 (ap : Int), .string (mkS tx), .int .i64 nm, .bool false] 33)) (by rw [byteCells_length]; omega) (by simp; omega)).mono ?_; rintro e w2 ⟨rfl, hB2, hW2, hO2⟩; have HB2 := hidden (show Lib.IsBuilderF 73 5 w.heap.size w.heap.size (byteCells (joinT 0 (ts.take k) ++ [32])) w2 from Or.inr (by have h := hB2; rw [show byteCells (joinT 0 (ts.take k)) ++ [.int .u8 32] = byteCells (joinT 0 (ts.take k) ++ [32]) by simp [byteCells]] at h; exact h)); have HW2 := hidden ((HW.out.alloc (by omega) (.cells #[.int .i64 kd, .int .i64 (ap : Int), .string (mkS tx), .int .i64 nm, .bool false] 33)).trans hW2); have hbx := hO2 wr.heap.size _ (blk_new wr (.cells #[.int .i64 kd, .int .i64 (ap : Int), .string (mkS tx), .int .i64 nm, .bool false] 33)) (fun e => by have e2 := Option.some.inj e; omega) (fun c fz e => by cases e); have hz2 := hW2.size; clear hB2 hW2 hO2; obtain ⟨y0, y1, y2, y3, y4⟩ := TokAt.cells (show TokAt w2 wr.heap.size kd ap (mkS tx) nm false from hbx); have hbz := blk_lt hbx; simp at hz2; clear hbx) | (go_at_call 15; refine (kS.out _).mono ?_; rintro e w3 ⟨rfl, hK3⟩; have HB3 := hidden (builderF_keeps HB2.out hK3); have HW3 := hidden (HW2.out.trans (hK3.below (B := w.heap.size) (by omega) (fun _ h => h.elim))); have hz3 := hK3.size; clear hK3) | (go_at_call 40; refine (builder_WriteString_k w.heap.size w.heap.size _ (mkS (showL ⟨kd, ap, tx, nm, false⟩)) _ HB3.out (by rw [byteCells_length, mkS_size]; (try simp only [List.length_append, List.length_cons, List.length_nil]); omega) (by omega)).mono ?_; rintro e w4 ⟨rfl, hB4, hW4, -⟩; have HB4 := hidden hB4; have HW4 := hidden (HW3.out.trans hW4); clear hB4 hW4))
          go_roundw
          case rel =>
            refine ⟨k + 1, hlt, by go_num, ?_, HW4.out, by obtain ⟨_, v, hb, _⟩ := HB4.out; exact blk_lt hb⟩
            have h := HB4.out
            rw [str_cells, ← byteCells_append] at h
            rw [JT.out]
            exact Or.inr h
          case measure => simp [intOf]; omega
        · have i0 : ¬ (0 : Int) < k := by omega
          have hs : sepL k ⟨kd, ap, tx, nm, false⟩ = [] := by simp [sepL, hk0]
          rw [hs, List.append_nil] at hjt
          rw [hs] at hlen
          have JT := hidden hjt
          simp only [List.length_nil] at hlen
          have HB2 := hidden (HB.out.alloc (.cells #[.int .i64 kd, .int .i64 (ap : Int), .string (mkS tx), .int .i64 nm, .bool false] 33))
          have HW2 := hidden (HW.out.alloc (by omega) (.cells #[.int .i64 kd, .int .i64 (ap : Int), .string (mkS tx), .int .i64 nm, .bool false] 33))
          have hz2 : wr.heap.size + 1 = (wr.alloc (.cells #[.int .i64 kd, .int .i64 (ap : Int), .string (mkS tx), .int .i64 nm, .bool false] 33)).heap.size := by simp
          clear hjt hs
          go_wp2_with (first | (go_at_call 15; refine (kS.out _).mono ?_; rintro e w3 ⟨rfl, hK3⟩; have HB3 := hidden (builderF_keeps HB2.out hK3); have HW3 := hidden (HW2.out.trans (hK3.below (B := w.heap.size) (by omega) (fun _ h => h.elim))); have hz3 := hK3.size; clear hK3) | (go_at_call 40; refine (builder_WriteString_k w.heap.size w.heap.size _ (mkS (showL ⟨kd, ap, tx, nm, false⟩)) _ HB3.out (by rw [byteCells_length, mkS_size]; (try simp only [List.length_append, List.length_cons, List.length_nil]); omega) (by omega)).mono ?_; rintro e w4 ⟨rfl, hB4, hW4, -⟩; have HB4 := hidden hB4; have HW4 := hidden (HW3.out.trans hW4); clear hB4 hW4))
          go_roundw
          case rel =>
            refine ⟨k + 1, hlt, by go_num, ?_, HW4.out, by obtain ⟨_, v, hb, _⟩ := HB4.out; exact blk_lt hb⟩
            have h := HB4.out
            rw [str_cells, ← byteCells_append] at h
            rw [JT.out]
            exact Or.inr h
          case measure => simp [intOf]; omega
      · have hs : sepL k ⟨kd, ap, tx, nm, true⟩ = [10] := by simp [sepL]
        rw [hs] at hjt hlen
        have JT := hidden hjt
        simp only [List.length_cons, List.length_nil] at hlen
        clear hjt hs
        go_wp2_with (first | (go_at_call 39; refine (builder_WriteByte_k w.heap.size w.heap.size _ 10 _ (HB.out.alloc (.cells #[.int .i64 kd, .int .i64 (ap : Int), .string (mkS tx), .int .i64 nm, .bool true] 33)) (by rw [byteCells_length]; omega) (by simp; omega)).mono ?_; rintro e w2 ⟨rfl, hB2, hW2, hO2⟩; have HB2 := hidden (show Lib.IsBuilderF 73 5 w.heap.size w.heap.size (byteCells (joinT 0 (ts.take k) ++ [10])) w2 from Or.inr (by have h := hB2; rw [show byteCells (joinT 0 (ts.take k)) ++ [.int .u8 10] = byteCells (joinT 0 (ts.take k) ++ [10]) by simp [byteCells]] at h; exact h)); have HW2 := hidden ((HW.out.alloc (by omega) (.cells #[.int .i64 kd, .int .i64 (ap : Int), .string (mkS tx), .int .i64 nm, .bool true] 33)).trans hW2); have hbx := hO2 wr.heap.size _ (blk_new wr (.cells #[.int .i64 kd, .int .i64 (ap : Int), .string (mkS tx), .int .i64 nm, .bool true] 33)) (fun e => by have e2 := Option.some.inj e; omega) (fun c fz e => by cases e); have hz2 := hW2.size; clear hB2 hW2 hO2; obtain ⟨y0, y1, y2, y3, y4⟩ := TokAt.cells (show TokAt w2 wr.heap.size kd ap (mkS tx) nm true from hbx); have hbz := blk_lt hbx; simp at hz2; clear hbx) | (go_at_call 15; refine (kS.out _).mono ?_; rintro e w3 ⟨rfl, hK3⟩; have HB3 := hidden (builderF_keeps HB2.out hK3); have HW3 := hidden (HW2.out.trans (hK3.below (B := w.heap.size) (by omega) (fun _ h => h.elim))); have hz3 := hK3.size; clear hK3) | (go_at_call 40; refine (builder_WriteString_k w.heap.size w.heap.size _ (mkS (showL ⟨kd, ap, tx, nm, true⟩)) _ HB3.out (by rw [byteCells_length, mkS_size]; (try simp only [List.length_append, List.length_cons, List.length_nil]); omega) (by omega)).mono ?_; rintro e w4 ⟨rfl, hB4, hW4, -⟩; have HB4 := hidden hB4; have HW4 := hidden (HW3.out.trans hW4); clear hB4 hW4))
        go_roundw
        case rel =>
          refine ⟨k + 1, hlt, by go_num, ?_, HW4.out, by obtain ⟨_, v, hb, _⟩ := HB4.out; exact blk_lt hb⟩
          have h := HB4.out
          rw [str_cells, ← byteCells_append] at h
          rw [JT.out]
          exact Or.inr h
        case measure => simp [intOf]; omega
    · obtain rfl : k = ts.length := by omega
      rw [List.take_length] at HB
      go_wp2_with (go_at_call 41; refine (Tryd.Builder_String_any_k w.heap.size w.heap.size (joinT 0 ts) _ HB.out (by omega)).mono ?_; rintro e w5 ⟨rfl, -, hW5, -⟩; have HW5 := hidden (HW.out.trans hW5); clear hW5)
      exact hR.out _ _ ⟨rfl, Keeps.ofNew HW5.out⟩
end Go.Proofs.YtafndbmjohhhpaaDoor
namespace Go.Proofs.YtafndbmjohhhpaaDoor
open Go.RowKit
set_option maxRecDepth 100000

def cutT : List Tk := [⟨2, 0, [108, 111, 99, 97, 108], 0, false⟩, ⟨1, 6, [120], 0, false⟩, ⟨5, 8, [61], 0, false⟩, ⟨3, 10, [48, 120, 49, 70], 31, false⟩, ⟨5, 21, [43, 43], 0, true⟩, ⟨3, 23, [39, 97, 39], 97, false⟩, ⟨6, 26, [], 0, false⟩]
theorem cut_scan1 : scan [108, 111, 99, 97, 108, 32, 120, 32, 61, 32, 48, 120, 49, 70, 32, 47, 47, 32, 115, 111, 10, 43, 43, 39, 97, 39] = .inl cutT := by kernel_rfl
theorem cut_scan2 : scan [97, 32, 34, 98] = .inr (5, 2) := by kernel_rfl
theorem cut_join : joinT 0 (cutT.take 2) = [108, 111, 99, 97, 108, 32, 120] := by kernel_rfl
theorem cut_show : quoteL [97, 10] = [34, 97, 92, 110, 34] := by kernel_rfl
theorem cut_key1 : keyB [121, 105, 101, 108, 100] = true := by kernel_rfl
theorem cut_key2 : keyB [120] = false := by kernel_rfl
set_option maxHeartbeats 2000000 in
theorem cuts_true (w : World) (m : Int) (hm : MaxL w m) : Calls Tryd.prog 18 #[] w fun e w' => e = .returned (.bool true) ∧ Keeps (fun _ => False) w w' := by
  have k1 := fun (W : World) (hW : MaxL W m) => lex_Scan W ⟨#[108, 111, 99, 97, 108, 32, 120, 32, 61, 32, 48, 120, 49, 70, 32, 47, 47, 32, 115, 111, 10, 43, 43, 39, 97, 39]⟩ m hW (by decide)
  rw [show scan (⟨#[108, 111, 99, 97, 108, 32, 120, 32, 61, 32, 48, 120, 49, 70, 32, 47, 47, 32, 115, 111, 10, 43, 43, 39, 97, 39]⟩ : ByteArray).data.toList = .inl cutT from cut_scan1] at k1
  have k2 := fun (W : World) (hW : MaxL W m) => lex_Scan W ⟨#[97, 32, 34, 98]⟩ m hW (by decide)
  rw [show scan (⟨#[97, 32, 34, 98]⟩ : ByteArray).data.toList = .inr (5, 2) from cut_scan2] at k2
  have K1 := hidden k1
  have K2 := hidden k2
  have HM := hidden hm
  clear k1 k2 hm
  refine post_gen fun R hR => ?_
  go_enter Tryd.func18, Tryd.ntmps18
  go_wp2_with fail
  refine (K1.out _ HM.out).mono ?_
  rintro e w1 ⟨A, c, F, rfl, hRow, hF, hK1⟩
  have HT1 := hidden (Toks.own hRow.1)
  have HKa := hidden (hK1.alloc (.cells #[.int .i64 0, .int .i64 0] 29))
  have HM1 := hidden (HM.out.keeps HKa.out (fun h => h))
  have hcap := hRow.cap
  have HFa := hidden (FaultAt.new w1 0 0)
  obtain ⟨ab, ao, rfl, hab, -⟩ := HT1.out.at_ (show 0 < cutT.length by decide)
  unfold fltV
  rw [show cutT.length = 7 from rfl] at hcap ⊢
  clear hRow hF hK1
  go_wp2_with fail
  refine (K2.out _ HM1.out).mono ?_
  rintro e w2 ⟨he, hK2⟩
  rw [show fltV ((5 : Int), (2 : Nat)).1 ((((5 : Int), (2 : Nat)).2 : Nat) : Int) = .agg #[.int .i64 5, .int .i64 2] from rfl] at he
  subst he
  have HT2 := hidden (HT1.out.keeps (((Keeps.refl (fun _ => False) w1).alloc (.cells #[.int .i64 0, .int .i64 0] 29)).trans hK2 (fun _ _ h => h)) (fun _ _ _ h => h))
  have HK2 := hidden ((HKa.out.trans hK2 (fun _ _ h => h)).alloc (.cells #[.int .i64 5, .int .i64 2] 29))
  have HM2 := hidden (HM1.out.keeps (hK2.alloc (.cells #[.int .i64 5, .int .i64 2] 29)) (fun h => h))
  have HF2 := hidden (hK2.heap HFa.out (fun h => h))
  obtain ⟨f0, f1, -, -⟩ := FaultAt.cells (show FaultAt w2 w1.heap.size 0 0 from HF2.out)
  have hfz := blk_lt HF2.out
  have HT3 := hidden (HT2.out.keeps ((Keeps.refl (fun _ => False) w2).alloc (.cells #[.int .i64 5, .int .i64 2] 29)) (fun _ _ _ h => h))
  have kj := lex_Join (w2.alloc (.cells #[.int .i64 5, .int .i64 2] 29)) (some ⟨ab, ao, none⟩) c (cutT.take 2) (HT3.out.take 2) (by decide) (by decide) (by decide)
  rw [show (cutT.take 2).length = 2 from rfl, show mkS (joinT 0 (cutT.take 2)) = ⟨#[108, 111, 99, 97, 108, 32, 120]⟩ from congrArg mkS cut_join] at kj
  have KJ := hidden kj
  have ks := fun W => lex_Show W 4 0 ⟨#[97, 10]⟩ 0 false (by decide)
  rw [show (if (4 : Int) = 4 then mkS (quoteL (⟨#[97, 10]⟩ : ByteArray).data.toList) else ⟨#[97, 10]⟩) = ⟨#[34, 97, 92, 110, 34]⟩ from congrArg mkS cut_show] at ks
  have KS := hidden ks
  have ky := fun W hW => lex_Keyword W ⟨#[121, 105, 101, 108, 100]⟩ m hW (by decide)
  rw [show keyB (⟨#[121, 105, 101, 108, 100]⟩ : ByteArray).data.toList = true from cut_key1] at ky
  have KY := hidden ky
  have kx := fun W hW => lex_Keyword W ⟨#[120]⟩ m hW (by decide)
  rw [show keyB (⟨#[120]⟩ : ByteArray).data.toList = false from cut_key2] at kx
  have KX := hidden kx
  clear kj ks ky kx
  obtain ⟨b0, o0, e0, hb0, a0, -⟩ := HT2.out.at_ (show 0 < cutT.length by decide)
  obtain ⟨rfl, rfl⟩ : ab = b0 ∧ ao = o0 := by cases e0; exact ⟨rfl, rfl⟩
  obtain ⟨b1, o1, e1, -, a1, -⟩ := HT2.out.at_ (show 1 < cutT.length by decide)
  obtain ⟨rfl, rfl⟩ : ab = b1 ∧ ao = o1 := by cases e1; exact ⟨rfl, rfl⟩
  obtain ⟨b3, o3, e3, -, a30, a31, a32, a33, a34⟩ := HT2.out.at_ (show 3 < cutT.length by decide)
  obtain ⟨rfl, rfl⟩ : ab = b3 ∧ ao = o3 := by cases e3; exact ⟨rfl, rfl⟩
  obtain ⟨b4, o4, e4, -, a40, a41, a42, a43, a44⟩ := HT2.out.at_ (show 4 < cutT.length by decide)
  obtain ⟨rfl, rfl⟩ : ab = b4 ∧ ao = o4 := by cases e4; exact ⟨rfl, rfl⟩
  obtain ⟨b5, o5, e5, -, -, -, -, a53, -⟩ := HT2.out.at_ (show 5 < cutT.length by decide)
  obtain ⟨rfl, rfl⟩ : ab = b5 ∧ ao = o5 := by cases e5; exact ⟨rfl, rfl⟩
  obtain ⟨b6, o6, e6, -, a60, -⟩ := HT2.out.at_ (show 6 < cutT.length by decide)
  obtain ⟨rfl, rfl⟩ : ab = b6 ∧ ao = o6 := by cases e6; exact ⟨rfl, rfl⟩
  clear e0 e1 e3 e4 e5 e6
  have g0 : w2.cell? ⟨ab, ao, none⟩ = some (.int .i64 2) := a0
  have g1 : w2.cell? ⟨ab, ao + 5, none⟩ = some (.int .i64 1) := a1
  have g30 : w2.cell? ⟨ab, ao + 15, none⟩ = some (.int .i64 3) := a30
  have g31 : w2.cell? ⟨ab, ao + 16, none⟩ = some (.int .i64 10) := a31
  have g32 : w2.cell? ⟨ab, ao + 17, none⟩ = some (.string ⟨#[48, 120, 49, 70]⟩) := a32
  have g33 : w2.cell? ⟨ab, ao + 18, none⟩ = some (.int .i64 31) := a33
  have g34 : w2.cell? ⟨ab, ao + 19, none⟩ = some (.bool false) := a34
  have g40 : w2.cell? ⟨ab, ao + 20, none⟩ = some (.int .i64 5) := a40
  have g41 : w2.cell? ⟨ab, ao + 21, none⟩ = some (.int .i64 21) := a41
  have g42 : w2.cell? ⟨ab, ao + 22, none⟩ = some (.string ⟨#[43, 43]⟩) := a42
  have g43 : w2.cell? ⟨ab, ao + 23, none⟩ = some (.int .i64 0) := a43
  have g44 : w2.cell? ⟨ab, ao + 24, none⟩ = some (.bool true) := a44
  have g53 : w2.cell? ⟨ab, ao + 28, none⟩ = some (.int .i64 97) := a53
  have g60 : w2.cell? ⟨ab, ao + 30, none⟩ = some (.int .i64 6) := a60
  clear a0 a1 a30 a31 a32 a33 a34 a40 a41 a42 a43 a44 a53 a60 hK2
  go_wp2_with fail
  refine KJ.out.mono ?_
  rintro e w3 ⟨rfl, hK3⟩
  have HK3 := hidden (HK2.out.trans hK3 (fun _ _ h => h))
  have HM3 := hidden (HM2.out.keeps hK3 (fun h => h))
  clear hK3
  go_wp2_with fail
  refine (KS.out _).mono ?_
  rintro e w4 ⟨rfl, hK4⟩
  have HK4 := hidden (HK3.out.trans hK4 (fun _ _ h => h))
  have HM4 := hidden (HM3.out.keeps hK4 (fun h => h))
  clear hK4
  go_wp2_with (go_at_call 12; first | (with_reducible refine (KY.out _ HM4.out).mono ?_; rintro e _ ⟨rfl, rfl⟩) | (with_reducible refine (KX.out _ HM4.out).mono ?_; rintro e _ ⟨rfl, rfl⟩))
  exact hR.out _ _ ⟨rfl, HK4.out⟩
end Go.Proofs.YtafndbmjohhhpaaDoor
namespace Go.Proofs.YtafndbmjohhhpaaDoor
open Go.RowKit
set_option maxRecDepth 100000

theorem ref_Words (w : World) : Calls Tryd.prog 22 #[] w fun e w' => ∃ A c ws, e = .returned (.slice A ws.length c) ∧ ws = wordList.map mkS ∧ Strs w' A ws ∧ Keeps (fun _ => False) w w' := by
  refine post_gen fun R hR => ?_
  go_enter Tryd.func22, Tryd.ntmps22
  go_wp2_with fail
  exact hR.out _ _ ⟨some ⟨w.heap.size, 0, none⟩, 35, wordList.map mkS, rfl, rfl, Strs.lit w (wordList.map mkS) 9, (Keeps.refl _ w).alloc _⟩
theorem front_kind {l : List UInt8} {t : Int × List UInt8 × Int × Nat} (h : front l = .inl t) : (t.1 = 1 → keyB t.2.1 = false) ∧ (t.1 = 2 → keyB t.2.1 = true) := by
  cases l with
  | nil => cases h
  | cons c r =>
    by_cases h1 : letterB c = true
    · rw [front_letter h1] at h
      cases h
      cases hk : keyB (wordL (c :: r)) <;> simp [hk]
    by_cases h2 : digitB c = true
    · rw [front_digit h1 h2] at h
      cases hn : numP (wordL (c :: r)) with
      | inl n => rw [hn] at h; cases h; simp
      | inr x => rw [hn] at h; cases h
    by_cases h3 : c = 34
    · rw [front_str h1 h2 h3, strCut] at h
      cases hn : quo 34 r with
      | none => rw [hn] at h; cases h
      | some n =>
        rw [hn] at h
        simp only at h
        cases hu : unesc (r.take n) with
        | inr k => rw [hu] at h; cases h
        | inl x => rw [hu] at h; cases h; simp
    by_cases h4 : c = 39
    · rw [front_char h1 h2 h4, charCut] at h
      cases hn : quo 39 r with
      | none => rw [hn] at h; cases h
      | some n =>
        rw [hn] at h
        simp only at h
        cases hu : unesc (r.take n) with
        | inr k => rw [hu] at h; cases h
        | inl x =>
          rw [hu] at h
          match x, h with
          | [], h => cases h
          | [b], h => cases h; simp
          | _ :: _ :: _, h => cases h
    rw [front_sign h1 h2 (fun h => h.elim (fun h => h3 (UInt8.toNat_inj.1 h)) (fun h => h4 (UInt8.toNat_inj.1 h)))] at h
    cases hf : signList.find? (fun s => s.isPrefixOf (c :: r)) with
    | none => rw [hf] at h; cases h
    | some x => rw [hf] at h; cases h; simp
theorem scanF_all {P : Tk → Prop} (hend : ∀ a b, P ⟨6, a, [], 0, b⟩) (hfront : ∀ l t a b, front l = .inl t → P ⟨t.1, a, t.2.1, t.2.2.1, b⟩) (f : Nat) : ∀ n a l ts, scanF f n a l = .inl ts → ∀ t ∈ ts, P t := by
  induction f with
  | zero => intro n a l ts h; cases h; simp
  | succ f ih =>
    intro n a l ts h
    simp only [scanF] at h
    by_cases hb : (gap l).2.2 = false
    · rw [if_pos hb] at h; cases h
    rw [if_neg hb] at h
    by_cases he : l.length ≤ (gap l).1
    · rw [if_pos he] at h; cases h
      intro t ht; rw [List.mem_singleton] at ht; subst ht; exact hend _ _
    rw [if_neg he] at h
    by_cases hn : n = 65536
    · rw [if_pos hn] at h; cases h
    rw [if_neg hn] at h
    cases hf : front (l.drop (gap l).1) with
    | inr e => rw [hf] at h; cases h
    | inl x =>
      rw [hf] at h
      simp only at h
      cases hs : scanF f (n + 1) (a + (gap l).1 + x.2.2.2) (l.drop ((gap l).1 + x.2.2.2)) with
      | inr e => rw [hs] at h; cases h
      | inl us =>
        rw [hs] at h
        cases h
        intro t ht
        rcases List.mem_cons.1 ht with rfl | ht
        · exact hfront _ _ _ _ hf
        · exact ih _ _ _ _ hs t ht
theorem scan_all {P : Tk → Prop} (hend : ∀ a b, P ⟨6, a, [], 0, b⟩) (hfront : ∀ l t a b, front l = .inl t → P ⟨t.1, a, t.2.1, t.2.2.1, b⟩) {l : List UInt8} {ts : List Tk} (h : scan l = .inl ts) : ∀ t ∈ ts, P t := by
  rw [scan] at h
  split at h
  · cases h
  · exact scanF_all hend hfront _ _ _ _ _ h
theorem scanF_err (f : Nat) : ∀ n a l e, scanF f n a l = .inr e → e.1 ≠ 0 := by
  induction f with
  | zero => intro n a l e h; cases h
  | succ f ih =>
    intro n a l e h
    simp only [scanF] at h
    by_cases hb : (gap l).2.2 = false
    · rw [if_pos hb] at h; cases h; show (5 : Int) ≠ 0; decide
    rw [if_neg hb] at h
    by_cases he : l.length ≤ (gap l).1
    · rw [if_pos he] at h; cases h
    rw [if_neg he] at h
    by_cases hn : n = 65536
    · rw [if_pos hn] at h; cases h; show (2 : Int) ≠ 0; decide
    rw [if_neg hn] at h
    cases hf : front (l.drop (gap l).1) with
    | inr x => rw [hf] at h; cases h; show x.1 ≠ 0; exact front_err hf
    | inl x =>
      rw [hf] at h
      simp only at h
      cases hs : scanF f (n + 1) (a + (gap l).1 + x.2.2.2) (l.drop ((gap l).1 + x.2.2.2)) with
      | inr y => rw [hs] at h; cases h; exact ih _ _ _ _ hs
      | inl us => rw [hs] at h; cases h
theorem scan_err {l : List UInt8} {e : Int × Nat} (h : scan l = .inr e) : e.1 ≠ 0 := by
  rw [scan] at h
  split at h
  · cases h; show (2 : Int) ≠ 0; decide
  · exact scanF_err _ _ _ _ _ h
def thereB (k : Nat) (l : List UInt8) : Bool := (wordList.take k).any (· == l)
theorem thereB_all (l : List UInt8) : thereB wordList.length l = keyB l := by
  rw [thereB, List.take_length, keyB, Bool.eq_iff_iff]
  simp
theorem thereB_more {k : Nat} {l : List UInt8} (h : k < wordList.length) : thereB (k + 1) l = (thereB k l || (wordList[k] == l)) := by
  rw [thereB, thereB, List.take_succ_eq_append_getElem h, List.any_append]
  simp
theorem words_at {ws : List ByteArray} (h : ws = wordList.map mkS) : ws.length = wordList.length ∧ (∀ (k : Nat) (h1 : k < ws.length), ∃ h2 : k < wordList.length, ((ws[k]'h1).data.toList == ·) = ((wordList[k]'h2) == ·)) ∧ ws.length ≤ 100 := by
  subst h
  refine ⟨by simp, fun k h1 => ⟨by simpa using h1, ?_⟩, by decide⟩
  funext x
  rw [List.getElem_map, mkS_data]
set_option maxHeartbeats 4000000 in
theorem lexWords_walk (w : World) (s : ByteArray) (m : Int) (hm : MaxL w m) (hs0 : s.size ≤ 140737488351232) : Calls Tryd.prog 6 #[.string s] w fun e w' => e = .returned (.bool true) ∧ Below w.heap.size w w' := by
  have HC := hidden (cuts_true w m hm)
  have HM := hidden hm
  clear hm
  refine post_gen fun R hR => ?_
  by_cases hl : 200 < s.size
  · have i1 : (200 : Int) < s.size := by omega
    go_enter Tryd.func6, Tryd.ntmps6
    go_wp2_with fail
    refine HC.out.mono ?_
    rintro e w1 ⟨rfl, hK⟩
    go_wp2_with fail
    exact hR.out _ _ ⟨rfl, hK.toNew (fun _ h => h.elim)⟩
  have i1 : ¬ (200 : Int) < s.size := by omega
  have kS := hidden (fun W h => lex_Scan W s m h hs0)
  have kK := hidden (fun W h => lex_Keyword W s m h hs0)
  go_enter Tryd.func6, Tryd.ntmps6
  go_wp2_with fail
  refine HC.out.mono ?_
  rintro e w1 ⟨rfl, hK⟩
  have HK1 := hidden hK
  have HM1 := hidden (HM.out.keeps hK (fun h => h))
  clear hK
  go_wp2_with fail
  refine (ref_Words w1).mono ?_
  rintro e w2 ⟨A, c, ws, rfl, hws, hS, hK⟩
  obtain ⟨hw1, hw2, hw3⟩ := words_at hws
  have HW1 := hidden hw1
  have HW2 := hidden hw2
  have HS := hidden hS
  have HK2 := hidden (HK1.out.trans hK (fun _ _ h => h))
  have HM2 := hidden (HM1.out.keeps hK (fun h => h))
  clear hK hS hws hw1 hw2
  have HK0 := hidden (thereB_all s.data.toList)
  go_wp2_with fail
  go_loop [3, 15] (fun t i => ∃ k : Nat, k ≤ ws.length ∧ i = .int .i64 k ∧ t = .bool (thereB k s.data.toList)) (fun _ i => ws.length - (intOf i).toNat)
  case atStart => exact ⟨0, Nat.zero_le _, rfl, rfl⟩
  case round =>
    obtain ⟨k, hk, rfl, rfl⟩ := hrel
    by_cases hlt : k < ws.length
    · obtain ⟨ab, ao, rfl, hc0⟩ := HS.out k _ (List.getElem?_eq_getElem hlt)
      obtain ⟨h2, he⟩ := HW2.out k hlt
      have heq : ((ws[k]'hlt).toList == s.toList) = ((wordList[k]'h2) == s.data.toList) := by
        rw [Lib.toList_data, Lib.toList_data]
        exact congrFun he s.data.toList
      have HMO := hidden (thereB_more (l := s.data.toList) h2)
      clear he
      generalize ((wordList[k]'h2) == s.data.toList) = b at *
      generalize thereB k s.data.toList = th at *
      cases th
      all_goals
        go_wp2_with fail
        go_round
        case rel => exact ⟨k + 1, hlt, by go_num, by rw [HMO.out]; rfl⟩
        case measure => simp [intOf]; omega
    · obtain rfl : k = ws.length := by omega
      rw [HW1.out, HK0.out]
      have kk := kK.out
      have kc := kS.out
      clear kK kS HK0 HW1 HW2 HS
      cases hC : scan s.data.toList with
      | inr x =>
        rw [hC] at kc
        have hx := scan_err hC
        obtain ⟨xc, xa⟩ := x
        have j1 : ((xc : Int) == 0) = false := by simpa using hx
        have KC := hidden kc
        clear kc hC hx
        cases hkb : keyB s.data.toList
        all_goals
          rw [hkb] at kk
          have KK := hidden kk
          clear kk hkb
          go_wp2_with fail
          refine (KC.out _ HM2.out).mono ?_
          rintro e w3 ⟨he, hK⟩
          rw [show fltV ((xc : Int), (xa : Nat)).1 ((((xc : Int), (xa : Nat)).2 : Nat) : Int) = .agg #[.int .i64 xc, .int .i64 (xa : Int)] from rfl] at he
          subst he
          have HK4 := hidden ((HK2.out.trans hK (fun _ _ h => h)).alloc (.cells #[.int .i64 xc, .int .i64 (xa : Int)] 29))
          have HM4 := hidden (HM2.out.keeps (hK.alloc (.cells #[.int .i64 xc, .int .i64 (xa : Int)] 29)) (fun h => h))
          clear hK
          go_wp2_with (first | (go_at_call 12; refine (KK.out _ HM4.out).mono ?_; rintro e _ ⟨rfl, rfl⟩))
          exact hR.out _ _ ⟨rfl, HK4.out.toNew (fun _ h => h.elim)⟩
      | inl ts =>
        rw [hC] at kc
        have hP := scan_all (P := fun t => (t.kind = 1 → keyB t.text = false) ∧ (t.kind = 2 → keyB t.text = true)) (fun a b => ⟨fun h => absurd (show (6 : Int) = 1 from h) (by decide), fun h => absurd (show (6 : Int) = 2 from h) (by decide)⟩) (fun l t a b h => front_kind h) hC
        have KC := hidden kc
        have HP := hidden hP
        clear kc hC hP
        by_cases h2 : ts.length = 2
        rotate_left
        · have j2 : ((ts.length : Int) == 2) = false := by rw [beq_eq_false_iff_ne]; omega
          cases hkb : keyB s.data.toList
          all_goals
            rw [hkb] at kk
            have KK := hidden kk
            clear kk hkb
            go_wp2_with fail
            refine (KC.out _ HM2.out).mono ?_
            rintro e w3 ⟨A3, c3, F3, rfl, -, -, hK⟩
            unfold fltV
            have HK4 := hidden ((HK2.out.trans hK (fun _ _ h => h)).alloc (.cells #[.int .i64 0, .int .i64 0] 29))
            have HM4 := hidden (HM2.out.keeps (hK.alloc (.cells #[.int .i64 0, .int .i64 0] 29)) (fun h => h))
            clear hK
            go_wp2_with (first | (go_at_call 12; refine (KK.out _ HM4.out).mono ?_; rintro e _ ⟨rfl, rfl⟩))
            exact hR.out _ _ ⟨rfl, HK4.out.toNew (fun _ h => h.elim)⟩
        have j2 : ((ts.length : Int) == 2) = true := by rw [beq_iff_eq]; omega
        have h20 : 0 < ts.length := by omega
        have hP0 := HP.out _ (List.getElem_mem h20)
        by_cases htx : ts[0].text = s.data.toList
        rotate_left
        · have j3 : ((mkS ts[0].text).toList == s.toList) = false := by
            rw [beq_eq_false_iff_ne, Lib.toList_data, Lib.toList_data, mkS_data]; exact htx
          cases hkb : keyB s.data.toList
          all_goals
            rw [hkb] at kk
            have KK := hidden kk
            clear kk hkb
            go_wp2_with fail
            refine (KC.out _ HM2.out).mono ?_
            rintro e w3 ⟨A3, c3, F3, rfl, hRow, -, hK⟩
            unfold fltV
            obtain ⟨ab, ao, rfl, hab, a0, a1, a2, a3, a4⟩ := (Toks.own hRow.1).at_ h20
            rw [Nat.zero_mul, Nat.add_zero] at a0 a1 a2 a3 a4
            have HK4 := hidden ((HK2.out.trans hK (fun _ _ h => h)).alloc (.cells #[.int .i64 0, .int .i64 0] 29))
            have HM4 := hidden (HM2.out.keeps (hK.alloc (.cells #[.int .i64 0, .int .i64 0] 29)) (fun h => h))
            clear hK hRow
            go_wp2_with (first | (go_at_call 12; refine (KK.out _ HM4.out).mono ?_; rintro e _ ⟨rfl, rfl⟩))
            exact hR.out _ _ ⟨rfl, HK4.out.toNew (fun _ h => h.elim)⟩
        have j3 : ((mkS ts[0].text).toList == s.toList) = true := by
          rw [beq_iff_eq, Lib.toList_data, Lib.toList_data, mkS_data]; exact htx
        rw [htx] at hP0
        have HP0 := hidden hP0
        clear hP0 htx HP
        rcases (show ts[0].kind = 1 ∨ ts[0].kind = 2 ∨ (ts[0].kind ≠ 1 ∧ ts[0].kind ≠ 2) by omega) with hk1 | hk1 | ⟨hk1, hk2⟩
        · have hkb := HP0.out.1 hk1
          rw [hkb] at kk ⊢
          have KK := hidden kk
          have HKD := hidden hk1
          clear kk hkb hk1 HP0
          go_wp2_with fail
          refine (KC.out _ HM2.out).mono ?_
          rintro e w3 ⟨A3, c3, F3, rfl, hRow, -, hK⟩
          unfold fltV
          obtain ⟨ab, ao, rfl, hab, a0, a1, a2, a3, a4⟩ := (Toks.own hRow.1).at_ h20
          rw [Nat.zero_mul, Nat.add_zero] at a0 a1 a2 a3 a4
          rw [HKD.out] at a0
          have HK4 := hidden ((HK2.out.trans hK (fun _ _ h => h)).alloc (.cells #[.int .i64 0, .int .i64 0] 29))
          have HM4 := hidden (HM2.out.keeps (hK.alloc (.cells #[.int .i64 0, .int .i64 0] 29)) (fun h => h))
          clear hK hRow
          go_wp2_with (first | (go_at_call 12; refine (KK.out _ HM4.out).mono ?_; rintro e _ ⟨rfl, rfl⟩))
          exact hR.out _ _ ⟨rfl, HK4.out.toNew (fun _ h => h.elim)⟩
        · have hkb := HP0.out.2 hk1
          rw [hkb] at kk ⊢
          have KK := hidden kk
          have HKD := hidden hk1
          clear kk hkb hk1 HP0
          go_wp2_with fail
          refine (KC.out _ HM2.out).mono ?_
          rintro e w3 ⟨A3, c3, F3, rfl, hRow, -, hK⟩
          unfold fltV
          obtain ⟨ab, ao, rfl, hab, a0, a1, a2, a3, a4⟩ := (Toks.own hRow.1).at_ h20
          rw [Nat.zero_mul, Nat.add_zero] at a0 a1 a2 a3 a4
          rw [HKD.out] at a0
          have HK4 := hidden ((HK2.out.trans hK (fun _ _ h => h)).alloc (.cells #[.int .i64 0, .int .i64 0] 29))
          have HM4 := hidden (HM2.out.keeps (hK.alloc (.cells #[.int .i64 0, .int .i64 0] 29)) (fun h => h))
          clear hK hRow
          go_wp2_with (first | (go_at_call 12; refine (KK.out _ HM4.out).mono ?_; rintro e _ ⟨rfl, rfl⟩))
          exact hR.out _ _ ⟨rfl, HK4.out.toNew (fun _ h => h.elim)⟩
        · have j4 : ((ts[0].kind : Int) == 1) = false := by simpa using hk1
          have j5 : ((ts[0].kind : Int) == 2) = false := by simpa using hk2
          clear hk1 hk2 HP0
          cases hkb : keyB s.data.toList
          all_goals
            rw [hkb] at kk
            have KK := hidden kk
            clear kk hkb
            go_wp2_with fail
            refine (KC.out _ HM2.out).mono ?_
            rintro e w3 ⟨A3, c3, F3, rfl, hRow, -, hK⟩
            unfold fltV
            obtain ⟨ab, ao, rfl, hab, a0, a1, a2, a3, a4⟩ := (Toks.own hRow.1).at_ h20
            rw [Nat.zero_mul, Nat.add_zero] at a0 a1 a2 a3 a4
            have HK4 := hidden ((HK2.out.trans hK (fun _ _ h => h)).alloc (.cells #[.int .i64 0, .int .i64 0] 29))
            have HM4 := hidden (HM2.out.keeps (hK.alloc (.cells #[.int .i64 0, .int .i64 0] 29)) (fun h => h))
            clear hK hRow
            go_wp2_with (first | (go_at_call 12; refine (KK.out _ HM4.out).mono ?_; rintro e _ ⟨rfl, rfl⟩))
            exact hR.out _ _ ⟨rfl, HK4.out.toNew (fun _ h => h.elim)⟩
end Go.Proofs.YtafndbmjohhhpaaDoor
