/- Layer 3 (value): contracts of Bool, Ref, True, Same, Hash, Type. -/
import Derived.Test.YtmjkglmkckofgaaVal
import Derived.Test.YtmjkglmkckofgaaNumR
namespace Go.Proofs.Ytmjkglmkckofgaa
open Go.RowKit
set_option maxRecDepth 100000

theorem value_Bool (b : Bool) (w : World) : Calls Try.prog 44 #[.bool b] w fun e w' => e = .returned (V.val ⟨1, if b then 1 else 0, ⟨#[]⟩⟩) ∧ Keeps (fun _ => False) w w' := by
  refine post_gen fun R hR => ?_
  cases b
  · go_enter Try.func44, Try.ntmps44
    go_wp2
    exact bodyPost_ret (v := V.val ⟨1, 0, ⟨#[]⟩⟩) (by simp [results, Try.results44, go_sem, V.val]) rfl (hR.out _ _ ⟨rfl, (Keeps.refl _ _).alloc _⟩)
  · go_enter Try.func44, Try.ntmps44
    go_wp2
    exact bodyPost_ret (v := V.val ⟨1, 1, ⟨#[]⟩⟩) (by simp [results, Try.results44, go_sem, V.val]) rfl (hR.out _ _ ⟨rfl, (Keeps.refl _ _).alloc _⟩)
theorem value_Ref (n : Int) (w : World) : Calls Try.prog 41 #[.int .i64 n] w fun e w' => e = .returned (V.val ⟨4, n, ⟨#[]⟩⟩) ∧ Keeps (fun _ => False) w w' := by
  refine post_gen fun R hR => ?_
  go_enter Try.func41, Try.ntmps41
  go_wp2
  exact bodyPost_ret (v := V.val ⟨4, n, ⟨#[]⟩⟩) (by simp [results, Try.results41, go_sem, V.val]) rfl (hR.out _ _ ⟨rfl, (Keeps.refl _ _).alloc _⟩)
/-- As good as true. -/
def V.tru (v : V) : Bool := if v.k = 0 then false else if v.k = 1 ∨ v.k = 2 then decide (v.n ≠ 0) else true
theorem value_True (v : V) (w : World) : Calls Try.prog 13 #[v.val] w fun e w' => e = .returned (.bool v.tru) ∧ Keeps (fun _ => False) w w' := by
  obtain ⟨k, n, t⟩ := v
  unfold V.val
  refine post_gen fun R hR => ?_
  go_enter Try.func13, Try.ntmps13
  go_wp2
  all_goals
    refine hR.out _ _ ⟨show Ending.returned (.bool _) = .returned (.bool _) from ret_bool ?_, (Keeps.refl _ _).alloc _⟩
    clear hR
    simp only [V.tru]
    simp only [beq_iff_eq, beq_eq_false_iff_ne, ne_eq] at *
    first
      | (rw [if_pos (by omega)]; done)
      | (rw [if_neg (by omega), if_pos (by omega)]; done)
      | (rw [if_neg (by omega), if_neg (by omega), if_pos (by omega)]; done)
      | (rw [if_neg (by omega), if_neg (by omega), if_neg (by omega), if_pos (by omega)]; done)
      | (rw [if_neg (by omega), if_neg (by omega), if_neg (by omega), if_neg (by omega), if_pos (by omega)]; done)
      | (rw [if_neg (by omega), if_neg (by omega)]; done)
      | (rw [if_neg (by omega), if_pos (by omega), Bool.eq_iff_iff]; simp; done)
      | (rw [if_neg (by omega), if_neg (by omega), if_neg (by omega), if_neg (by omega), if_neg (by omega)]; done)
/-- A kind's name. -/
def V.typ (v : V) : ByteArray := if v.k = 0 then ⟨#[110, 117, 108, 108]⟩ else if v.k = 1 then ⟨#[98, 111, 111, 108]⟩ else if v.k = 2 then ⟨#[105, 110, 116, 101, 103, 101, 114]⟩ else if v.k = 3 then ⟨#[115, 116, 114, 105, 110, 103]⟩ else if v.k = 4 then ⟨#[114, 101, 102]⟩ else ⟨#[]⟩
theorem value_Type (v : V) (w : World) : Calls Try.prog 12 #[v.val] w fun e w' => e = .returned (.string v.typ) ∧ Keeps (fun _ => False) w w' := by
  obtain ⟨k, n, t⟩ := v
  unfold V.val
  refine post_gen fun R hR => ?_
  go_enter Try.func12, Try.ntmps12
  go_wp2
  all_goals
    refine hR.out _ _ ⟨show Ending.returned (.string _) = .returned (.string _) from ret_str ?_, (Keeps.refl _ _).alloc _⟩
    clear hR
    simp only [V.typ]
    simp only [beq_iff_eq, beq_eq_false_iff_ne, ne_eq] at *
    first
      | (rw [if_pos (by omega)]; done)
      | (rw [if_neg (by omega), if_pos (by omega)]; done)
      | (rw [if_neg (by omega), if_neg (by omega), if_pos (by omega)]; done)
      | (rw [if_neg (by omega), if_neg (by omega), if_neg (by omega), if_pos (by omega)]; done)
      | (rw [if_neg (by omega), if_neg (by omega), if_neg (by omega), if_neg (by omega), if_pos (by omega)]; done)
      | (rw [if_neg (by omega), if_neg (by omega)]; done)
      | (rw [if_neg (by omega), if_pos (by omega), Bool.eq_iff_iff]; simp; done)
      | (rw [if_neg (by omega), if_neg (by omega), if_neg (by omega), if_neg (by omega), if_neg (by omega)]; done)
theorem value_Same (a b : V) (w : World) : Calls Try.prog 23 #[a.val, b.val] w fun e w' => e = .returned (.bool (decide (a = b))) ∧ Keeps (fun _ => False) w w' := by
  obtain ⟨k, n, t⟩ := a
  obtain ⟨k2, n2, t2⟩ := b
  unfold V.val
  refine post_gen fun R hR => ?_
  go_enter Try.func23, Try.ntmps23
  go_wp2
  all_goals
    refine hR.out _ _ ⟨show Ending.returned (.bool _) = .returned (.bool _) from ret_bool ?_, ((Keeps.refl _ _).alloc _).alloc _⟩
    clear hR
    rw [Bool.eq_iff_iff]
    simp_all [toList_inj]
def V.hash (v : V) : Int := if v.k = 3 then hashL v.t.data.toList else if v.k = 0 then 0 else IntKind.u64.wrap (hash0 v.n + IntKind.u64.wrap (IntKind.u64.wrap v.k * 11400714819323198485))
theorem value_Hash (v : V) (w : World) (ht : v.t.size ≤ 140737488351232) : Calls Try.prog 42 #[v.val] w fun e w' => e = .returned (.int .u64 v.hash) ∧ Keeps (fun _ => False) w w' := by
  obtain ⟨k, n, t⟩ := v
  have h1 := hidden (fun W => str_Hash t W ht)
  have h2 := hidden (fun W => num_Hash n W)
  unfold V.val
  simp only [V.hash]
  generalize hashL t.data.toList = x at *
  generalize hash0 n = y at *
  refine post_gen fun R hR => ?_
  by_cases g3 : k = 3
  · subst g3
    rw [if_pos rfl] at hR
    go_enter Try.func42, Try.ntmps42
    go_wp2_with (go_at_call 52; refine (h1.out _).mono ?_; rintro e _ ⟨rfl, rfl⟩)
    exact hR.out _ _ ⟨rfl, (Keeps.refl _ _).alloc _⟩
  · have i3 : (k == 3) = false := by simpa using g3
    rw [if_neg g3] at hR
    by_cases g0 : k = 0
    · subst g0
      rw [if_pos rfl] at hR
      go_enter Try.func42, Try.ntmps42
      go_wp2_with fail
      exact hR.out _ _ ⟨rfl, (Keeps.refl _ _).alloc _⟩
    · have i0 : (k == 0) = false := by simpa using g0
      rw [if_neg g0] at hR
      go_enter Try.func42, Try.ntmps42
      go_wp2_with fail
      go_quiet ((go_at_call 53; exact Calls.quiet_of_same ((h2.out _).mono fun _ _ ⟨h1, h2⟩ => ⟨h1, h2.symm⟩)))
      go_wp2_with fail
      exact hR.out _ _ ⟨show Ending.returned (.int .u64 _) = .returned (.int .u64 _) from ret_int rfl, ((Keeps.refl _ _).alloc _).drewN _⟩
def V.txt (v : V) : ByteArray × Int :=
  if v.k = 0 then (⟨#[110, 117, 108, 108]⟩, 0) else if v.k = 1 then (if v.n = 0 then ⟨#[102, 97, 108, 115, 101]⟩ else ⟨#[116, 114, 117, 101]⟩, 0) else if v.k = 2 then (mkS (textI v.n), 0) else if v.k = 3 then (v.t, 0) else (⟨#[]⟩, 30)
theorem value_Text (v : V) (w : World) (hn : -9223372036854775808 ≤ v.n ∧ v.n ≤ 9223372036854775807) : Calls Try.prog 15 #[v.val] w fun e w' => e = .returned (.tuple #[.string v.txt.1, .int .i64 v.txt.2]) ∧ Keeps (fun _ => False) w w' := by
  obtain ⟨k, n, t⟩ := v
  have h2 := hidden (fun W => num_Text n W hn.1 hn.2)
  clear hn
  unfold V.val
  simp only [V.txt]
  generalize mkS (textI n) = x at *
  refine post_gen fun R hR => ?_
  rcases (show k = 0 ∨ k = 1 ∨ k = 2 ∨ k = 3 ∨ k = 4 ∨ (k ≠ 0 ∧ k ≠ 1 ∧ k ≠ 2 ∧ k ≠ 3 ∧ k ≠ 4) by omega) with rfl | rfl | rfl | rfl | rfl | ⟨g0, g1, g2, g3, g4⟩
  · go_enter Try.func15, Try.ntmps15
    go_wp2_with fail
    exact hR.out _ _ ⟨rfl, (Keeps.refl _ _).alloc _⟩
  · by_cases hn : n = 0
    · subst hn
      go_enter Try.func15, Try.ntmps15
      go_wp2_with fail
      exact hR.out _ _ ⟨rfl, (Keeps.refl _ _).alloc _⟩
    · have i1 : (n != 0) = true := by simpa using hn
      have i2 : (n == 0) = false := by simpa using hn
      simp only [if_neg hn] at hR
      go_enter Try.func15, Try.ntmps15
      go_wp2_with fail
      exact hR.out _ _ ⟨rfl, (Keeps.refl _ _).alloc _⟩
  · go_enter Try.func15, Try.ntmps15
    go_wp2_with (go_at_call 17; refine (h2.out _).mono ?_; rintro e w1 ⟨rfl, hK⟩; have HK := hidden hK; clear hK)
    exact hR.out _ _ ⟨rfl, ((Keeps.refl _ _).alloc _).trans HK.out (fun _ _ h => h)⟩
  · go_enter Try.func15, Try.ntmps15
    go_wp2_with fail
    exact hR.out _ _ ⟨rfl, (Keeps.refl _ _).alloc _⟩
  · go_enter Try.func15, Try.ntmps15
    go_wp2_with fail
    exact hR.out _ _ ⟨rfl, (Keeps.refl _ _).alloc _⟩
  · simp only [if_neg g0, if_neg g1, if_neg g2, if_neg g3] at hR
    have i0 : (k == 0) = false := by simpa using g0
    have i1 : (k == 1) = false := by simpa using g1
    have i2 : (k == 2) = false := by simpa using g2
    have i3 : (k == 3) = false := by simpa using g3
    have i4 : (k == 4) = false := by simpa using g4
    go_enter Try.func15, Try.ntmps15
    go_wp2_with fail
    exact hR.out _ _ ⟨rfl, (Keeps.refl _ _).alloc _⟩
def V.src (v : V) : ByteArray × Int := if v.k = 3 then (mkS (quoteL v.t.data.toList), 0) else v.txt
theorem value_Source (v : V) (w : World) (hn : -9223372036854775808 ≤ v.n ∧ v.n ≤ 9223372036854775807) (ht : v.t.size ≤ 17592186044416) : Calls Try.prog 16 #[v.val] w fun e w' => e = .returned (.tuple #[.string v.src.1, .int .i64 v.src.2]) ∧ Keeps (fun _ => False) w w' := by
  have h1 := hidden (fun W => str_Quote v.t W ht)
  have h2 := hidden (fun W => value_Text v W hn)
  refine post_gen fun R hR => ?_
  by_cases g3 : v.k = 3
  · rw [V.src, if_pos g3] at hR
    obtain ⟨k, n, t⟩ := v
    simp only at g3
    subst g3
    unfold V.val at *
    go_enter Try.func16, Try.ntmps16
    go_wp2_with (go_at_call 18; refine (h1.out _).mono ?_; rintro e w1 ⟨rfl, hK⟩; have HK := hidden hK; clear hK)
    exact hR.out _ _ ⟨rfl, ((Keeps.refl _ _).alloc _).trans HK.out (fun _ _ h => h)⟩
  · rw [V.src, if_neg g3] at hR
    generalize v.txt = x at *
    obtain ⟨x1, x2⟩ := x
    obtain ⟨k, n, t⟩ := v
    have i3 : (k == 3) = false := by simpa using g3
    unfold V.val at *
    go_enter Try.func16, Try.ntmps16
    go_wp2_with (go_at_call 15; refine (h2.out _).mono ?_; rintro e w1 ⟨rfl, hK⟩; have HK := hidden hK; clear hK)
    exact hR.out _ _ ⟨rfl, ((Keeps.refl _ _).alloc _).trans HK.out (fun _ _ h => h)⟩
def V.num (v : V) : Int × Int :=
  if v.k = 1 ∨ v.k = 2 then (v.n, 0) else if v.k = 3 then (if (leadL v.t.data.toList).2 = 0 ∨ (leadL v.t.data.toList).2 ≠ v.t.size then (0, 5) else ((leadL v.t.data.toList).1, 0)) else (0, 30)
theorem value_Number (v : V) (w : World) (ht : v.t.size ≤ 140737488351232) : Calls Try.prog 19 #[v.val] w fun e w' => e = .returned (.tuple #[.int .i64 v.num.1, .int .i64 v.num.2]) ∧ Keeps (fun _ => False) w w' := by
  obtain ⟨k, n, t⟩ := v
  have h1 := hidden (fun W => num_Leading t W ht)
  unfold V.val
  simp only [V.num]
  generalize leadL t.data.toList = x at *
  obtain ⟨x1, x2⟩ := x
  refine post_gen fun R hR => ?_
  rcases (show k = 0 ∨ k = 1 ∨ k = 2 ∨ k = 3 ∨ k = 4 ∨ (k ≠ 0 ∧ k ≠ 1 ∧ k ≠ 2 ∧ k ≠ 3 ∧ k ≠ 4) by omega) with rfl | rfl | rfl | rfl | rfl | ⟨g0, g1, g2, g3, g4⟩
  · go_enter Try.func19, Try.ntmps19
    go_wp2_with fail
    exact hR.out _ _ ⟨rfl, (Keeps.refl _ _).alloc _⟩
  · go_enter Try.func19, Try.ntmps19
    go_wp2_with fail
    exact hR.out _ _ ⟨rfl, (Keeps.refl _ _).alloc _⟩
  · go_enter Try.func19, Try.ntmps19
    go_wp2_with fail
    exact hR.out _ _ ⟨rfl, (Keeps.refl _ _).alloc _⟩
  · simp only at hR
    by_cases e0 : x2 = 0
    · subst e0
      go_enter Try.func19, Try.ntmps19
      go_wp2_with (go_at_call 21; refine (h1.out _).mono ?_; rintro e _ ⟨rfl, rfl⟩)
      exact hR.out _ _ ⟨rfl, (Keeps.refl _ _).alloc _⟩
    · have j0 : ((x2 : Int) == 0) = false := by simp; omega
      by_cases e1 : x2 = t.size
      · have j1 : ((x2 : Int) == t.size) = true := by simp; omega
        have j2 : ((x2 : Int) != t.size) = false := by simp; omega
        have e2 : ¬ (x2 = 0 ∨ x2 ≠ t.size) := by omega
        simp only [if_neg e2] at hR
        have E1 := hidden e1
        clear e1
        go_enter Try.func19, Try.ntmps19
        go_wp2_with (go_at_call 21; refine (h1.out _).mono ?_; rintro e _ ⟨rfl, rfl⟩)
        exact hR.out _ _ ⟨rfl, (Keeps.refl _ _).alloc _⟩
      · have j1 : ((x2 : Int) == t.size) = false := by simp; omega
        have j2 : ((x2 : Int) != t.size) = true := by simp; omega
        have e2 : x2 = 0 ∨ x2 ≠ t.size := by omega
        simp only [if_pos e2] at hR
        go_enter Try.func19, Try.ntmps19
        go_wp2_with (go_at_call 21; refine (h1.out _).mono ?_; rintro e _ ⟨rfl, rfl⟩)
        exact hR.out _ _ ⟨rfl, (Keeps.refl _ _).alloc _⟩
  · go_enter Try.func19, Try.ntmps19
    go_wp2_with fail
    exact hR.out _ _ ⟨rfl, (Keeps.refl _ _).alloc _⟩
  · have e2 : ¬ (k = 1 ∨ k = 2) := by omega
    simp only [if_neg e2, if_neg g3] at hR
    have i0 : (k == 0) = false := by simpa using g0
    have i1 : (k == 1) = false := by simpa using g1
    have i2 : (k == 2) = false := by simpa using g2
    have i3 : (k == 3) = false := by simpa using g3
    have i4 : (k == 4) = false := by simpa using g4
    go_enter Try.func19, Try.ntmps19
    go_wp2_with fail
    exact hR.out _ _ ⟨rfl, (Keeps.refl _ _).alloc _⟩
end Go.Proofs.Ytmjkglmkckofgaa
