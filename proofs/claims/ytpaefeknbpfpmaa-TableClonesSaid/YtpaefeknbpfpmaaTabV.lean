/- Layer 5: tables: Keys, Vals, Cells. -/
import Derived.Test.YtpaefeknbpfpmaaTabU
namespace Go.Proofs.Ytpaefeknbpfpmaa
open Go.RowKit
set_option maxRecDepth 100000
section
variable {w : World} {F : Nat → Prop} {b : Nat} {L : List Ent} {s : Int}
theorem t_Keys (h : IsT w F b L s) (hs : s < 1073741823) :
    Calls Try.prog 62 #[.pointer (some ⟨b, 0, none⟩)] w fun e w' => ∃ A c F', e = .returned (.slice A L.length c) ∧ Row w' F' 30 3 (.slice A L.length c) L.length (flat (L.map Ent.key)) ∧ Keeps (fun _ => False) w w' ∧ Fresh (fun _ => False) F' w := by
  refine post_gen fun R hR => ?_
  have HC := hidden (each_keys w F b L s h hs)
  clear h
  go_enter Try.func62, Try.ntmps62
  go_wp2_with (go_at_call 91; refine HC.out.mono ?_; rintro e w1 ⟨A, c, F', rfl, h1, h2, h3⟩; have H1 := hidden h1; have H2 := hidden h2; clear h1 h2)
  exact hR.out _ _ ⟨A, c, F', rfl, H1.out, H2.out, h3⟩
theorem t_Vals (h : IsT w F b L s) (hs : s < 1073741823) :
    Calls Try.prog 68 #[.pointer (some ⟨b, 0, none⟩)] w fun e w' => ∃ A c F', e = .returned (.slice A L.length c) ∧ Row w' F' 30 3 (.slice A L.length c) L.length (flat (L.map Ent.val)) ∧ Keeps (fun _ => False) w w' ∧ Fresh (fun _ => False) F' w := by
  refine post_gen fun R hR => ?_
  have HC := hidden (each_vals w F b L s h hs)
  clear h
  go_enter Try.func68, Try.ntmps68
  go_wp2_with (go_at_call 91; refine HC.out.mono ?_; rintro e w1 ⟨A, c, F', rfl, h1, h2, h3⟩; have H1 := hidden h1; have H2 := hidden h2; clear h1 h2)
  exact hR.out _ _ ⟨A, c, F', rfl, H1.out, H2.out, h3⟩
def cellsT (L : List Ent) : List Int := cellNums (L.map Ent.key) ++ cellNums (L.map Ent.val)
theorem cellNums_le (xs : List V) : (cellNums xs).length ≤ xs.length := by
  unfold cellNums
  first | exact List.length_filterMap_le _ _ | (rw [List.length_map]; exact List.length_filter_le _ _)
theorem intCells_append (a b : List Int) : intCells (a ++ b) = intCells a ++ intCells b := by simp [intCells]
theorem int_src {w : World} {F : Nat → Prop} {A : Option Addr} {n c : Nat} {xs : List Int} (h : Row w F 3 1 (.slice A n c) n (intCells xs)) : Src Try.prog 1 43 (.slice A n c) n (intCells xs) w := by
  rcases h.1.2 with ⟨h1, h2⟩ | ⟨g, cap, cur, h1, _⟩
  · simp at h1
    obtain ⟨rfl, rfl, rfl⟩ := h1
    obtain rfl : xs = [] := List.eq_nil_of_length_eq_zero (by simpa [intCells] using h.1.1)
    exact Src.ofNil w Try.underlying43 0
  · simp at h1
    obtain ⟨rfl, rfl⟩ := h1
    refine Src.ofSlice w Try.underlying43 _ _ _ _ h.1.1 (fun j u hj => ?_) (fun u hu => by simp [intCells] at hu; obtain ⟨a, _, rfl⟩ := hu; rfl)
    exact h.1.cells (g := g) rfl j u hj
set_option maxHeartbeats 1000000 in
theorem t_Cells (h : IsT w F b L s) (hs : s < 1073741823) :
    Calls Try.prog 18 #[.pointer (some ⟨b, 0, none⟩)] w fun e w' => ∃ A c F', e = .returned (.slice A (cellsT L).length c) ∧ Row w' F' 3 1 (.slice A (cellsT L).length c) (cellsT L).length (intCells (cellsT L)) ∧ In F' w' ∧ Keeps (fun _ => False) w w' ∧ Fresh (fun _ => False) F' w := by
  refine post_gen fun R hR => ?_
  have HT := hidden h
  have hm := h.lok.most
  have hk := cellNums_le (L.map Ent.key)
  have hv := cellNums_le (L.map Ent.val)
  have hlk : (L.map Ent.key).length = L.length := List.length_map ..
  have hlv : (L.map Ent.val).length = L.length := List.length_map ..
  rw [hlk] at hk
  rw [hlv] at hv
  have HLK := hidden hlk
  have HLV := hidden hlv
  clear h hlk hlv
  go_enter Try.func18, Try.ntmps18
  go_wp2_with (go_at_call 62; refine (t_Keys HT.out hs).mono ?_; rintro e w1 ⟨A1, c1, F1, rfl, h1, h2, h3⟩; have H1 := hidden h1; have K1 := hidden h2; have R1 := hidden h3; clear h1 h2 h3)
  have C1 := hidden (value_Cells w1 A1 c1 (L.map Ent.key) (Vals.own H1.out.1) (by rw [HLK.out]; omega))
  rw [HLK.out] at C1
  go_wp2_with (go_at_call 34; refine C1.out.mono ?_; rintro e w2 ⟨A2, c2, F2, rfl, h1, h2, h3, h4⟩; have H2 := hidden h1; have N2 := hidden h2; have K2 := hidden h3; have R2 := hidden h4; clear h1 h2 h3 h4)
  have K12 := hidden (K1.out.trans K2.out (fun _ _ h => h))
  go_wp2_with (go_at_call 68; refine (t_Vals (HT.out.none K12.out) hs).mono ?_; rintro e w3 ⟨A3, c3, F3, rfl, h1, h2, h3⟩; have H3 := hidden h1; have K3 := hidden h2; have R3 := hidden h3; clear h1 h2 h3)
  have C3 := hidden (value_Cells w3 A3 c3 (L.map Ent.val) (Vals.own H3.out.1) (by rw [HLV.out]; omega))
  rw [HLV.out] at C3
  go_wp2_with (first | (go_at_call 34; refine C3.out.mono ?_; rintro e w4 ⟨A4, c4, F4, rfl, h1, h2, h3, h4⟩; have H4 := hidden h1; have K4 := hidden h3; have R4 := hidden h4; have K24 := hidden (K3.out.trans K4.out (fun _ _ h => h)); clear h1 h2 h3 h4) | (at_builtin; refine app_list rfl F2 _ _ _ _ _ _ 1 8 rfl Try.underlying43 info_int rfl (by decide) _ _ _ rfl (H2.out.keeps K24.out (Apart.no _)) _ rfl _ _ (int_src H4.out) (by omega) (by omega) ?_; intro A5 c5 w5 h5 k5; have H5 := hidden h5; have K5 := hidden k5; clear h5 k5))
  have hlen : (cellsT L).length = (cellNums (L.map Ent.key)).length + (cellNums (L.map Ent.val)).length := List.length_append
  have hsz1 := K12.out.size
  have hsz2 := K24.out.size
  refine hR.out _ _ ⟨A5, c5, fun k => (F2 k ∨ w4.heap.size ≤ k) ∧ k < w5.heap.size, by rw [hlen]; rfl, ?_, fun k h => h.2, ?_, fun k h => ?_⟩
  · rw [hlen, cellsT, intCells_append]
    exact H5.out.mono (fun k hlt h => ⟨h, hlt⟩)
  · refine (K12.out.trans K24.out (fun _ _ h => h)).trans (K5.out.mono (fun k _ e => ?_)) (T := fun k => F2 k) (fun i hi hF => ?_)
    · exact H2.out.2 k e
    · rcases R2.out i hF with h | h
      · exact h.elim
      · have := K1.out.size; omega
  · rcases h.1 with h | h
    · rcases R2.out k h with h | h
      · exact .inl h
      · exact .inr (by have := K1.out.size; omega)
    · exact .inr (by omega)
end
end Go.Proofs.Ytpaefeknbpfpmaa
