/- Layer 5: tables: what always holds of one (plain), and what find then tells. -/
import Derived.Test.YtpaefeknbpfpmaaTabL
namespace Go.Proofs.Ytpaefeknbpfpmaa
open Go.RowKit

theorem getD_set (S : List Int) (i j : Nat) (v : Int) (hi : i < S.length) : (S.set i v).getD j 0 = if j = i then v else S.getD j 0 := by
  rw [List.getD_eq_getElem?_getD, List.getD_eq_getElem?_getD, List.getElem?_set]
  by_cases h : i = j
  · subst h; simp [hi]
  · rw [if_neg h, if_neg (fun e => h e.symm)]
theorem getD_some {S : List Int} {i : Nat} {s : Int} (h : S[i]? = some s) : S.getD i 0 = s := by rw [List.getD_eq_getElem?_getD, h]; rfl
theorem some_getD {S : List Int} {i : Nat} (h : i < S.length) : S[i]? = some (S.getD i 0) := by rw [List.getD_eq_getElem?_getD, List.getElem?_eq_getElem h]; rfl
/-- Some step leads to each slot. -/
theorem step_to (h n i : Nat) (hi : i < n) : ∃ d, d < n ∧ (h + d) % n = i := by
  have hr : h % n < n := Nat.mod_lt _ (by omega)
  have e : h = n * (h / n) + h % n := (Nat.div_add_mod h n).symm
  by_cases hc : h % n ≤ i
  · refine ⟨i - h % n, by omega, ?_⟩
    have e2 : h + (i - h % n) = n * (h / n) + i := by omega
    rw [e2, Nat.mul_add_mod, Nat.mod_eq_of_lt hi]
  · refine ⟨i + n - h % n, by omega, ?_⟩
    have e2 : h + (i + n - h % n) = n * (h / n + 1) + i := by rw [Nat.mul_add]; omega
    rw [e2, Nat.mul_add_mod, Nat.mod_eq_of_lt hi]
theorem zero_in {S : List Int} (h : S.countP (fun s => decide (s ≠ 0)) < S.length) : ∃ i, i < S.length ∧ S.getD i 0 = 0 := by
  by_cases hc : ∃ i, i < S.length ∧ S.getD i 0 = 0
  · exact hc
  · exfalso
    have : S.countP (fun s => decide (s ≠ 0)) = S.length := List.countP_eq_length.2 (fun a ha => by
      obtain ⟨i, hi, rfl⟩ := List.mem_iff_getElem.1 ha
      simp only [decide_eq_true_eq]
      intro h0
      exact hc ⟨i, hi, by rw [getD_some (List.getElem?_eq_getElem hi)]; exact h0⟩)
    omega
theorem count_set {S : List Int} {i : Nat} {v : Int} (hi : i < S.length) (hv : v ≠ 0) : ((S.set i v).countP (fun s => decide (s ≠ 0)) : Nat) = S.countP (fun s => decide (s ≠ 0)) + (if S.getD i 0 = 0 then 1 else 0) := by
  rw [List.countP_set hi]
  have e : S.getD i 0 = S[i] := getD_some (List.getElem?_eq_getElem hi)
  rw [e]
  by_cases h : S[i] = 0
  · simp [h, hv]
  · have hp : 0 < S.countP (fun s => decide (s ≠ 0)) := List.countP_pos_iff.2 ⟨S[i], List.getElem_mem hi, by simpa using h⟩
    generalize S.countP (fun s => decide (s ≠ 0)) = c at *
    simp [h, hv]
    omega

/-- The slots S tell the entries of P. -/
structure Slots (E : List Ent) (S : List Int) (P : Nat → Prop) : Prop where
  inP : ∀ (i : Nat) (s : Int), S[i]? = some s → s = 0 ∨ s = -1 ∨ ∃ q : Nat, s = (q : Int) + 1 ∧ P q
  way : ∀ q, P q → ∃ (x : Ent) (d : Nat), E[q]? = some x ∧ d < S.length ∧ S.getD ((keyHash x.key + d) % S.length) 0 = (q : Int) + 1 ∧ ∀ d', d' < d → S.getD ((keyHash x.key + d') % S.length) 0 ≠ 0
  inj : ∀ (q q' : Nat) (x x' : Ent), P q → P q' → E[q]? = some x → E[q']? = some x' → x.key = x'.key → q = q'
  uniq : ∀ (i j q : Nat), S[i]? = some ((q : Int) + 1) → S[j]? = some ((q : Int) + 1) → i = j

theorem probe_found {E : List Ent} {S : List Int} {key : V} {h q : Nat} {x : Ent} (hq : E[q]? = some x) (hx : x.key = key) :
    ∀ (m d : Nat) (f : Option Nat) (D : Nat), d ≤ D → D < d + m → S.getD ((h + D) % S.length) 0 = (q : Int) + 1 → (∀ d', d ≤ d' → d' < D → S.getD ((h + d') % S.length) 0 ≠ 0) → (probe E S key h m d f).2 = true
  | 0, d, f, D, h1, h2, _, _ => by omega
  | m + 1, d, f, D, h1, h2, h3, h4 => by
    rw [probe]
    split
    · rename_i h0
      by_cases e : D = d
      · subst e; omega
      · exact absurd h0 (h4 d (Nat.le_refl _) (by omega))
    · split
      · rename_i h0
        have e : D ≠ d := by rintro rfl; omega
        exact probe_found hq hx m (d + 1) _ D (by omega) (by omega) h3 (fun d' a b => h4 d' (by omega) b)
      · split
        · rfl
        · rename_i h0 h5 h6
          have e : D ≠ d := by
            rintro rfl
            rw [h3] at h6
            refine h6 ?_
            rw [show ((q : Int) + 1).toNat - 1 = q by omega, List.getElem?_map, hq, Option.map_some, hx]
          exact probe_found hq hx m (d + 1) _ D (by omega) (by omega) h3 (fun d' a b => h4 d' (by omega) b)
/-- A slot where a key may be put. -/
def Good (S : List Int) (h i : Nat) : Prop := ∃ D, D < S.length ∧ i = (h + D) % S.length ∧ (S.getD i 0 = 0 ∨ S.getD i 0 = -1) ∧ ∀ d', d' < D → S.getD ((h + d') % S.length) 0 ≠ 0
theorem probe_free {E : List Ent} {S : List Int} {key : V} {h : Nat} :
    ∀ (m d : Nat) (f : Option Nat), d + m ≤ S.length → (∃ D, d ≤ D ∧ D < d + m ∧ S.getD ((h + D) % S.length) 0 = 0) → (∀ i, f = some i → Good S h i) → (∀ d', d' < d → S.getD ((h + d') % S.length) 0 ≠ 0) → (probe E S key h m d f).2 = false → Good S h (probe E S key h m d f).1
  | 0, d, f, _, ⟨D, h1, h2, _⟩, _, _, _ => by omega
  | m + 1, d, f, hm, ⟨D, h1, h2, h3⟩, hf, hw, hr => by
    rw [probe] at hr ⊢
    split
    · rename_i h0
      cases f with
      | none => exact ⟨d, by omega, rfl, .inl h0, hw⟩
      | some i => exact hf i rfl
    · rename_i h0
      rw [if_neg h0] at hr
      have hD : D ≠ d := by rintro rfl; exact h0 h3
      have hw' : ∀ d', d' < d + 1 → S.getD ((h + d') % S.length) 0 ≠ 0 := fun d' hd' => by
        by_cases e : d' = d
        · subst e; exact h0
        · exact hw d' (by omega)
      split
      · rename_i h5
        rw [if_pos h5] at hr
        refine probe_free m (d + 1) _ (by omega) ⟨D, by omega, by omega, h3⟩ (fun i hi => ?_) hw' hr
        cases f with
        | none => simp at hi; subst hi; exact ⟨d, by omega, rfl, .inr h5, hw⟩
        | some j => simp at hi; subst hi; exact hf j rfl
      · rename_i h5
        rw [if_neg h5] at hr
        split
        · rename_i h6
          rw [if_pos h6] at hr
          cases hr
        · rename_i h6
          rw [if_neg h6] at hr
          exact probe_free m (d + 1) _ (by omega) ⟨D, by omega, by omega, h3⟩ hf hw' hr
theorem Slots.found {t : Tb} {P : Nat → Prop} (hs : t.safe) (h : Slots t.E t.S P) {q : Nat} {x : Ent} (hP : P q) (hx : t.E[q]? = some x) : (findT t x.key).2 = true ∧ t.S[(findT t x.key).1]? = some ((q : Int) + 1) := by
  obtain ⟨y, d, hy, hd, h1, h2⟩ := h.way q hP
  rw [hx] at hy
  obtain rfl := Option.some.inj hy
  have hl : t.S.length ≠ 0 := by omega
  have ht : (findT t x.key).2 = true := by
    rw [findT, if_neg hl]
    exact probe_found hx rfl t.S.length 0 none d (Nat.zero_le _) (by omega) h1 (fun d' _ b => h2 d' b)
  refine ⟨ht, ?_⟩
  obtain ⟨q', hq', h3, h4⟩ := findT_true hs ht
  have hP' : P q' := by
    rcases h.inP _ _ h3 with e | e | ⟨q2, e, hp⟩
    · omega
    · omega
    · obtain rfl : q' = q2 := by omega
      exact hp
  have := h.inj q' q _ _ hP' hP (List.getElem?_eq_getElem hq') hx h4
  rw [h3, this]
theorem Slots.absent {t : Tb} {P : Nat → Prop} {key : V} (hs : t.safe) (h : Slots t.E t.S P) (hno : ∀ q x, P q → t.E[q]? = some x → x.key ≠ key) : (findT t key).2 = false := by
  cases ht : (findT t key).2 with
  | false => rfl
  | true =>
    obtain ⟨q', hq', h3, h4⟩ := findT_true hs ht
    rcases h.inP _ _ h3 with e | e | ⟨q2, e, hp⟩
    · omega
    · omega
    · obtain rfl : q' = q2 := by omega
      exact absurd h4 (hno q' _ hp (List.getElem?_eq_getElem hq'))
theorem Slots.free {t : Tb} {P : Nat → Prop} {key : V} (hs : t.safe) (h : Slots t.E t.S P) (hno : ∀ q x, P q → t.E[q]? = some x → x.key ≠ key) (hz : ∃ i, i < t.S.length ∧ t.S.getD i 0 = 0) : Good t.S (keyHash key) (findT t key).1 := by
  have hr := h.absent hs hno
  obtain ⟨i, hi, h0⟩ := hz
  have hl : t.S.length ≠ 0 := by omega
  obtain ⟨D, hD, e⟩ := step_to (keyHash key) t.S.length i hi
  rw [findT, if_neg hl] at hr ⊢
  exact probe_free t.S.length 0 none (by omega) ⟨D, Nat.zero_le _, by omega, by rw [e]; exact h0⟩ (fun _ e => by cases e) (fun _ h => absurd h (by omega)) hr
theorem Slots.place {E : List Ent} {S : List Int} {P : Nat → Prop} (h : Slots E S P) {q i : Nat} {x : Ent} (hq : E[q]? = some x) (hno : ∀ q' x', P q' → E[q']? = some x' → x'.key ≠ x.key) (hg : Good S (keyHash x.key) i) :
    Slots E (S.set i ((q : Int) + 1)) (fun k => P k ∨ k = q) := by
  obtain ⟨D, hD, hi, h0, hw⟩ := hg
  have hil : i < S.length := by rw [hi]; exact Nat.mod_lt _ (by omega)
  have nz : ∀ j, S.getD j 0 ≠ 0 → (S.set i ((q : Int) + 1)).getD j 0 ≠ 0 := fun j hj => by
    rw [getD_set S i j _ hil]
    split
    · omega
    · exact hj
  have hPq : ¬ P q := fun hp => hno q x hp hq rfl
  have hnq : ∀ j : Nat, S[j]? ≠ some ((q : Int) + 1) := fun j hj => by
    rcases h.inP j _ hj with e | e | ⟨q', e, hp⟩
    · omega
    · omega
    · obtain rfl : q = q' := by omega
      exact hPq hp
  refine ⟨fun j s hj => ?_, fun k hk => ?_, fun a b y z ha hb hy hz e => ?_, fun a b k ha hb => ?_⟩
  · rw [List.getElem?_set] at hj
    split at hj
    · skip
      exact .inr (.inr ⟨q, (Option.some.inj hj).symm, .inr rfl⟩)
    · rcases h.inP j s hj with e | e | ⟨q', e, hp⟩
      · exact .inl e
      · exact .inr (.inl e)
      · exact .inr (.inr ⟨q', e, .inl hp⟩)
  · rw [List.length_set]
    rcases hk with hk | rfl
    · obtain ⟨y, d, hy, hd, h1, h2⟩ := h.way k hk
      refine ⟨y, d, hy, hd, ?_, fun d' hd' => nz _ (h2 d' hd')⟩
      rw [getD_set S i _ _ hil, if_neg (fun e => by rw [e] at h1; rw [h1] at h0; omega)]
      exact h1
    · refine ⟨x, D, hq, hD, ?_, fun d' hd' => nz _ (hw d' hd')⟩
      rw [getD_set S i _ _ hil, if_pos hi.symm]
  · rcases ha with ha | rfl
    · rcases hb with hb | rfl
      · exact h.inj a b y z ha hb hy hz e
      · rw [hq] at hz
        obtain rfl := Option.some.inj hz
        exact absurd e (hno a y ha hy)
    · rcases hb with hb | rfl
      · rw [hq] at hy
        obtain rfl := Option.some.inj hy
        exact absurd e.symm (hno b z hb hz)
      · rfl
  · rw [List.getElem?_set] at ha hb
    split at ha
    · rename_i ea
      have := Option.some.inj ha
      obtain rfl : k = q := by omega
      split at hb
      · rename_i eb
        rw [← ea, ← eb]
      · exact absurd hb (hnq b)
    · split at hb
      · skip
        have := Option.some.inj hb
        obtain rfl : k = q := by omega
        exact absurd ha (hnq a)
      · exact h.uniq a b k ha hb
/-- One entry's slot is a grave now. -/
theorem Slots.bury {E : List Ent} {S : List Int} {P : Nat → Prop} (h : Slots E S P) {q i : Nat} (hi : S[i]? = some ((q : Int) + 1)) : Slots E (S.set i (-1)) (fun k => P k ∧ k ≠ q) := by
  have hil : i < S.length := (List.getElem?_eq_some_iff.1 hi).1
  have nz : ∀ j, S.getD j 0 ≠ 0 → (S.set i (-1)).getD j 0 ≠ 0 := fun j hj => by
    rw [getD_set S i j _ hil]
    split
    · omega
    · exact hj
  refine ⟨fun j s hj => ?_, fun k hk => ?_, fun a b y z ha hb hy hz e => h.inj a b y z ha.1 hb.1 hy hz e, fun a b k ha hb => ?_⟩
  · rw [List.getElem?_set] at hj
    split at hj
    · skip
      exact .inr (.inl (Option.some.inj hj).symm)
    · rename_i hne
      rcases h.inP j s hj with e | e | ⟨q', e, hp⟩
      · exact .inl e
      · exact .inr (.inl e)
      · refine .inr (.inr ⟨q', e, hp, ?_⟩)
        rintro rfl
        exact hne (h.uniq i j q' hi (by rw [hj, e]))
  · rw [List.length_set]
    obtain ⟨y, d, hy, hd, h1, h2⟩ := h.way k hk.1
    refine ⟨y, d, hy, hd, ?_, fun d' hd' => nz _ (h2 d' hd')⟩
    rw [getD_set S i _ _ hil, if_neg (fun e => by rw [e, getD_some hi] at h1; exact hk.2 (by omega))]
    exact h1
  · rw [List.getElem?_set] at ha hb
    split at ha
    · skip
      have := Option.some.inj ha
      omega
    · split at hb
      · skip
        have := Option.some.inj hb
        omega
      · exact h.uniq a b k ha hb
end Go.Proofs.Ytpaefeknbpfpmaa
