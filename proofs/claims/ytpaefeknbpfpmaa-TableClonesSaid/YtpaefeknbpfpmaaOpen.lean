/- What an argument that came in reads as: slices of whatever, element by element. Of no program. -/
import Derived.WalkKit
import Derived.ProofKit
import Derived.OpenShut
import Derived.ShutString
import Derived.ChangeOld
import Derived.Below
import Derived.SizedLaws
import Derived.SliceStrings
import Derived.ChangeArms
namespace Go.Proofs.Ytpaefeknbpfpmaa
open Go.RowKit Go.ChangeShapes Go.WideShapes

/-- A row that is read: each element's cells say what R tells. -/
def Reads {α : Type} (sz : Nat) (R : List Value → α → Prop) (w : World) (A : Option Addr) (xs : List α) : Prop :=
  ∀ i x, xs[i]? = some x → ∃ b o cs, A = some ⟨b, o, none⟩ ∧ cs.length = sz ∧ R cs x ∧ ∀ j v, cs[j]? = some v → w.cell? ⟨b, o + i * sz + j, none⟩ = some v

section
variable {H : Type} {enc : TypeId × Value → H} {P : Program} {w : World} {base : Nat} {spare : Nat → Bool} {held : Bool}
theorem addAt (g o j : Nat) : (⟨g, o, none⟩ : Addr).add j = ⟨g, o + j, none⟩ := by unfold Addr.add; split <;> simp_all
/-- A slice that came in, opened element by element. -/
theorem open_reads {α : Type} {t e : TypeId} {sz : Nat} {R : List Value → α → Prop} {a : Option Addr} {len cap : Nat} {d : DataW H} {ps : List MemPlace} (ht : P.underlying t = some (.slice e)) (hsz : P.cellsOf e = sz) (h0 : 0 < sz)
    (hel : ∀ fuel cs y, DataW.trod enc P w base spare held fuel e cs = some y → ∃ x, R cs x) (h : DataW.Trod enc P w base spare held t (.slice a len cap) d ps) :
    ∃ xs : List α, xs.length = len ∧ Reads sz R w a xs := by
  obtain ⟨fuel, hf⟩ := h
  simp only [Value.cells] at hf
  rcases DataW.trod_slice ht hf with ⟨h1, _⟩ | ⟨ad, l, c, elems, rest, n, _, h1, _, _, _, _, hl, hel', _⟩
  · simp at h1
    obtain ⟨rfl, rfl, rfl⟩ := h1
    exact ⟨[], rfl, fun i x hi => by simp at hi⟩
  · simp at h1
    obtain ⟨rfl, rfl, rfl⟩ := h1
    subst hsz
    have raw : ∀ i, i < elems.length → ∃ x cs, cs.length = P.cellsOf e ∧ R cs x ∧ ∀ j v, cs[j]? = some v → w.cell? ((ad.add (i * P.cellsOf e)).add j) = some v := by
      intro i hi
      have h2 := hel' i (by omega)
      rw [List.getElem?_eq_getElem hi] at h2
      obtain ⟨cs, h3, h4⟩ := Option.bind_eq_some_iff.1 h2
      obtain ⟨x, hx⟩ := hel _ _ _ h4
      obtain ⟨_, h5, h6⟩ := World.cells?_some h3
      refine ⟨x, cs, h5, hx, fun j v hj => ?_⟩
      have hjl := (List.getElem?_eq_some_iff.1 hj).1
      rw [h6 j (by omega), hj]
    by_cases hn : elems.length = 0
    · exact ⟨[], by simp; omega, fun i x hi => by simp at hi⟩
    have hspot : ad.spot = none := by
      obtain ⟨_, cs, h5, _, h6⟩ := raw 0 (by omega)
      have := h6 0 _ (List.getElem?_eq_getElem (by omega))
      simp [Addr.add] at this
      exact World.cell?_spot this
    obtain ⟨b, o, sp⟩ := ad
    simp only at hspot
    subst hspot
    have key : ∀ m, m ≤ elems.length → ∃ xs : List α, xs.length = m ∧ Reads (P.cellsOf e) R w (some ⟨b, o, none⟩) xs := by
      intro m
      induction m with
      | zero => exact fun _ => ⟨[], rfl, fun i x hi => by simp at hi⟩
      | succ m ih =>
        intro hm
        obtain ⟨xs, hx, hr⟩ := ih (by omega)
        obtain ⟨x, cs, h5, h6, h7⟩ := raw m (by omega)
        refine ⟨xs ++ [x], by simp [hx], fun i y hi => ?_⟩
        rcases Nat.lt_trichotomy i xs.length with hlt | rfl | hgt
        · rw [List.getElem?_append_left hlt] at hi
          exact hr i y hi
        · simp at hi
          subst hi
          refine ⟨b, o, cs, rfl, h5, h6, fun j v hj => ?_⟩
          have := h7 j v hj
          rwa [addAt, addAt, ← hx] at this
        · rw [List.getElem?_eq_none (by simp; omega)] at hi
          cases hi
    obtain ⟨xs, h1, h2⟩ := key elems.length (Nat.le_refl _)
    exact ⟨xs, by omega, h2⟩
/-- Its length is within the reach. -/
theorem sized_reads {t e : TypeId} {a : Option Addr} {len cap : Nat} {d : DataW H} {ps : List MemPlace} {ts : List TypeId} {ds : List (DataW H)} {j : Nat} (hsz : (DataW.weightsEach P ts ds).all (· ≤ reachBytes) = true) (hj : ts[j]? = some t) (hd : ds[j]? = some d)
    (ht : P.underlying t = some (.slice e)) {B : Nat} (hB : P.bytesOf e = B) (h : DataW.Trod enc P w base spare held t (.slice a len cap) d ps) : len * B ≤ 140737488351232 := by
  obtain ⟨fuel, hf⟩ := h
  simp only [Value.cells] at hf
  rcases DataW.trod_slice ht hf with ⟨h1, _⟩ | ⟨ad, l, c, elems, rest, n, _, h1, hx, _, _, _, hl, _⟩
  · simp at h1
    obtain ⟨rfl, rfl, rfl⟩ := h1
    simp
  · simp at h1
    obtain ⟨rfl, rfl, rfl⟩ := h1
    obtain ⟨rfl, _⟩ := Prod.mk.inj hx
    have z := sized_slice hsz hj hd ht
    rw [hB] at z
    simp only [List.length_map] at z
    exact Nat.le_trans (Nat.mul_le_mul_right _ (by omega)) z
theorem wf_i64 {n : Int} (h : (Lit.int .i64 n).wf = true) : -9223372036854775808 ≤ n ∧ n ≤ 9223372036854775807 := by simp [Lit.wf, IntKind.min, IntKind.max] at h; simpa [IntKind.signed, IntKind.bits] using h
def RStr (cs : List Value) (s : ByteArray) : Prop := cs = [.string s]
theorem open_rstr {t : TypeId} (ht : P.underlying t = some .string) : ∀ fuel cs y, DataW.trod enc P w base spare held fuel t cs = some y → ∃ x, RStr cs x := fun _ _ _ h => by
  obtain ⟨s, h1, _⟩ := DataW.trod_string ht h
  exact ⟨s, h1⟩
/-- An element that is a row of texts itself. -/
def RStrs (w : World) (cs : List Value) (l : List ByteArray) : Prop := ∃ A c, cs = [.slice A l.length c] ∧ Reads 1 RStr w A l ∧ l.length ≤ 9223372036854775807 ∧ l.length ≤ c
theorem open_rstrs {t e : TypeId} (ht : P.underlying t = some (.slice e)) (he : P.underlying e = some .string) (hc : P.cellsOf e = 1) : ∀ fuel cs y, DataW.trod enc P w base spare held fuel t cs = some y → ∃ x, RStrs w cs x := fun fuel cs y h => by
  have key : ∃ A len cap, cs = [.slice A len cap] ∧ len ≤ 9223372036854775807 ∧ len ≤ cap := by
    rcases DataW.trod_slice ht h with ⟨h1, _⟩ | ⟨ad, l, c, _, _, _, _, h1, _, _, h2, h3, _⟩
    · exact ⟨_, _, _, h1, by omega, by omega⟩
    · exact ⟨_, _, _, h1, by unfold maxLen at h3; omega, h2⟩
  obtain ⟨A, len, cap, rfl, hm⟩ := key
  obtain ⟨xs, rfl, hr⟩ := open_reads (d := y.1) (ps := y.2) ht hc (by decide) (open_rstr he) ⟨fuel, h⟩
  exact ⟨xs, A, cap, rfl, hr, hm⟩
end
end Go.Proofs.Ytpaefeknbpfpmaa
