/- Layer 5: tables: the iterator over what is there. -/
import Derived.Test.YtmefdniocgcckaaGrpC
import Derived.RangeFuncNested
import Derived.RangeFuncBound
import Derived.RangeFuncCalls
import Derived.RangeFuncLeaves
import Derived.Shelf.Abstract
import Derived.Shelf.RegionOpen
import Derived.OwnWalkIn
import Derived.TacticsInMore
import Derived.LoopNIn
import Derived.LoopIn
import Derived.RangeFuncBox
set_option linter.unusedSimpArgs false
set_option linter.unusedVariables false
namespace Go.Proofs.Ytmefdniocgcckaa
open Go.RowKit Go.Shelf
set_option maxRecDepth 100000
attribute [local go_sem] Oper.semAt_some

/-- An entry that is there. -/
abbrev LiveE (L : List Ent) := { x : Ent // x ∈ L }
theorem Keeps.grownBy {w w' : World} (h : Keeps (fun _ => False) w w') : w.grownBy w' none := ⟨h.os, h.tape, h.output, h.size, fun k hk _ => h.block k hk (fun x => x)⟩
theorem abide {β : Type} {B : Nat} {J : β → World → Prop} (hJ : AbidesFrom B J) {s : β} {W W' : World} (h : J s W) (hk : Keeps (fun _ => False) W W') : J s W' := hJ s W W' none h hk.grownBy (fun r e => by cases e)
theorem Ents.below {w w1 : World} {n : Nat} {A : Option Addr} {E : List Ent} (h : Ents w A E) (hb : Below n w w1) (hn : 0 < E.length → ∀ b o, A = some ⟨b, o, none⟩ → b < n) : Ents w1 A E :=
  h.keeps (Keeps.of_below hb) (fun hl b o e hle => by have := hn hl b o e; omega)
theorem map_stay_take {E : List Ent} {pre : List (LiveE (stay E))} {k : Nat} (h : pre.map (·.1) = stay (E.take k)) (hk : k < E.length) (hg : E[k].gone = false) : pre.length < (stay E).length := by
  have h1 : pre.length = (stay (E.take k)).length := by rw [← h, List.length_map]
  have h2 : stay E = stay (E.take k) ++ stay (E.drop k) := by rw [← stay_append, List.take_append_drop]
  have h3 : stay (E.drop k) = E[k] :: stay (E.drop (k + 1)) := by rw [List.drop_eq_getElem_cons hk, stay_live hg]
  have h4 := congrArg List.length h2
  have h5 := congrArg List.length h3
  simp only [List.length_append, List.length_cons] at h4 h5
  omega

set_option maxHeartbeats 4000000 in
theorem all1_in (l Bn n₀ b : Nat) (F0 : Nat → Prop) (t : Tb) (n : Nat) (hn : 1 ≤ n) (J Jx : List (LiveE (stay t.E)) → World → Prop) (W : World) (hJ : AbidesFrom W.heap.size J)
    (hY : ∀ pre x W, J pre W → pre.length < (stay t.E).length → YieldAt Fence.wide (n - 1) Try.prog l #[x.1.agg] W fun e W' =>
      (e = .returned (.bool true) ∧ J (pre ++ [x]) W' ∧ Below n₀ W W') ∨ (e = .returned (.bool false) ∧ Jx (pre ++ [x]) W'))
    (hBn : W.cell? ⟨Bn, 0, none⟩ = some (.pointer (some ⟨b, 0, none⟩))) (hT : IsTab W F0 b t) (hF : ∀ k, F0 k → k < n₀) (hl : t.E.length ≤ 1073741824) (h0 : J [] W) :
    CallsIn Fence.wide n Try.prog 71 #[.func (.yield l) #[] #[], .pointer (some ⟨Bn, 0, none⟩)] W fun e W' => (∃ v, e = .returned v) ∧
      ((∃ ys : List (LiveE (stay t.E)), ys.map (·.1) = stay t.E ∧ J ys W') ∨ (∃ pre : List (LiveE (stay t.E)), True ∧ Jx pre W')) := by
  obtain ⟨ve, vs, hTab⟩ := hT
  obtain ⟨Ae, ce, rfl⟩ := hTab.ents.form
  have HT := hidden hTab
  have HF := hidden hF
  have b0 := blk_cell hTab.blk 0
  simp only [List.getElem?_toArray, List.getElem?_cons_zero] at b0
  have HE0 := hidden (Ents.own hTab.ents.1)
  have HEb := hidden (show 0 < t.E.length → ∀ b o, Ae = some ⟨b, o, none⟩ → b < n₀ from fun _ g o e => hF g (hTab.ents.2 g (by rw [e]; rfl)))
  clear hTab hF
  obtain ⟨E, S, live, used, ser⟩ := t
  simp only at *
  have HY := hidden hY
  have HJ := hidden hJ
  clear hY hJ
  refine callsIn_of_wp Try.func71 rfl trivial ?_ rfl
  simp only [Try.ntmps71, List.size_toArray, List.length_cons, List.length_nil, Nat.reduceAdd, Nat.reduceSub, Array.replicate_succ, Array.replicate_zero, List.push_toArray, List.append_toArray, List.nil_append, List.cons_append]
  gi_wp2
  gi_loopw [10] (fun i wr => ∃ (k : Nat) (pre : List (LiveE (stay E))), k ≤ E.length ∧ i = .int .i64 k ∧ pre.map (·.1) = stay (E.take k) ∧ J pre wr ∧ Ents wr Ae E ∧ W.heap.size ≤ wr.heap.size) (fun i _ => E.length - (intOf i).toNat)
  case atStart => exact ⟨0, [], Nat.zero_le _, rfl, by simp [stay], h0, HE0.out, Nat.le_refl _⟩
  case round =>
    obtain ⟨k, pre, hk, rfl, hpre, hJs, hEn, hsz⟩ := hrel
    have HP := hidden hpre
    have HEr := hidden hEn
    clear hpre hEn
    by_cases hlt : k < E.length
    · obtain ⟨g, o, rfl, e0, e1, e2, e3, e4, e5, e6, e7⟩ := HEr.out k E[k] (List.getElem?_eq_getElem hlt)
      have hgw := World.block_lt_of_cell? wr _ e0
      have HK1 := hidden (show Keeps (fun _ => False) wr (wr.alloc E[k].obj) from (Keeps.refl _ _).alloc _)
      have HST := hidden (show stay (E.take (k + 1)) = stay (E.take k) ++ (if E[k].gone then [] else [E[k]]) from stay_take hlt)
      have HMEM := hidden (show E[k].gone = false → E[k] ∈ stay E from fun h => mem_stay.2 ⟨List.getElem_mem hlt, h⟩)
      have HLT := hidden (show E[k].gone = false → pre.length < (stay E).length from fun h => map_stay_take HP.out hlt h)
      generalize hx : E[k] = x at *
      clear hx
      obtain ⟨⟨kk, kn, kt⟩, ⟨vk, vn, vt⟩, xs, xg⟩ := x
      simp only [Ent.obj] at *
      cases xg with
      | true =>
        have hst := HST.out
        simp only [if_true, List.append_nil] at hst
        have HS2 := hidden hst
        clear hst HST
        gi_wp2
        refine ⟨fun _ h => (by cases h), ?_⟩
        gi_wp2
        go_roundw
        case rel => exact ⟨k + 1, pre, by omega, by go_num, by rw [HP.out, HS2.out], abide (fun s A B r => HJ.out s A B r) hJs HK1.out, HEr.out.keeps HK1.out (fun _ _ _ _ h => h), by simp; omega⟩
        case measure => simp [intOf]; omega
      | false =>
        have hst := HST.out
        simp only [Bool.false_eq_true, if_false] at hst
        have HS2 := hidden hst
        obtain ⟨fn, tmps, assign, body, hy, hR⟩ := HY.out pre ⟨⟨⟨kk, kn, kt⟩, ⟨vk, vn, vt⟩, xs, false⟩, HMEM.out rfl⟩ (wr.alloc (.cells #[.int .i64 kk, .int .i64 kn, .string kt, .int .i64 vk, .int .i64 vn, .string vt, .int .i64 xs, .bool false] 95)) (abide (fun s A B r => HJ.out s A B r) hJs HK1.out) (HLT.out rfl)
        have HR := hidden hR
        simp only [Ent.agg] at hy
        clear hst HST hR
        gi_wp2
        refine HR.out.mono ?_
        rintro e W3 (⟨rfl, hJ3, hk3⟩ | ⟨rfl, hJx3⟩)
        · have HJ3 := hidden hJ3
          have HE3 := hidden ((HEr.out.keeps HK1.out (fun _ _ _ _ h => h)).below hk3 HEb.out)
          have hs3 := hk3.size
          simp only [World.size_alloc] at hs3
          clear hJ3 hk3
          gi_wp2
          go_roundw
          case rel => exact ⟨k + 1, _, by omega, by go_num, by rw [List.map_append, HP.out, HS2.out]; rfl, HJ3.out, HE3.out, by omega⟩
          case measure => simp [intOf]; omega
        · gi_wp2
          refine bodyPost_ret (results_none rfl _ _ _) rfl ?_
          exact ⟨⟨_, rfl⟩, .inr ⟨_, trivial, hJx3⟩⟩
    · obtain rfl : k = E.length := by omega
      gi_wp2
      go_end0
      exact ⟨⟨_, rfl⟩, .inl ⟨pre, by rw [HP.out, List.take_length], hJs⟩⟩
theorem all_in (n b : Nat) (w : World) :
    CallsIn Fence.wide n Try.prog 59 #[.pointer (some ⟨b, 0, none⟩)] w fun e w' => e = .returned (.func (.func 71) #[] #[.pointer (some ⟨w.heap.size, 0, none⟩)]) ∧ w' = w.alloc (.cells #[.pointer (some ⟨b, 0, none⟩)] 37) := by
  refine callsIn_of_wp Try.func59 rfl trivial ?_ rfl
  simp only [Try.ntmps59, List.size_toArray, List.length_cons, List.length_nil, Nat.reduceAdd, Nat.reduceSub, Array.replicate_succ, Array.replicate_zero, List.push_toArray, List.append_toArray, List.nil_append, List.cons_append]
  gi_wp2
  go_ret
  exact ⟨rfl, rfl⟩
/-- t.all(): all entries that are there, in order. -/
theorem all_stops (n Bn n₀ b : Nat) (hn : 1 ≤ n) (F0 : Nat → Prop) (t : Tb) (w : World) (hB : Bn < w.heap.size) (hc : w.cell? ⟨Bn, 0, none⟩ = some (.pointer (some ⟨b, 0, none⟩))) (hT : IsTab w F0 b t) (hF : ∀ k, F0 k → k < n₀) (hn₀ : n₀ ≤ w.heap.size) (hl : t.E.length ≤ 1073741824) :
    SeqStopsK Fence.wide n Try.prog 71 #[.pointer (some ⟨Bn, 0, none⟩)] (fun x : LiveE (stay t.E) => #[x.1.agg]) (Below n₀) (fun ys => ys.map (·.1) = stay t.E) (fun _ => True) (stay t.E).length w := fun l J Jx W hW hJ _ hY h0 =>
  all1_in l Bn n₀ b F0 t n hn J Jx W hJ hY ((hW.cell (p := ⟨Bn, 0, none⟩) hB).trans hc) (hT.keeps (Keeps.of_below (hW.mono hn₀)) (fun k hk hk2 => by have := hF k hk; omega)) hF hl h0
end Go.Proofs.Ytmefdniocgcckaa
