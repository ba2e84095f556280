/- Words on memory, of no program: copy and clear on a block that is known whole, cells of any size; append of so many zero values that makes a new row. -/
import Derived.Test.YtpaefeknbpfpmaaBase
import Derived.Lib.AppendZerosOnto
import Derived.Lib.Overlaps
import Derived.Laws.CopyRow
namespace Go.Proofs.Ytpaefeknbpfpmaa
open Go.RowKit

def laid (L : List Value) (o : Nat) (cs : List Value) : Array Value := (L.take o ++ cs ++ L.drop (o + cs.length)).toArray
theorem laid_size {L : List Value} {o : Nat} {cs : List Value} (h : o + cs.length ≤ L.length) : (laid L o cs).size = L.length := by simp [laid]; omega
theorem Keeps.setRow {S : Nat → Prop} {a w : World} (h : Keeps S a w) {g : Nat} (hg : g < a.heap.size → S g) (cs : Array Value) : Keeps S a (w.setRow g cs) :=
  ⟨h.os, h.tape, h.output, Nat.le_trans h.size (by simp [World.setRow]), fun i hi hn => by
    have hne : g ≠ i := fun e => hn (by subst e; exact hg hi)
    rw [← h.block i hi hn]
    simp [World.setRow, Array.getElem?_modify, hne]⟩
section
variable {P : Program}
theorem copy_run (w : World) (dT sT ty elem : TypeId) (size g o dLen dCap : Nat) (a : Addr) (sLen sCap : Nat) (cur : Array Value) (t : TypeId) (cs : List Value)
    (hu : P.underlying dT = some (.slice elem)) (hs : (P.info? elem).map (·.size) = some size)
    (hg : w.heap[g]? = some (.cells cur t (0, 0))) (hn : cs.length = Nat.min sLen dLen * size)
    (hsrc : ∀ j v, cs[j]? = some v → w.cell? (a.add j) = some v) (hfit : o + cs.length ≤ cur.size) (h1 : ∀ v ∈ cs, v.oneCell' = true) :
    (Builtin.copy_ #[dT, sT] ty #[.slice (some ⟨g, o, none⟩) dLen dCap, .slice (some a) sLen sCap]).run P w =
      .ok (goInt (Nat.min sLen dLen)) (w.setRow g (laid cur.toList o cs)) := by
  have hl := run_loadCells_list (P := P) w a cs hsrc
  have hst := run_storeCells_at P g o t cs 0 cur w hg (by simpa using hfit) h1
  cases hq : P.info? elem with
  | none => simp [hq] at hs
  | some i =>
    have hi : i.size = size := by simpa [hq] using hs
    simp [Builtin.copy_, run_underlying hu, Builtin.lenOf, Builtin.firstCells, sizeOf, typeInfo, hq, hi, ← hn, hl, hst, laid]
variable {ops : Array Oper} {o : Oper} {a : Act} {Q : Exit → Act → World → Prop} {w : World}
theorem copy_wp {K : Act → World → Prop} (d s : Operand) (dT sT : TypeId) (ho : o.op = .call { callee := .builtin .copy, args := #[d, s], argTypes := #[dT, sT] }) (elem : TypeId) (size : Nat) (hu : P.underlying dT = some (.slice elem)) (hsz : (P.info? elem).map (·.size) = some size)
    {g go' dLen dCap : Nat} (hd : a.eval d = .slice (some ⟨g, go', none⟩) dLen dCap) {sp : Addr} {sLen sCap : Nat} (hs : a.eval s = .slice (some sp) sLen sCap)
    (off k : Nat) (hoff : go' = off) (hk : Nat.min sLen dLen = k) (cur : Array Value) (t : TypeId) (hg : w.heap[g]? = some (.cells cur t (0, 0))) (cs : List Value) (hn : cs.length = k * size)
    (hsrc : ∀ j v, cs[j]? = some v → w.cell? (sp.add j) = some v) (hfit : off + cs.length ≤ cur.size) (h1 : ∀ v ∈ cs, v.oneCell' = true)
    (h : ∀ w1, w1.heap[g]? = some (.cells (laid cur.toList off cs) t (0, 0)) → Keeps (fun j => j = g) w w1 → K (a.put o.dst (goInt k)) w1) : o.wp P a w K Q := by
  subst hoff hk
  have hrun := copy_run (P := P) w dT sT o.type elem size g go' dLen dCap sp sLen sCap cur t cs hu hsz hg hn hsrc hfit h1
  unfold Oper.wp
  simp [execOp, ho, resolve, invoke, builtin, hd, hs, hrun, Result.andThen]
  exact h _ (setRow_heap w g cur _ t _ hg) (Keeps.setRow (S := fun j => j = g) (Keeps.refl _ w) (fun _ => rfl) _)
theorem copy_list {rest : List Oper} (hgd : o.guard = none) (d s : Operand) (dT sT : TypeId) (ho : o.op = .call { callee := .builtin .copy, args := #[d, s], argTypes := #[dT, sT] }) (elem : TypeId) (size : Nat) (hu : P.underlying dT = some (.slice elem)) (hsz : (P.info? elem).map (·.size) = some size)
    {g go' dLen dCap : Nat} (hd : a.eval d = .slice (some ⟨g, go', none⟩) dLen dCap) {sp : Addr} {sLen sCap : Nat} (hs : a.eval s = .slice (some sp) sLen sCap)
    (off k : Nat) (hoff : go' = off) (hk : Nat.min sLen dLen = k) (cur : Array Value) (t : TypeId) (hg : w.heap[g]? = some (.cells cur t (0, 0))) (cs : List Value) (hn : cs.length = k * size)
    (hsrc : ∀ j v, cs[j]? = some v → w.cell? (sp.add j) = some v) (hfit : off + cs.length ≤ cur.size) (h1 : ∀ v ∈ cs, v.oneCell' = true)
    (h : ∀ w1, w1.heap[g]? = some (.cells (laid cur.toList off cs) t (0, 0)) → Keeps (fun j => j = g) w w1 → wpList P ops Q rest (a.put o.dst (goInt k)) w1) : wpList P ops Q (o :: rest) a w :=
  wpList_plain hgd fun _ hK => copy_wp d s dT sT ho elem size hu hsz hd hs off k hoff hk cur t hg cs hn hsrc hfit h1 fun w1 h1 h2 => hK _ _ (h w1 h1 h2)
theorem copy_step {K : Act → World → Prop} {E : Prop} (hgd : o.guard = none) (d s : Operand) (dT sT : TypeId) (ho : o.op = .call { callee := .builtin .copy, args := #[d, s], argTypes := #[dT, sT] }) (elem : TypeId) (size : Nat) (hu : P.underlying dT = some (.slice elem)) (hsz : (P.info? elem).map (·.size) = some size)
    {g go' dLen dCap : Nat} (hd : a.eval d = .slice (some ⟨g, go', none⟩) dLen dCap) {sp : Addr} {sLen sCap : Nat} (hs : a.eval s = .slice (some sp) sLen sCap)
    (off k : Nat) (hoff : go' = off) (hk : Nat.min sLen dLen = k) (cur : Array Value) (t : TypeId) (hg : w.heap[g]? = some (.cells cur t (0, 0))) (cs : List Value) (hn : cs.length = k * size)
    (hsrc : ∀ j v, cs[j]? = some v → w.cell? (sp.add j) = some v) (hfit : off + cs.length ≤ cur.size) (h1 : ∀ v ∈ cs, v.oneCell' = true)
    (h : ∀ w1, w1.heap[g]? = some (.cells (laid cur.toList off cs) t (0, 0)) → Keeps (fun j => j = g) w w1 → K (a.put o.dst (goInt k)) w1) :
    if Region.wanted o (yielded ops a.tmps) = true then Oper.wp P o a w K Q else E := by
  have hw : Region.wanted o (yielded ops a.tmps) = true := by simp [Region.wanted, hgd]
  rw [if_pos hw]
  exact copy_wp d s dT sT ho elem size hu hsz hd hs off k hoff hk cur t hg cs hn hsrc hfit h1 h
/-- append where there is room, onto a row that lies in a block that is known whole; the source may lie in it too. -/
theorem room_wp {K : Act → World → Prop} (s x : Operand) (t tx e : TypeId) (z : Value) (size bytes : Nat) (ho : o.op = .call { callee := .builtin .append, args := #[s, x], argTypes := #[t, tx] })
    (ht : P.underlying t = some (.slice e)) (hinfo : (P.info? e).map (fun i => (i.zero, i.size, i.bytes)) = some (some z, size, bytes)) {g i' c : Nat} (hs : a.eval s = .slice (some ⟨g, 0, none⟩) i' c) (xv : Value) (hx : a.eval x = xv)
    (n m : Nat) (hi' : i' = n) (cur : Array Value) (hg : w.heap[g]? = some (.cells cur e (0, 0))) (news : List Value) (hsrc : Src P size tx xv m news w) (hroom : n + m ≤ c) (hfit : n * size + news.length ≤ cur.size)
    (h : ∀ w1, w1.heap[g]? = some (.cells (laid cur.toList (n * size) news) e (0, 0)) → Keeps (fun j => j = g) w w1 → K (a.put o.dst (.slice (some ⟨g, 0, none⟩) (n + m) c)) w1) : o.wp P a w K Q := by
  subst hi'
  obtain ⟨i, hi, hz, hsize, hby⟩ := info_parts hinfo
  subst hsize hby
  have hrun : (Builtin.append_ #[t, tx] o.type #[.slice (some ⟨g, 0, none⟩) i' c, xv]).run P w = .ok (.slice (some ⟨g, 0, none⟩) (i' + m) c) (w.setRow g (laid cur.toList (i' * i.size) news)) := by
    have hst := run_storeCells_at P g (i' * i.size) e news 0 cur w hg (by simpa using hfit) hsrc.one
    simp only [Nat.add_zero] at hst
    rcases hsrc.kind with ⟨e', hk⟩ | hk <;> simp [Builtin.append_, run_underlying ht, run_underlying hk, sizeOf, typeInfo, hi, hsrc.len, hroom, hsrc.cells, Addr.add_lit, hst, laid]
  unfold Oper.wp execOp
  simp only [ho, resolve, invoke, builtin, Sem.run_bind, Sem.run_pure, Result.andThen_ok, List.map_toArray, List.map_cons, List.map_nil, hs, hx, hrun]
  exact h _ (setRow_heap w g cur _ e _ hg) (Keeps.setRow (S := fun j => j = g) (Keeps.refl _ w) (fun _ => rfl) _)
theorem room_step {K : Act → World → Prop} {E : Prop} (hgd : o.guard = none) (s x : Operand) (t tx e : TypeId) (z : Value) (size bytes : Nat) (ho : o.op = .call { callee := .builtin .append, args := #[s, x], argTypes := #[t, tx] })
    (ht : P.underlying t = some (.slice e)) (hinfo : (P.info? e).map (fun i => (i.zero, i.size, i.bytes)) = some (some z, size, bytes)) {g i' c : Nat} (hs : a.eval s = .slice (some ⟨g, 0, none⟩) i' c) (xv : Value) (hx : a.eval x = xv)
    (n m : Nat) (hi' : i' = n) (cur : Array Value) (hg : w.heap[g]? = some (.cells cur e (0, 0))) (news : List Value) (hsrc : Src P size tx xv m news w) (hroom : n + m ≤ c) (hfit : n * size + news.length ≤ cur.size)
    (h : ∀ w1, w1.heap[g]? = some (.cells (laid cur.toList (n * size) news) e (0, 0)) → Keeps (fun j => j = g) w w1 → K (a.put o.dst (.slice (some ⟨g, 0, none⟩) (n + m) c)) w1) :
    if Region.wanted o (yielded ops a.tmps) = true then Oper.wp P o a w K Q else E := by
  have hw : Region.wanted o (yielded ops a.tmps) = true := by simp [Region.wanted, hgd]
  rw [if_pos hw]
  exact room_wp s x t tx e z size bytes ho ht hinfo hs xv hx n m hi' cur hg news hsrc hroom hfit h
/-- clear(s), s a row that lies in a block that is known whole. -/
theorem clear_list {rest : List Oper} (hgd : o.guard = none) (s : Operand) (t e : TypeId) (ho : o.op = .call { callee := .builtin .clear, args := #[s], argTypes := #[t] }) (z : Value) (size bytes : Nat) (hu : P.underlying t = some (.slice e))
    (hinfo : (P.info? e).map (fun i => (i.zero, i.size, i.bytes)) = some (some z, size, bytes)) (hzs : z.cells.size = size) (hz1 : ∀ v ∈ z.cells, v.oneCell' = true) {g go' n c : Nat} (hs : a.eval s = .slice (some ⟨g, go', none⟩) n c)
    (off k : Nat) (hoff : go' = off) (hk : n = k) (h0 : 0 < k) (cur : Array Value) (te : TypeId) (hg : w.heap[g]? = some (.cells cur te (0, 0))) (hfit : off + k * size ≤ cur.size)
    (h : ∀ w1, w1.heap[g]? = some (.cells (laid cur.toList off (Builtin.zeroCells z.cells k).toList) te (0, 0)) → Keeps (fun j => j = g) w w1 → wpList P ops Q rest (a.put o.dst (.tuple #[])) w1) : wpList P ops Q (o :: rest) a w := by
  subst hoff hk
  obtain ⟨i, hi, hz, hsize, hby⟩ := info_parts hinfo
  have hlen : (Builtin.zeroCells z.cells n).toList.length = n * size := by simp [Builtin.zeroCells, hzs]
  have hone : ∀ v ∈ (Builtin.zeroCells z.cells n).toList, v.oneCell' = true := by
    intro v hv
    simp only [Builtin.zeroCells, Array.toList_map, List.mem_map] at hv
    obtain ⟨j, hj, rfl⟩ := hv
    simp at hj
    have hpos : 0 < z.cells.size := Nat.pos_of_ne_zero (fun e => by simp [e] at hj)
    have : j % z.cells.size < z.cells.size := Nat.mod_lt _ hpos
    rw [getElem!_pos z.cells _ this]
    exact hz1 _ (Array.getElem_mem this)
  have hst := run_storeCells_at P g go' te (Builtin.zeroCells z.cells n).toList 0 cur w hg (by rw [hlen]; simpa using hfit) hone
  obtain ⟨n', rfl⟩ : ∃ n', n = n' + 1 := ⟨n - 1, by omega⟩
  refine wpList_plain hgd fun K hK => ?_
  unfold Oper.wp
  simp [execOp, ho, resolve, invoke, builtin, hs, Builtin.clear_, run_underlying hu, zeroValue, typeInfo, hi, hz, hst, Result.andThen]
  refine hK _ _ (h _ ?_ ?_)
  · have := setRow_heap w g cur (laid cur.toList go' (Builtin.zeroCells z.cells (n' + 1)).toList) te _ hg
    simpa [laid] using this
  · exact Keeps.setRow (S := fun j => j = g) (Keeps.refl _ w) (fun _ => rfl) _
/-- append(s[:i], make(T, k)...) that makes a new row. -/
theorem appz_list {rest : List Oper} (hgd : o.guard = none) (s x : Operand) (t tn e : TypeId) (kn : IntKind) (z : Value) (size bytes : Nat) (ho : o.op = .call { callee := .builtin .append, args := #[s, x], argTypes := #[t, tn] })
    (ht : P.underlying t = some (.slice e)) (htn : P.underlying tn = some (.int kn)) (hinfo : (P.info? e).map (fun i => (i.zero, i.size, i.bytes)) = some (some z, size, bytes)) (hzs : z.cells.size = size) (hsz : 0 < size)
    {g i' c : Nat} (hs : a.eval s = .slice (some ⟨g, 0, none⟩) i' c) {kq : IntKind} {k' : Int} (hx : a.eval x = .int kq k') (i k m : Nat) (hi' : i' = i) (hk' : k' = k) (hm' : i + k = m)
    (cur : Array Value) (te : TypeId) (hg : w.heap[g]? = some (.cells cur te (0, 0))) (hfit : i * size ≤ cur.size) (h0 : 0 < k) (hroom : c < m) (hb0 : m ≤ 9223372036854775807) (hbytes : m * bytes ≤ 140737488355328)
    (h : ∀ c' cur' w1, m ≤ c' → c' ≤ maxLen → w1.heap[w.heap.size]? = some (.cells cur' e (0, 0)) → cur'.size = c' * size → cur'.toList.take (i * size) = cur.toList.take (i * size) → Keeps (fun _ => False) w w1 → wpList P ops Q rest (a.put o.dst (.slice (some ⟨w.heap.size, 0, none⟩) m c')) w1) : wpList P ops Q (o :: rest) a w := by
  subst hi' hk' hm'
  obtain ⟨ti, hti, hz, hsize, hby⟩ := info_parts hinfo
  subst hsize hby
  have hlen : (cur.toList.take (i' * ti.size)).length = i' * ti.size := by rw [List.length_take]; exact Nat.min_eq_left (by simpa using hfit)
  have hold : (Builtin.firstCells ti.size i' (.slice (some ⟨g, 0, none⟩) i' c)).run P w.drew = .ok (cur.toList.take (i' * ti.size)).toArray w.drew := by
    refine run_firstCells_some w.drew ti.size i' ⟨g, 0, none⟩ i' c _ hlen (fun j v hj => ?_)
    have hadd : (⟨g, 0, none⟩ : Addr).add j = ⟨g, j, none⟩ := by unfold Addr.add; split <;> simp_all
    rw [hadd, blk_cell (w := w.drew) hg]
    rw [List.getElem?_take] at hj
    split at hj
    · simpa using hj
    · simp at hj
  have hge := grownCap_ge w (i' + k) c e
  have hrun := Lib.run_append_grow_zeros (P := P) w t tn o.type e ti z kq kn ht htn hti hz (some ⟨g, 0, none⟩) i' c _ hold k h0 hsz (by omega) (by omega) (by have : k * ti.bytes ≤ (i' + k) * ti.bytes := Nat.mul_le_mul_right _ (by omega); omega) (growslice_fits (by omega) hbytes)
  refine wpList_plain hgd fun K hK => ?_
  unfold Oper.wp execOp
  simp only [ho, resolve, invoke, builtin, Sem.run_bind, Sem.run_pure, Result.andThen_ok, List.map_toArray, List.map_cons, List.map_nil, hs, hx, hrun]
  refine hK _ _ (h _ _ _ hge (grownCap_le_maxLen w (i' + k) c e (by unfold maxLen; omega)) (heap_alloc_new w.drew _) ?_ ?_ ((Keeps.refl _ w).drew.alloc _))
  · simp only [Array.size_append, List.size_toArray, size_zeroCells, hzs, hlen]
    rw [← Nat.add_mul, ← Nat.add_mul]
    congr 1
    omega
  · simp only [Array.toList_append, List.append_assoc]
    have := List.take_left (l₁ := cur.toList.take (i' * ti.size)) (l₂ := (Builtin.zeroCells z.cells k).toList ++ (Builtin.zeroCells z.cells (grownCap w (i' + k) c e - (i' + k))).toList)
    rwa [hlen] at this
end
theorem Row.ofBlk {w : World} {F : Nat → Prop} {e size g n c : Nat} {cur : Array Value} {xs : List Value} (hg : w.heap[g]? = some (.cells cur e (0, 0))) (hF : F g) (hn : n ≤ c) (hc : c ≤ maxLen) (hs : cur.size = c * size) (hx : cur.toList.take (n * size) = xs) :
    Row w F e size (.slice (some ⟨g, 0, none⟩) n c) n xs := by
  refine ⟨⟨?_, .inr ⟨g, c, cur, rfl, Nat.zero_le _, hg, hn, hc, hs, hx⟩⟩, fun k hk => by simp [Value.ownBlock] at hk; exact hk ▸ hF⟩
  rw [← hx, List.length_take]
  exact Nat.min_eq_left (by simp [hs]; exact Nat.mul_le_mul_right _ hn)
theorem Row.blk {w : World} {F : Nat → Prop} {e size n c : Nat} {A : Option Addr} {xs : List Value} (h : Row w F e size (.slice A n c) n xs) (h0 : 0 < n) : ∃ g cur, A = some ⟨g, 0, none⟩ ∧ F g ∧ w.heap[g]? = some (.cells cur e (0, 0)) ∧ n ≤ c ∧ c ≤ maxLen ∧ cur.size = c * size ∧ cur.toList.take (n * size) = xs := by
  rcases h.1.2 with ⟨h1, rfl⟩ | ⟨g, cap, cur, h1, _, hg, hc, hm, hs, ht⟩
  · omega
  · simp at h1
    obtain ⟨rfl, rfl⟩ := h1
    exact ⟨g, cur, rfl, h.2 g rfl, hg, hc, hm, hs, ht⟩
end Go.Proofs.Ytpaefeknbpfpmaa
