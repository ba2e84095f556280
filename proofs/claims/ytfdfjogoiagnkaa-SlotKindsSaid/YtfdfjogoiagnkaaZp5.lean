/- Texts that belong together: SKG SKX LawSlotKinds. -/
import Derived.Test.YtfdfjogoiagnkaaZp4
set_option linter.unusedSimpArgs false
set_option linter.unusedVariables false
namespace Go.Proofs.Ytfdfjogoiagnkaa
open Go.RowKit
set_option maxRecDepth 100000
set_option linter.unusedSimpArgs false
set_option linter.unusedVariables false

set_option maxHeartbeats 32000000 in
theorem slotKinds_G : sk_pre.1 2 := by
  intro w kk kn kt st at' hchk rk rn re hok R hR hst hkz w0 w1 w2 qq_0 w4 hb F0 w8 w12 vb19 w16 w21 l pl lb F22 HH23 st24 v30 GE34 w31 SZ33 w38 w43 c pc tc F44 HH45 st46 E48 v55 GE59 w56 SZ58 w65 w71 w77 w83 F84 HH85 w94 i pi ti F95 HH96 st97 E99 E101 S103 v109 GE113 w110 SZ112 w121 w128 w135 w142 F143 HH144 N145 N146 N147 w154 w161 w168 v175 GE179 w176 SZ178 inb u84 u85 u86 u87 u88 u89 u90 wc u6 u92 u93 u94 u95 u96 u97 u98 u99 u100 u101 u102 u103 u104 u105 u106 u107 u108 u109 w251 w255 w263 w271 C281 C282 wdx278 KDx278 rx2780 wzx278 w284 w295 w304 w313 w322 w331 w342 qq_1 qq_2 qq_3 qq_4 v353 GE357 w354 H358 V359 V360 V361 V362 V363 V364 V355 SZ356
  obtain ⟨rfl, hk⟩ := KC.g hok
  have hk0 : ¬ kn < 0 := by omega
  have hmm := @run_makeMap Try.prog
  have hml : listR [⟨2, 5, ⟨#[]⟩⟩, ⟨2, 6, ⟨#[]⟩⟩] kn = (V.null, 1) := by
    unfold listR
    by_cases h : kn < 0
    · rw [if_pos h]
    · rw [if_neg h, List.getElem?_eq_none (by simp; omega)]
  have C365 := hidden (get_as (slot_Get_array H358.out.heap N145.out rfl rfl kn kt) hml)
  (try unfold V.val at C365)
  (try unfold V.null at C365)
  (try dsimp only [rV, iV] at C365)
  obtain ⟨l3660, l3661, l3662, l366z⟩ := V360.out.cells
  (try dsimp only [rV, iV, V.null] at l3660 l3661 l3662)
  obtain ⟨l3670, l3671, l3672, l367z⟩ := V359.out.cells
  (try dsimp only [rV, iV, V.null] at l3670 l3671 l3672)
  (try go_wp2_with fail)
  refine C365.out.mono ?_
  rintro e w368 ⟨rfl, hK⟩
  have H369 := hidden (H358.out.calm hK)
  have V370 := hidden (V359.out.calm hK)
  have V371 := hidden (V360.out.calm hK)
  have V372 := hidden (V361.out.calm hK)
  have V373 := hidden (V362.out.calm hK)
  have V374 := hidden (V363.out.calm hK)
  have V375 := hidden (V364.out.calm hK)
  have V376 := hidden (V355.out.calm hK)
  clear l3660 l3661 l3662 l366z l3670 l3671 l3672 l367z C365 hK H358 V359 V360 V361 V362 V363 V364 V355
  obtain ⟨l3770, l3771, l3772, l377z⟩ := V370.out.cells
  (try dsimp only [rV, iV, V.null] at l3770 l3771 l3772)
  obtain ⟨l3780, l3781, l3782, l378z⟩ := V371.out.cells
  (try dsimp only [rV, iV, V.null] at l3780 l3781 l3782)
  (try go_wp2_with fail)
  clear l3770 l3771 l3772 l377z l3780 l3781 l3782 l378z
  have V382 := hidden (show Vr F143 (w368.alloc (.cells #[.int .i64 0, .int .i64 0, .string ⟨#[]⟩] 26)) w368.heap.size ⟨0, 0, ⟨#[]⟩⟩ from Vr.new ⟨0, 0, ⟨#[]⟩⟩ H369.out.heap.inw)
  have SZ383 := hidden (show (w368.alloc (.cells #[.int .i64 0, .int .i64 0, .string ⟨#[]⟩] 26)).heap.size = w368.heap.size + 1 from by simp)
  have GE384 := hidden (show w.heap.size ≤ w368.heap.size from H369.out.K.size)
  have K379 := (Keeps.refl (fun _ => False) w368).alloc (.cells #[.int .i64 0, .int .i64 0, .string ⟨#[]⟩] 26)
  have H385 := hidden (H369.out.calm K379)
  have V386 := hidden (V370.out.calm K379)
  have V387 := hidden (V371.out.calm K379)
  have V388 := hidden (V372.out.calm K379)
  have V389 := hidden (V373.out.calm K379)
  have V390 := hidden (V374.out.calm K379)
  have V391 := hidden (V375.out.calm K379)
  have V392 := hidden (V376.out.calm K379)
  clear K379 H369 V370 V371 V372 V373 V374 V375 V376
  generalize w368.heap.size = v380 at *
  generalize w368.alloc (.cells #[.int .i64 0, .int .i64 0, .string ⟨#[]⟩] 26) = w381 at *
  have C393 := hidden (slot_Set_array_out H385.out.heap N145.out rfl rfl kn kt (by simp; omega) 2 kn kt)
  (try unfold V.val at C393)
  (try unfold V.null at C393)
  (try dsimp only [rV, iV] at C393)
  obtain ⟨l3940, l3941, l3942, l394z⟩ := V386.out.cells
  (try dsimp only [rV, iV, V.null] at l3940 l3941 l3942)
  obtain ⟨l3950, l3951, l3952, l395z⟩ := V387.out.cells
  (try dsimp only [rV, iV, V.null] at l3950 l3951 l3952)
  (try go_wp2_with fail)
  refine C393.out.mono ?_
  rintro e w396 ⟨rfl, hK⟩
  have H397 := hidden (H385.out.calm hK)
  have V398 := hidden (V386.out.calm hK)
  have V399 := hidden (V387.out.calm hK)
  have V400 := hidden (V388.out.calm hK)
  have V401 := hidden (V389.out.calm hK)
  have V402 := hidden (V390.out.calm hK)
  have V403 := hidden (V391.out.calm hK)
  have V404 := hidden (V392.out.calm hK)
  have V405 := hidden (V382.out.calm hK)
  clear l3940 l3941 l3942 l394z l3950 l3951 l3952 l395z C393 hK H385 V386 V387 V388 V389 V390 V391 V392 V382
  have hy1 : instR [⟨⟨3, 0, ⟨#[109]⟩⟩, ⟨2, 7, ⟨#[]⟩⟩, 1, false⟩] [⟨⟨3, 0, ⟨#[109]⟩⟩, ⟨2, 7, ⟨#[]⟩⟩, 1, false⟩, ⟨⟨3, 0, ⟨#[110]⟩⟩, ⟨2, 8, ⟨#[]⟩⟩, 2, false⟩] ⟨2, kn, kt⟩ = (V.null, 3) := by simp [instR, getR, V.null]
  have hy2 : getR [⟨⟨3, 0, ⟨#[109]⟩⟩, ⟨2, 7, ⟨#[]⟩⟩, 1, false⟩, ⟨⟨3, 0, ⟨#[110]⟩⟩, ⟨2, 8, ⟨#[]⟩⟩, 2, false⟩] ⟨2, kn, kt⟩ = (V.null, 3) := by simp [getR, V.null]
  have hy3 : (getR [⟨⟨3, 0, ⟨#[109]⟩⟩, ⟨2, 7, ⟨#[]⟩⟩, 1, false⟩] ⟨2, kn, kt⟩).2 = 3 := by simp [getR]
  have C406 := hidden (get_as (slot_Get_inst H397.out.heap N147.out rfl rfl (by decide) rfl N146.out rfl rfl (by decide) 2 kn kt (by omega)) hy1)
  (try unfold V.val at C406)
  (try unfold V.null at C406)
  (try dsimp only [rV, iV] at C406)
  obtain ⟨l4070, l4071, l4072, l407z⟩ := V401.out.cells
  (try dsimp only [rV, iV, V.null] at l4070 l4071 l4072)
  obtain ⟨l4080, l4081, l4082, l408z⟩ := V398.out.cells
  (try dsimp only [rV, iV, V.null] at l4080 l4081 l4082)
  (try go_wp2_with fail)
  refine C406.out.mono ?_
  rintro e w409 ⟨rfl, hK⟩
  have H410 := hidden (H397.out.calm hK)
  have V411 := hidden (V398.out.calm hK)
  have V412 := hidden (V399.out.calm hK)
  have V413 := hidden (V400.out.calm hK)
  have V414 := hidden (V401.out.calm hK)
  have V415 := hidden (V402.out.calm hK)
  have V416 := hidden (V403.out.calm hK)
  have V417 := hidden (V404.out.calm hK)
  have V418 := hidden (V405.out.calm hK)
  clear l4070 l4071 l4072 l407z l4080 l4081 l4082 l408z C406 hK H397 V398 V399 V400 V401 V402 V403 V404 V405
  obtain ⟨l4190, l4191, l4192, l419z⟩ := V413.out.cells
  (try dsimp only [rV, iV, V.null] at l4190 l4191 l4192)
  obtain ⟨l4200, l4201, l4202, l420z⟩ := V411.out.cells
  (try dsimp only [rV, iV, V.null] at l4200 l4201 l4202)
  (try go_wp2_with fail)
  clear l4190 l4191 l4192 l419z l4200 l4201 l4202 l420z
  have V424 := hidden (show Vr F143 (w409.alloc (.cells #[.int .i64 0, .int .i64 0, .string ⟨#[]⟩] 26)) w409.heap.size ⟨0, 0, ⟨#[]⟩⟩ from Vr.new ⟨0, 0, ⟨#[]⟩⟩ H410.out.heap.inw)
  have SZ425 := hidden (show (w409.alloc (.cells #[.int .i64 0, .int .i64 0, .string ⟨#[]⟩] 26)).heap.size = w409.heap.size + 1 from by simp)
  have GE426 := hidden (show w.heap.size ≤ w409.heap.size from H410.out.K.size)
  have K421 := (Keeps.refl (fun _ => False) w409).alloc (.cells #[.int .i64 0, .int .i64 0, .string ⟨#[]⟩] 26)
  have H427 := hidden (H410.out.calm K421)
  have V428 := hidden (V411.out.calm K421)
  have V429 := hidden (V412.out.calm K421)
  have V430 := hidden (V413.out.calm K421)
  have V431 := hidden (V414.out.calm K421)
  have V432 := hidden (V415.out.calm K421)
  have V433 := hidden (V416.out.calm K421)
  have V434 := hidden (V417.out.calm K421)
  have V435 := hidden (V418.out.calm K421)
  clear K421 H410 V411 V412 V413 V414 V415 V416 V417 V418
  generalize w409.heap.size = v422 at *
  generalize w409.alloc (.cells #[.int .i64 0, .int .i64 0, .string ⟨#[]⟩] 26) = w423 at *
  have C436 := hidden (get_as (slot_Get_class H427.out.heap N146.out rfl rfl (by decide) 2 kn kt (by omega)) hy2)
  (try unfold V.val at C436)
  (try unfold V.null at C436)
  (try dsimp only [rV, iV] at C436)
  obtain ⟨l4370, l4371, l4372, l437z⟩ := V430.out.cells
  (try dsimp only [rV, iV, V.null] at l4370 l4371 l4372)
  obtain ⟨l4380, l4381, l4382, l438z⟩ := V428.out.cells
  (try dsimp only [rV, iV, V.null] at l4380 l4381 l4382)
  (try go_wp2_with fail)
  refine C436.out.mono ?_
  rintro e w439 ⟨rfl, hK⟩
  have H440 := hidden (H427.out.calm hK)
  have V441 := hidden (V428.out.calm hK)
  have V442 := hidden (V429.out.calm hK)
  have V443 := hidden (V430.out.calm hK)
  have V444 := hidden (V431.out.calm hK)
  have V445 := hidden (V432.out.calm hK)
  have V446 := hidden (V433.out.calm hK)
  have V447 := hidden (V434.out.calm hK)
  have V448 := hidden (V435.out.calm hK)
  have V449 := hidden (V424.out.calm hK)
  clear l4370 l4371 l4372 l437z l4380 l4381 l4382 l438z C436 hK H427 V428 V429 V430 V431 V432 V433 V434 V435 V424
  obtain ⟨l4500, l4501, l4502, l450z⟩ := V441.out.cells
  (try dsimp only [rV, iV, V.null] at l4500 l4501 l4502)
  (try go_wp2_with fail)
  clear l4500 l4501 l4502 l450z
  have V454 := hidden (show Vr F143 (w439.alloc (.cells #[.int .i64 0, .int .i64 0, .string ⟨#[]⟩] 26)) w439.heap.size ⟨0, 0, ⟨#[]⟩⟩ from Vr.new ⟨0, 0, ⟨#[]⟩⟩ H440.out.heap.inw)
  have SZ455 := hidden (show (w439.alloc (.cells #[.int .i64 0, .int .i64 0, .string ⟨#[]⟩] 26)).heap.size = w439.heap.size + 1 from by simp)
  have GE456 := hidden (show w.heap.size ≤ w439.heap.size from H440.out.K.size)
  have K451 := (Keeps.refl (fun _ => False) w439).alloc (.cells #[.int .i64 0, .int .i64 0, .string ⟨#[]⟩] 26)
  have H457 := hidden (H440.out.calm K451)
  have V458 := hidden (V441.out.calm K451)
  have V459 := hidden (V442.out.calm K451)
  have V460 := hidden (V443.out.calm K451)
  have V461 := hidden (V444.out.calm K451)
  have V462 := hidden (V445.out.calm K451)
  have V463 := hidden (V446.out.calm K451)
  have V464 := hidden (V447.out.calm K451)
  have V465 := hidden (V448.out.calm K451)
  have V466 := hidden (V449.out.calm K451)
  clear K451 H440 V441 V442 V443 V444 V445 V446 V447 V448 V449
  generalize w439.heap.size = v452 at *
  generalize w439.alloc (.cells #[.int .i64 0, .int .i64 0, .string ⟨#[]⟩] 26) = w453 at *
  have M0 : IsMap (κ := ByteArray) (β := Int) (fun s => .string s) (fun s => s.size ≤ maxLen) (fun n => .int .i64 n) (w453.alloc (.map #[] 0)) (v452 + 1) [] := SZ455.out ▸ IsMap.new w453
  obtain ⟨W1, e1, k1, M1⟩ := M0.update2 ks_str Try.underlying95 (x := ⟨#[109]⟩) (by decide) 7
  obtain ⟨W2, e2, k2, M2⟩ := M1.update2 ks_str Try.underlying95 (x := ⟨#[110]⟩) (by decide) 8
  have e3 := M2.look false ks_str Try.underlying95 (zero_int64 W2) (x := kt) (by unfold maxLen; omega)
  obtain ⟨wv, hwv⟩ : ∃ wv : Int, ((mget (mput (mput ([] : List (ByteArray × Int)) ⟨#[109]⟩ 7) ⟨#[110]⟩ 8) kt).map fun n => Value.int .i64 n).getD (.int .i64 0) = .int .i64 wv := by
    cases mget (mput (mput ([] : List (ByteArray × Int)) ⟨#[109]⟩ 7) ⟨#[110]⟩ 8) kt with
    | none => exact ⟨0, rfl⟩
    | some n => exact ⟨n, rfl⟩
  rw [hwv] at e3
  clear hwv
  simp only [Bool.false_eq_true, if_false] at e3
  (try dsimp only at e1 e2)
  have KM : Keeps (fun k => w453.heap.size ≤ k) w453 W2 := (((Keeps.refl _ w453).alloc _).trans k1 (fun k _ h => by have := SZ455.out; have h9 : k = v452 + 1 := h; omega)).trans k2 (fun k _ h => by have := SZ455.out; have h9 : k = v452 + 1 := h; omega)
  have H467 := hidden (H457.out.beyond KM)
  have V468 := hidden (V458.out.beyond KM)
  have V469 := hidden (V459.out.beyond KM)
  have V470 := hidden (V460.out.beyond KM)
  have V471 := hidden (V461.out.beyond KM)
  have V472 := hidden (V462.out.beyond KM)
  have V473 := hidden (V463.out.beyond KM)
  have V474 := hidden (V464.out.beyond KM)
  have V475 := hidden (V465.out.beyond KM)
  have V476 := hidden (V466.out.beyond KM)
  have V477 := hidden (V454.out.beyond KM)
  clear KM k1 k2 M0 M1 M2 SZ455 H457 V458 V459 V460 V461 V462 V463 V464 V465 V466 V454
  obtain ⟨l4780, l4781, l4782, l478z⟩ := V468.out.cells
  (try dsimp only [rV, iV, V.null] at l4780 l4781 l4782)
  obtain ⟨l4790, l4791, l4792, l479z⟩ := V471.out.cells
  (try dsimp only [rV, iV, V.null] at l4790 l4791 l4792)
  rw [e1]
  (try go_wp2_with fail)
  (try rw [e2])
  (try go_wp2_with fail)
  (try rw [e3])
  (try go_wp2_with fail)
  clear e1 e2 e3
  clear l4780 l4781 l4782 l478z l4790 l4791 l4792 l479z
  -- behind the map
  have C480 := hidden (slot_Set_tabR H467.out.heap N147.out (.inr (.inr rfl)) rfl (by decide) ⟨2, kn, kt⟩ ⟨2, kn, kt⟩ (by simp only; omega) hy3)
  (try unfold V.val at C480)
  (try unfold V.null at C480)
  (try dsimp only [rV, iV] at C480)
  obtain ⟨l4810, l4811, l4812, l481z⟩ := V471.out.cells
  (try dsimp only [rV, iV, V.null] at l4810 l4811 l4812)
  obtain ⟨l4820, l4821, l4822, l482z⟩ := V468.out.cells
  (try dsimp only [rV, iV, V.null] at l4820 l4821 l4822)
  (try go_wp2_with fail)
  refine C480.out.mono ?_
  rintro e w483 ⟨F484, rfl, g1, g2, g3⟩
  have N486 := hidden (show (tabH HH144 i pi (instCl ti [⟨⟨3, 0, ⟨#[109]⟩⟩, ⟨2, 7, ⟨#[]⟩⟩, 1, false⟩] 1 ⟨4, c, ⟨#[]⟩⟩) ti (putL [⟨⟨3, 0, ⟨#[109]⟩⟩, ⟨2, 7, ⟨#[]⟩⟩, 1, false⟩] ⟨2, kn, kt⟩ ⟨2, kn, kt⟩, 1))[l]? = some (some (pl, arrayCl lb [⟨2, 5, ⟨#[]⟩⟩, ⟨2, 6, ⟨#[]⟩⟩])) from set_old N145.out E99.out)
  have N487 := hidden (show (tabH HH144 i pi (instCl ti [⟨⟨3, 0, ⟨#[109]⟩⟩, ⟨2, 7, ⟨#[]⟩⟩, 1, false⟩] 1 ⟨4, c, ⟨#[]⟩⟩) ti (putL [⟨⟨3, 0, ⟨#[109]⟩⟩, ⟨2, 7, ⟨#[]⟩⟩, 1, false⟩] ⟨2, kn, kt⟩ ⟨2, kn, kt⟩, 1))[c]? = some (some (pc, classCl tc [⟨⟨3, 0, ⟨#[109]⟩⟩, ⟨2, 7, ⟨#[]⟩⟩, 1, false⟩, ⟨⟨3, 0, ⟨#[110]⟩⟩, ⟨2, 8, ⟨#[]⟩⟩, 2, false⟩] 2 V.null)) from set_old N146.out E101.out)
  have N488 := hidden (show (tabH HH144 i pi (instCl ti [⟨⟨3, 0, ⟨#[109]⟩⟩, ⟨2, 7, ⟨#[]⟩⟩, 1, false⟩] 1 ⟨4, c, ⟨#[]⟩⟩) ti (putL [⟨⟨3, 0, ⟨#[109]⟩⟩, ⟨2, 7, ⟨#[]⟩⟩, 1, false⟩] ⟨2, kn, kt⟩ ⟨2, kn, kt⟩, 1))[i]? = some (some (pi, { instCl ti [⟨⟨3, 0, ⟨#[109]⟩⟩, ⟨2, 7, ⟨#[]⟩⟩, 1, false⟩] 1 ⟨4, c, ⟨#[]⟩⟩ with tab := some (ti, putL [⟨⟨3, 0, ⟨#[109]⟩⟩, ⟨2, 7, ⟨#[]⟩⟩, 1, false⟩] ⟨2, kn, kt⟩ ⟨2, kn, kt⟩, 1) })) from tabH_at N147.out)
  have H489 := hidden (show Hd w hb F484 (tabH HH144 i pi (instCl ti [⟨⟨3, 0, ⟨#[109]⟩⟩, ⟨2, 7, ⟨#[]⟩⟩, 1, false⟩] 1 ⟨4, c, ⟨#[]⟩⟩) ti (putL [⟨⟨3, 0, ⟨#[109]⟩⟩, ⟨2, 7, ⟨#[]⟩⟩, 1, false⟩] ⟨2, kn, kt⟩ ⟨2, kn, kt⟩, 1)) st97 w483 from H467.out.turn2 N147.out g1 g2 g3)
  have V490 := hidden (V468.out.step g2 g3)
  have V491 := hidden (V469.out.step g2 g3)
  have V492 := hidden (V470.out.step g2 g3)
  have V493 := hidden (V471.out.step g2 g3)
  have V494 := hidden (V472.out.step g2 g3)
  have V495 := hidden (V473.out.step g2 g3)
  have V496 := hidden (V474.out.step g2 g3)
  have V497 := hidden (V475.out.step g2 g3)
  have V498 := hidden (V476.out.step g2 g3)
  have V499 := hidden (V477.out.step g2 g3)
  clear l4810 l4811 l4812 l481z l4820 l4821 l4822 l482z C480 g1 g2 g3 N145 N146 N147 H467 V468 V469 V470 V471 V472 V473 V474 V475 V476 V477
  generalize tabH HH144 i pi (instCl ti [⟨⟨3, 0, ⟨#[109]⟩⟩, ⟨2, 7, ⟨#[]⟩⟩, 1, false⟩] 1 ⟨4, c, ⟨#[]⟩⟩) ti (putL [⟨⟨3, 0, ⟨#[109]⟩⟩, ⟨2, 7, ⟨#[]⟩⟩, 1, false⟩] ⟨2, kn, kt⟩ ⟨2, kn, kt⟩, 1) = HH485 at *
  (try go_wp2_with fail)
  exact hR.out _ _ ⟨rfl, H489.out.K.below (Nat.le_refl _) (fun _ h => h)⟩
end Go.Proofs.Ytfdfjogoiagnkaa
namespace Go.Proofs.Ytfdfjogoiagnkaa
open Go.RowKit
set_option maxRecDepth 100000
set_option linter.unusedSimpArgs false
set_option linter.unusedVariables false

set_option maxHeartbeats 8000000 in
theorem slotKinds_X (ok : Int) (hno : ok ≠ 0 ∧ ok ≠ 1 ∧ ok ≠ 2 ∧ ok ≠ 3 ∧ ok ≠ 4 ∧ ok ≠ 5 ∧ ok ≠ 6) : sk_pre.1 ok := by
  intro w kk kn kt st at' hchk rk rn re hok R hR hst hkz w0 w1 w2 qq_0 w4 hb F0 w8 w12 vb19 w16 w21 l pl lb F22 HH23 st24 v30 GE34 w31 SZ33 w38 w43 c pc tc F44 HH45 st46 E48 v55 GE59 w56 SZ58 w65 w71 w77 w83 F84 HH85 w94 i pi ti F95 HH96 st97 E99 E101 S103 v109 GE113 w110 SZ112 w121 w128 w135 w142 F143 HH144 N145 N146 N147 w154 w161 w168 v175 GE179 w176 SZ178 inb u84 u85 u86 u87 u88 u89 u90 wc u6 u92 u93 u94 u95 u96 u97 u98 u99 u100 u101 u102 u103 u104 u105 u106 u107 u108 u109 w251 w255 w263 w271 C281 C282 wdx278 KDx278 rx2780 wzx278 w284 w295 w304 w313 w322 w331 w342 qq_1 qq_2 qq_3 qq_4 v353 GE357 w354 H358 V359 V360 V361 V362 V363 V364 V355 SZ356
  exact (KC.in ok hok hno).elim
end Go.Proofs.Ytfdfjogoiagnkaa
namespace Go.Proofs.Ytfdfjogoiagnkaa
open Go.RowKit
set_option maxRecDepth 100000

theorem octet_ans (st : ByteArray) (at' : Int) : ∃ rk rn re : Int, (∀ W : World, Calls Try.prog 68 #[.string st, V.val ⟨2, at', ⟨#[]⟩⟩] W fun e w' => e = .returned (.tuple #[V.val ⟨rk, rn, ⟨#[]⟩⟩, .int .i64 re]) ∧ Keeps (fun _ => False) W w') ∧ ((∃ mm : Nat, at' = mm ∧ ∃ h : mm < st.size, rk = 2 ∧ rn = (st[mm].toNat : Int) ∧ re = 0) ∨ (at' < 0 ∧ rk = 0 ∧ rn = 0 ∧ re = 1) ∨ (¬ at' < 0 ∧ (st.size : Int) ≤ at' ∧ rk = 0 ∧ rn = 0 ∧ re = 1)) := by
  by_cases h0 : at' < 0
  · exact ⟨0, 0, 1, fun W => slot_octet_low W st at' _ h0, .inr (.inl ⟨h0, rfl, rfl, rfl⟩)⟩
  by_cases h1 : (st.size : Int) ≤ at'
  · exact ⟨0, 0, 1, fun W => slot_octet_high W st at' _ h0 h1, .inr (.inr ⟨h0, h1, rfl, rfl, rfl⟩)⟩
  obtain ⟨mm, rfl⟩ : ∃ mm : Nat, at' = mm := ⟨at'.toNat, by omega⟩
  have hm : mm < st.size := by omega
  exact ⟨2, st[mm].toNat, 0, fun W => slot_octet_ok W st mm _ hm, .inl ⟨mm, rfl, hm, rfl, rfl, rfl⟩⟩
set_option maxHeartbeats 8000000 in
theorem slotKinds_no (w : World) (key : V) (st : ByteArray) (at' : Int) (hno : key.chk ≠ 0 ∨ (200 : Int) < st.size ∨ (200 : Int) < key.t.size) :
    Calls Try.prog 9 #[key.val, .string st, .int .i64 at'] w fun e w' => e = .returned (.bool true) ∧ Below w.heap.size w w' := by
  have CK := hidden (fun (W : World) => value_Check key W)
  obtain ⟨kk, kn, kt⟩ := key
  simp only at hno
  generalize hc : V.chk ⟨kk, kn, kt⟩ = cc at *
  clear hc
  unfold V.val at CK ⊢
  have hwk0 := hidden (show IsVar (w.alloc (.cells #[.int .i64 kk, .int .i64 kn, .string kt] 26)) w.heap.size ⟨kk, kn, kt⟩ from IsVar.new w ⟨kk, kn, kt⟩)
  have hkk0 := hidden (show Keeps (fun k => w.heap.size ≤ k) w (w.alloc (.cells #[.int .i64 kk, .int .i64 kn, .string kt] 26)) from (Keeps.refl _ w).alloc _)
  refine post_gen fun R hR => ?_
  go_enter Try.func9, Try.ntmps9
  go_wp2_with fail
  generalize w.alloc (.cells #[.int .i64 kk, .int .i64 kn, .string kt] 26) = w0 at *
  refine (stands_true w0).mono ?_
  rintro e w1 ⟨rfl, hB⟩
  have hkv := hidden (show IsVar w1 w.heap.size ⟨kk, kn, kt⟩ from hwk0.out.keeps (Keeps.of_below hB) (fun h => by have := blk_lt hwk0.out; omega))
  have hkb := hidden (show Keeps (fun k => w.heap.size ≤ k) w w1 from hkk0.out.trans (Keeps.of_below hB) (fun k _ h => Nat.le_trans hkk0.out.size h))
  clear hB hwk0 hkk0
  obtain ⟨q0, q1, q2, -⟩ := hkv.out.cells
  have qz := blk_lt hkv.out
  simp only at q0 q1 q2
  go_wp2_with fail
  refine (CK.out w1).mono ?_
  rintro e w2 ⟨rfl, hK⟩
  have hkv2 := hidden (hkv.out.keeps hK (fun h => h))
  have hkb2 := hidden (hkb.out.trans hK (fun _ _ h => h.elim))
  clear hK CK hkv hkb q0 q1 q2 qz
  obtain ⟨q0, q1, q2, -⟩ := hkv2.out.cells
  have qz := blk_lt hkv2.out
  simp only at q0 q1 q2
  by_cases h1 : cc = 0
  · subst h1
    by_cases h2 : (200 : Int) < st.size
    · go_wp2_with fail
      exact hR.out _ _ ⟨rfl, hkb2.out.below (Nat.le_refl _) (fun _ h => h)⟩
    · have h3 : (200 : Int) < kt.size := hno.elim (fun h => absurd rfl h) (fun h => h.elim (fun h => absurd h h2) id)
      go_wp2_with fail
      exact hR.out _ _ ⟨rfl, hkb2.out.below (Nat.le_refl _) (fun _ h => h)⟩
  · have h2 : (cc == 0) = false := by simpa using h1
    go_wp2_with fail
    exact hR.out _ _ ⟨rfl, hkb2.out.below (Nat.le_refl _) (fun _ h => h)⟩
theorem slotKinds_walk (w : World) (key : V) (st : ByteArray) (at' : Int) : Calls Try.prog 9 #[key.val, .string st, .int .i64 at'] w fun e w' => e = .returned (.bool true) ∧ Below w.heap.size w w' := by
  by_cases hchk : key.chk = 0
  rotate_left
  · exact slotKinds_no w key st at' (.inl hchk)
  by_cases hst : (200 : Int) < st.size
  · exact slotKinds_no w key st at' (.inr (.inl hst))
  by_cases hkz : (200 : Int) < key.t.size
  · exact slotKinds_no w key st at' (.inr (.inr hkz))
  obtain ⟨rk, rn, re, hoct, hans⟩ := octet_ans st at'
  obtain ⟨kk, kn, kt⟩ := key
  simp only at hkz
  obtain ⟨ok, hok⟩ := KC.all hchk
  refine sk_pre.2 (fun ok => ?_) w kk kn kt st at' hst hkz hchk rk rn re hoct hans ok hok
  rcases (show ok = 0 ∨ ok = 1 ∨ ok = 2 ∨ ok = 3 ∨ ok = 4 ∨ ok = 5 ∨ ok = 6 ∨ (ok ≠ 0 ∧ ok ≠ 1 ∧ ok ≠ 2 ∧ ok ≠ 3 ∧ ok ≠ 4 ∧ ok ≠ 5 ∧ ok ≠ 6) by omega) with rfl | rfl | rfl | rfl | rfl | rfl | rfl | hno
  · exact slotKinds_A
  · exact slotKinds_B
  · exact slotKinds_G
  · exact slotKinds_C
  · exact slotKinds_D
  · exact slotKinds_E
  · exact slotKinds_F
  · exact slotKinds_X ok hno
end Go.Proofs.Ytfdfjogoiagnkaa
