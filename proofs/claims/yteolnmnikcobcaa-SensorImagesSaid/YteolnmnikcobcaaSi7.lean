/- SensorImages: for every pair of images the law returns true, and both read behind the call as before; no conditions. Part 7 of 10. -/
import Derived.Test.YteolnmnikcobcaaSi6
/- Contracts of SensorImages: what the law calls. -/
namespace Go.Proofs
open Go Go.Sx Go.Vx
set_option maxRecDepth 100000
theorem sums_valid {im : List (List Int)} (h : Valid im) : Sums im (sX im) (sY im) (sA im) := sums_ok h.len h.rows h.lit
theorem Sums.bd {im : List (List Int)} {X Y A : Int} (h : Sums im X Y A) : (0 ≤ X ∧ X ≤ 114750) ∧ (0 ≤ Y ∧ Y ≤ 114750) ∧ 0 < A ∧ A ≤ 25500 := by
  have h1 := h.x.le
  have h2 := h.y.le
  have h3 := h.pos
  omega
def zF : DV := .agg [.int 0, .int 0, .int 0, .int 0]
theorem c31 {im : List (List Int)} (h12 : im.length ≤ 12) (hr : ∀ i, i < im.length → (im.getD i []).length ≤ 12) : CallV vt1 31 [LL im] (.tup (if errI im = 0 then [FF (Rat.divInt (sX im) (sA im)) (Rat.divInt (sY im) (sA im)), .int 0] else [zF, .int (errI im)])) := by
  refine CallV.by (fun ih => e31 ih _) (EvR.call (c83 h12 hr) (EvR.yes (isRes_int _) ?_))
  rw [asI_int]
  by_cases h : errI im = 0
  · rw [if_pos h, h]
    have V := valid_of h
    obtain ⟨b1, b2, b3⟩ := (sums_valid V).bd
    have k := c84 h12 hr
    rw [wim_valid V] at k
    refine EvR.no rfl (EvR.call k (EvR.yes rfl (EvR.call (c85 (x := sX im) (y := sA im) (by omega) (by omega)) (EvR.yes rfl (EvR.call (c85 (x := sY im) (y := sA im) (by omega) (by omega)) (EvR.yes rfl (EvR.ret' rfl)))))))
  · rw [if_neg h]
    exact EvR.yes (by rw [decide_eq_false h]; rfl) (EvR.ret' rfl)
/-- The center's move. -/
def mvd (a b c d : Int) : Rat := Rat.divInt (c * b - a * d) (b * d)
theorem mvd_eq {a b c d : Int} (hb : 0 < b) (hd : 0 < d) : Rat.divInt c d - Rat.divInt a b = mvd a b c d := by
  unfold mvd
  rw [Rat.divInt_sub_divInt _ _ (by omega) (by omega), Int.mul_comm d b]
theorem mulB {x y M N : Int} (hx : 0 ≤ x ∧ x ≤ M) (hy : 0 ≤ y ∧ y ≤ N) : 0 ≤ x * y ∧ x * y ≤ M * N := by
  have h1 := Int.mul_nonneg hx.1 hy.1
  have h2 := mulM (b := x) (y := y) (M := M) (m := N) hx hy.2 (by omega)
  exact ⟨h1, h2⟩
/-- The error of two images. -/
def errM (one two : List (List Int)) : Int := firstNZ [errI one, errI two, if one.length = two.length ∧ wide one = wide two then 0 else 13]
theorem errM_valid {one two : List (List Int)} (h : errM one two = 0) : Valid one ∧ Valid two := by
  unfold errM firstNZ at h
  split at h
  · rename_i h1
    unfold firstNZ at h
    split at h
    · rename_i h2; exact ⟨valid_of h1, valid_of h2⟩
    · rename_i h2; exact absurd h h2
  · rename_i h1; exact absurd h h1
theorem c33 {one two : List (List Int)} (h1 : one.length ≤ 12) (hr1 : ∀ i, i < one.length → (one.getD i []).length ≤ 12) (h2 : two.length ≤ 12) (hr2 : ∀ i, i < two.length → (two.getD i []).length ≤ 12) :
    CallV vt1 33 [LL one, LL two] (.tup (if errM one two = 0 then [FF (mvd (sX one) (sA one) (sX two) (sA two)) (mvd (sY one) (sA one) (sY two) (sA two)), .int 0] else [zF, .int (errM one two)])) := by
  have k1 := c83 h1 hr1
  have k2 := c83 h2 hr2
  have w1 := c84 h1 hr1
  have w2 := c84 h2 hr2
  have fin : ∀ e : Int, e = errM one two → EvR vt1 (fun ih => bif !decide (e = 0) then
            some (DV.tup [DV.agg [DV.int 0, DV.int 0, DV.int 0, DV.int 0], DV.int e])
            else bindC (ih.call 84 [LL one]) fun r14 =>
            (bif isRes [{ ag := true, css := [CS.int, CS.int, CS.int] }] r14 then
            bindC (ih.call 84 [LL two]) fun r16 =>
            (bif isRes [{ ag := true, css := [CS.int, CS.int, CS.int] }] r16 then
            bindC (ih.call 85 [DV.int (w64 (w64 (asI (cellOf r16 0) * asI (cellOf r14 2)) - w64 (asI (cellOf r14 0) * asI (cellOf r16 2)))),
  DV.int (w64 (asI (cellOf r14 2) * asI (cellOf r16 2)))]) fun r18 =>
            (bif isRes [{ ag := true, css := [CS.int, CS.int] }] r18 then
            bindC (ih.call 85 [DV.int (w64 (w64 (asI (cellOf r16 1) * asI (cellOf r14 2)) - w64 (asI (cellOf r14 1) * asI (cellOf r16 2)))),
  DV.int (w64 (asI (cellOf r14 2) * asI (cellOf r16 2)))]) fun r20 =>
            (bif isRes [{ ag := true, css := [CS.int, CS.int] }] r20 then
            some (DV.tup
  [DV.agg
      [DV.int (asI (cellOf r18 0)), DV.int (asI (cellOf r18 1)), DV.int (asI (cellOf r20 0)),
        DV.int (asI (cellOf r20 1))],
    DV.int 0])
            else none)
            else none)
            else none)
            else none)) (.tup (if errM one two = 0 then [FF (mvd (sX one) (sA one) (sX two) (sA two)) (mvd (sY one) (sA one) (sY two) (sA two)), .int 0] else [zF, .int (errM one two)])) := by
    intro e he
    subst he
    by_cases h : errM one two = 0
    · rw [if_pos h, h]
      obtain ⟨V1, V2⟩ := errM_valid h
      obtain ⟨a1, a2, a3⟩ := (sums_valid V1).bd
      obtain ⟨b1, b2, b3⟩ := (sums_valid V2).bd
      rw [wim_valid V1] at w1
      rw [wim_valid V2] at w2
      have p1 := mulB b1 (show 0 ≤ sA one ∧ sA one ≤ 25500 by omega)
      have p2 := mulB a1 (show 0 ≤ sA two ∧ sA two ≤ 25500 by omega)
      have p3 := mulB b2 (show 0 ≤ sA one ∧ sA one ≤ 25500 by omega)
      have p4 := mulB a2 (show 0 ≤ sA two ∧ sA two ≤ 25500 by omega)
      have p5 := mulB (show 0 ≤ sA one ∧ sA one ≤ 25500 by omega) (show 0 ≤ sA two ∧ sA two ≤ 25500 by omega)
      have p6 : 0 < sA one * sA two := Int.mul_pos a3.1 b3.1
      refine EvR.no rfl (EvR.call w1 (EvR.yes rfl (EvR.call w2 (EvR.yes rfl ?_))))
      simp only [cellOf_agg, List.getD_cons_zero, List.getD_cons_succ, asI_int]
      rw [w64_id (n := sX two * sA one) (by omega) (by omega), w64_id (n := sX one * sA two) (by omega) (by omega), w64_id (n := sY two * sA one) (by omega) (by omega), w64_id (n := sY one * sA two) (by omega) (by omega), w64_id (n := sA one * sA two) (by omega) (by omega), w64_id (by omega) (by omega), w64_id (by omega) (by omega)]
      exact EvR.call (c85 (by omega) (by omega)) (EvR.yes rfl (EvR.call (c85 (by omega) (by omega)) (EvR.yes rfl (EvR.ret' rfl))))
    · rw [if_neg h]
      exact EvR.yes (by rw [decide_eq_false h]; rfl) (EvR.ret' rfl)
  refine CallV.by (fun ih => e33 ih _ _) ?_
  simp only [List.length_map]
  by_cases hl : one.length = two.length
  · refine EvR.yes (decide_eq_true (by omega)) (EvR.call (c86 one) (EvR.yes (isRes_int _) (EvR.call (c86 two) (EvR.yes (isRes_int _) (EvR.call k1 (EvR.yes (isRes_int _) (EvR.call k2 (EvR.yes (isRes_int _) (EvR.call (c88 _ _) (EvR.yes (isRes_int _) ?_))))))))))
    simp only [asI_int]
    refine EvR.call (c87 (l := [_, _, _]) (by simp)) (EvR.yes (isRes_int _) ?_)
    simp only [asI_int]
    refine fin _ ?_
    have e : (if decide ((wide one : Int) = (wide two : Int)) = true then (0 : Int) else 13) = if wide one = wide two then 0 else 13 := by
      by_cases hw : wide one = wide two
      · rw [if_pos hw, decide_eq_true (by omega)]; rfl
      · rw [if_neg hw, decide_eq_false (by omega)]; rfl
    show firstNZ [errI one, errI two, if decide ((wide one : Int) = (wide two : Int)) = true then 0 else 13] = _
    rw [e]; simp [errM, hl]
  · refine EvR.no (decide_eq_false (by omega)) (EvR.call k1 (EvR.yes (isRes_int _) (EvR.call k2 (EvR.yes (isRes_int _) (EvR.call (c88 _ _) (EvR.yes (isRes_int _) ?_))))))
    simp only [asI_int]
    refine EvR.call (c87 (l := [_, _, _]) (by simp)) (EvR.yes (isRes_int _) ?_)
    simp only [asI_int]
    refine fin _ ?_
    unfold errM
    congr 4
    simp [hl]
theorem c37 {one two : List (List Int)} (h1 : one.length ≤ 12) (hr1 : ∀ i, i < one.length → (one.getD i []).length ≤ 12) (h2 : two.length ≤ 12) (hr2 : ∀ i, i < two.length → (two.getD i []).length ≤ 12) :
    CallV vt1 37 [LL one, LL two] (.int (errM one two)) := by
  refine CallV.by (fun ih => e37 ih _ _) (EvR.call (c34 h1 hr1) (EvR.yes (isRes_int _) ?_))
  rw [asI_int]
  by_cases g1 : errI one = 0
  · refine EvR.no (by rw [decide_eq_true g1]; rfl) (EvR.call (c34 h2 hr2) (EvR.yes (isRes_int _) ?_))
    rw [asI_int]
    by_cases g2 : errI two = 0
    · refine EvR.no (by rw [decide_eq_true g2]; rfl) ?_
      have p1 := (valid_of g1).pos
      have p2 := (valid_of g2).pos
      rw [List.length_map, List.length_map]
      by_cases g3 : one.length = two.length
      · refine EvR.no (by rw [decide_eq_true (by omega)]; rfl) (EvR.yes (okR_LL (by omega) (by omega)) (EvR.yes (okR_LL (by omega) (by omega)) ?_))
        rw [getD_LL p1, getD_LL p2, asR_list, asR_list, List.length_map, List.length_map]
        by_cases g4 : wide one = wide two
        · have g4' : ((one.getD 0 []).length : Int) = (two.getD 0 []).length := by unfold wide at g4; omega
          exact EvR.no (by rw [decide_eq_true g4']; rfl) (EvR.ret' (by simp [errM, firstNZ, g1, g2, g3, g4]))
        · have g4' : ¬ ((one.getD 0 []).length : Int) = (two.getD 0 []).length := by unfold wide at g4; omega
          exact EvR.yes (by rw [decide_eq_false g4']; rfl) (EvR.ret' (by simp [errM, firstNZ, g1, g2, g3, g4]))
      · exact EvR.yes (by rw [decide_eq_false (by omega)]; rfl) (EvR.ret' (by simp [errM, firstNZ, g1, g2, g3]))
    · exact EvR.yes (by rw [decide_eq_false g2]; rfl) (EvR.ret' (by simp [errM, firstNZ, g1, g2]))
  · exact EvR.yes (by rw [decide_eq_false g1]; rfl) (EvR.ret' (by simp [errM, firstNZ, g1]))
theorem k54 {im : List (List Int)} (V : Valid im) : CallV vt1 54 [.int (sX im), .int (sA im)] (RW (Rat.divInt (sX im) (sA im))) ∧ CallV vt1 54 [.int (sY im), .int (sA im)] (RW (Rat.divInt (sY im) (sA im))) := by
  obtain ⟨a1, a2, a3⟩ := (sums_valid V).bd
  exact ⟨c54 (by omega) (by omega) (by omega) (by omega) (by omega), c54 (by omega) (by omega) (by omega) (by omega) (by omega)⟩
/-- The reference's Center. -/
theorem c36v {im : List (List Int)} (V : Valid im) : CallV vt1 36 [LL im] (CW (Rat.divInt (sX im) (sA im)) (Rat.divInt (sY im) (sA im))) := by
  have := V.len
  obtain ⟨k1, k2⟩ := k54 V
  refine c36 (by omega) (fun i hi => ?_) (by rw [wim_valid V]; exact k1) (by rw [wim_valid V]; exact k2)
  have := (V.rows _ (mem_getD (d := []) hi)).1
  omega
theorem rl_div {x y : Int} (hy : 0 < y) (h1 : x.natAbs ≤ 9223372036854775807) (h2 : y ≤ 9223372036854775807) : rl (Rat.divInt x y) ≤ 100000 := by
  have h := divInt_le (x := x) hy
  have := dl_small (n := (Rat.divInt x y).num) (by omega) (by omega)
  have := dl_small (n := ((Rat.divInt x y).den : Int)) (by omega) (by omega)
  unfold rl; omega
theorem mvd_bd {X A Y B : Int} (h : Ten 2550 A X) (k : Ten 2550 B Y) (ha : 0 < A) (hb : 0 < B) : (mvd X A Y B).num.natAbs ≤ 1000000000 ∧ (mvd X A Y B).den ≤ 1000000000 := by
  have f1 := Ten.far h k
  have f2 := Ten.far k h
  have p := mulB (show 0 ≤ A ∧ A ≤ 25500 by have := h.le; omega) (show 0 ≤ B ∧ B ≤ 25500 by have := k.le; omega)
  have p6 : 0 < A * B := Int.mul_pos ha hb
  have := divInt_le (x := Y * A - X * B) (y := A * B) p6
  unfold mvd
  omega
/-- The reference's Moved. -/
theorem c38 {one two : List (List Int)} (V1 : Valid one) (V2 : Valid two) : CallV vt1 38 [LL one, LL two] (FF (mvd (sX one) (sA one) (sX two) (sA two)) (mvd (sY one) (sA one) (sY two) (sA two))) := by
  have S1 := sums_valid V1
  have S2 := sums_valid V2
  obtain ⟨a1, a2, a3⟩ := S1.bd
  obtain ⟨b1, b2, b3⟩ := S2.bd
  have m1 := mvd_bd S1.x S2.x S1.pos S2.pos
  have m2 := mvd_bd S1.y S2.y S1.pos S2.pos
  have q1 := c65 (a := Rat.divInt (sX two) (sA two)) (b := Rat.divInt (sX one) (sA one)) (rl_div (by omega) (by omega) (by omega)) (rl_div (by omega) (by omega) (by omega))
  have q2 := c65 (a := Rat.divInt (sY two) (sA two)) (b := Rat.divInt (sY one) (sA one)) (rl_div (by omega) (by omega) (by omega)) (rl_div (by omega) (by omega) (by omega))
  rw [mvd_eq S1.pos S2.pos] at q1 q2
  exact CallV.by (fun ih => e38 ih _ _) (EvR.call (c36v V1) (EvR.yes rfl (EvR.call (c36v V2) (EvR.yes rfl (EvR.call q1 (EvR.yes rfl (EvR.call q2 (EvR.yes rfl (EvR.call (c35 m1.1 m1.2 m2.1 m2.2) (EvR.yes rfl (EvR.ret' rfl)))))))))))
theorem c35v {im : List (List Int)} (V : Valid im) : CallV vt1 35 [CW (Rat.divInt (sX im) (sA im)) (Rat.divInt (sY im) (sA im))] (FF (Rat.divInt (sX im) (sA im)) (Rat.divInt (sY im) (sA im))) := by
  obtain ⟨a1, a2, a3⟩ := (sums_valid V).bd
  have d1 := divInt_le (x := sX im) (y := sA im) (by omega)
  have d2 := divInt_le (x := sY im) (y := sA im) (by omega)
  exact c35 (by omega) (by omega) (by omega) (by omega)
theorem c29 : CallV vt1 29 [] (.bool true) := ⟨1, fun m hm => by
  obtain ⟨m', rfl⟩ : ∃ m', m = m' + 1 := ⟨m - 1, by omega⟩
  show callF vt1 (evV vt1 m') 29 [] = some (.bool true)
  kernel_rfl⟩
/-- SensorImages. -/
theorem c5 {one two : List (List Int)} (h1 : one.length ≤ 9223372036854775807) (h2 : two.length ≤ 9223372036854775807) : CallV vt1 5 [LL one, LL two] (.bool true) := by
  refine CallV.by (fun ih => e5 ih _ _) (EvR.call c29 (EvR.yes (isRes_bool _) (EvR.no rfl (EvR.call (c30 h1) (EvR.yes (isRes_bool _) ?_)))))
  rw [asB_bool]
  cases g1 : imgs one with
  | false => exact EvR.yes rfl EvR.ret
  | true =>
    refine EvR.no rfl (EvR.call (c30 h2) (EvR.yes (isRes_bool _) ?_))
    rw [asB_bool]
    cases g2 : imgs two with
    | false => exact EvR.yes rfl EvR.ret
    | true =>
      obtain ⟨a1, a2⟩ := imgs_rows g1
      obtain ⟨b1, b2⟩ := imgs_rows g2
      have k32 := c32 a1 a2
      have k32' := c32 b1 b2
      have k31 := c31 a1 a2
      have k33 := c33 a1 a2 b1 b2
      have k34 := c34 a1 a2
      have k37 := c37 a1 a2 b1 b2
      refine EvR.no rfl (EvR.call k32 (EvR.yes rfl (EvR.call k31 (EvR.yes (by split <;> rfl) (EvR.call k32 (EvR.yes rfl (EvR.call k32' (EvR.yes rfl (EvR.call k33 (EvR.yes (by split <;> rfl) (EvR.call k34 (EvR.yes rfl ?_))))))))))))
      by_cases e1 : errI one = 0
      · have V1 := valid_of e1
        rw [if_pos e1, e1]
        refine EvR.no rfl (EvR.no rfl (EvR.yes rfl (EvR.call (c36v V1) (EvR.yes rfl (EvR.call (c35v V1) (EvR.yes rfl (EvR.no (by simp [FF]) (EvR.call k37 (EvR.yes rfl ?_)))))))))
        by_cases e2 : errM one two = 0
        · rw [if_pos e2, e2]
          exact EvR.no rfl (EvR.yes rfl (EvR.call (c38 V1 (errM_valid e2).2) (EvR.yes rfl (EvR.ret' (by simp [FF])))))
        · rw [if_neg e2]
          exact EvR.yes (by simp [e2]) (EvR.yes (by simp) (EvR.ret' rfl))
      · rw [if_neg e1]
        have e2 : errM one two = errI one := by simp [errM, firstNZ, e1]
        rw [if_neg (by rw [e2]; exact e1)]
        have n0 : (!decide (errI one = 0)) = true := by rw [decide_eq_false e1]; rfl
        refine EvR.no (by simp) (EvR.yes n0 (EvR.no rfl (EvR.no (decide_eq_false e1) (EvR.call k37 (EvR.yes rfl ?_)))))
        rw [e2]
        exact EvR.yes n0 (EvR.yes (by simp) (EvR.ret' rfl))
end Go.Proofs
