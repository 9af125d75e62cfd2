/- ModalShapes of the given program answers true Part 7 of 10. -/
import Derived.Test.YteolnmnikcobcaaMs6
/- Contracts of wide numbers: quotients, the greatest common divisor. -/
namespace Go.Proofs
open Go Go.Sx Go.Vx
set_option maxRecDepth 100000
theorem W_zero : W 0 = .agg [.int 0, .list false false 1 []] := by unfold W; simp [digits_zero]
/-- WideFloor. -/
theorem c133 {a D : Int} (hD : 0 < D) (ha : dl a ≤ 300000) (dD : dl D ≤ 300000) : CallV vt1 133 [W a, W D] (W (a / D)) := by
  refine CallV.by (fun ih => e133 ih _ _ _ _) ?_
  have hl : (digits a.natAbs).length = dl a := rfl
  by_cases h0 : a = 0
  · subst h0
    refine EvR.yes (by simp) (EvR.ret' ?_)
    rw [Int.zero_ediv, W_zero]
  · refine EvR.no (by rcases sgn3 a with ⟨s, p⟩ | ⟨s, p⟩ | ⟨s, p⟩ <;> rw [s] <;> first | rfl | omega) (EvR.yes (by simp; omega) ?_)
    rw [ints_rep]
    simp only [List.length_map, Int.toNat_natCast]
    rw [w64_id (by omega) (by omega)]
    have hs : a.sign = 1 ∨ a.sign = -1 := by rcases sgn3 a with ⟨s, p⟩ | ⟨s, p⟩ | ⟨s, p⟩ <;> omega
    have := at133 hD dD (Dg_digits a.natAbs) (by omega) (s := a.sign) (z := 0) (sb := D.sign) hs (digits a.natAbs).length (List.replicate (digits a.natAbs).length 0) 0 (Nat.le_refl _) (by simp) (fun d hd => by rw [List.eq_of_mem_replicate hd]; omega) (by omega) hD (by rw [List.drop_length, List.drop_eq_nil_of_le (by simp)]; simp [val])
    rw [val_dig, Int.sign_mul_natAbs] at this
    rw [Int.toNat_zero, digits_zero] at this
    exact this
theorem at131 {z : Int} : ∀ (n x y : Nat), y ≤ n → dl x ≤ 300000 → dl y ≤ 300000 →
    AtV vt1 131 0 (tblL [(2, .ptr 0 0), (3, .ptr 1 0), (4, .ptr 2 0)]) [.box [.int (x : Int).sign, L (digits (x : Int).natAbs)], .box [.int (y : Int).sign, L (digits (y : Int).natAbs)], .box [.int z, .nils]] (W (Nat.gcd x y)) := by
  intro n
  induction n with
  | zero =>
    intro x y hn dx dy
    have : y = 0 := by omega
    subst this
    refine AtV.by (fun ih => e131_0 ih _ _ _ _ _) (EvR.call (c106 ((0 : Nat) : Int)) (EvR.yes (isRes_int _) (EvR.no (by simp) (EvR.ret' ?_))))
    rw [Nat.gcd_zero_right]; rfl
  | succ n ih =>
    intro x y hn dx dy
    refine AtV.by (fun ih => e131_0 ih _ _ _ _ _) (EvR.call (c106 (y : Int)) (EvR.yes (isRes_int _) ?_))
    by_cases h0 : y = 0
    · subst h0
      refine EvR.no (by simp) (EvR.ret' ?_)
      rw [Nat.gcd_zero_right]; rfl
    · have hy : (0 : Int) < (y : Int) := by omega
      have hm : (x : Int) - (x : Int) / (y : Int) * (y : Int) = ((x % y : Nat) : Int) := by
        rw [Int.mul_comm, Int.natCast_emod]
        have := Int.mul_ediv_add_emod (x : Int) (y : Int)
        omega
      have hq : (((x : Int) / (y : Int)).natAbs) ≤ (x : Int).natAbs := by
        rw [← Int.natCast_ediv, Int.natAbs_natCast, Int.natAbs_natCast]
        exact Nat.div_le_self x y
      have hqy : ((x : Int) / (y : Int) * (y : Int)).natAbs ≤ (x : Int).natAbs := by
        rw [← Int.natCast_ediv, ← Int.natCast_mul, Int.natAbs_natCast, Int.natAbs_natCast]
        exact Nat.div_mul_le_self x y
      have d1 := dl_mono hq
      have d2 := dl_mono hqy
      refine EvR.yes (by rw [asI_int, Int.sign_eq_one_of_pos hy]; rfl) (EvR.call (c133 hy dx dy) (EvR.yes (isRes_W' _) (EvR.call (c98 (a := (x : Int) / (y : Int)) (b := (y : Int)) (by omega) (by omega)) (EvR.yes (isRes_W' _) (EvR.call (c155 (a := (x : Int)) (b := (x : Int) / (y : Int) * (y : Int)) (by omega) (by omega)) (EvR.yes (isRes_W' _) ?_))))))
      rw [hm]
      have hlt : x % y < y := Nat.mod_lt _ (by omega)
      have := ih y (x % y) (by omega) dy (Nat.le_trans (dl_mono (b := (y : Int)) (by omega)) dy)
      have e : Nat.gcd y (x % y) = Nat.gcd x y := by rw [Nat.gcd_comm y, ← Nat.gcd_rec y x, Nat.gcd_comm]
      rw [e] at this
      exact this
/-- wideGcd. -/
theorem c131 {a b : Int} (ha : dl a ≤ 300000) (hb : dl b ≤ 300000) : CallV vt1 131 [W a, W b] (W (Int.gcd a b)) := by
  refine CallV.by (fun ih => e131 ih _ _ _ _) (EvR.call (c154 a) (EvR.yes (isRes_W' _) (EvR.call (c154 b) (EvR.yes (isRes_W' _) ?_))))
  exact at131 (z := 0) b.natAbs a.natAbs b.natAbs (Nat.le_refl _) (Nat.le_trans (dl_mono (b := a) (by omega)) ha) (Nat.le_trans (dl_mono (b := b) (by omega)) hb)
end Go.Proofs
/- Contracts of ratios. -/
namespace Go.Proofs
open Go Go.Sx Go.Vx
set_option maxRecDepth 100000
def P2 (x y : Int) : DV := .agg [.int x.sign, L (digits x.natAbs), .int y.sign, L (digits y.natAbs)]
/-- A ratio. -/
def RW (q : Rat) : DV := P2 q.num q.den
theorem isRes_P2 (x y : Int) : isRes [⟨true, [.int, .list 1, .int, .list 1]⟩] (P2 x y) = true := rfl
theorem isRes_RW (q : Rat) : isRes [⟨true, [.int, .list 1, .int, .list 1]⟩] (RW q) = true := rfl
/-- The quotient in lowest terms. -/
theorem RW_div {x y n d : Int} (hy : 0 < y) (h : (x = n ∧ y = d) ∨ (x = -n ∧ y = -d)) : P2 (x / (Int.gcd x y : Int)) (y / (Int.gcd x y : Int)) = RW (Rat.divInt n d) := by
  unfold RW
  rw [Rat.num_divInt, Rat.den_divInt]
  rcases h with ⟨rfl, rfl⟩ | ⟨hx, hy'⟩
  · rw [if_neg (by omega), Int.sign_eq_one_of_pos hy, Int.one_mul, Int.gcd_comm x y, Int.natCast_ediv]
    have : (y.natAbs : Int) = y := by omega
    rw [this]
  · subst hx
    have hd : d < 0 := by omega
    have e : Int.gcd (-n) y = Int.gcd d n := by rw [hy', Int.gcd_neg, Int.neg_gcd, Int.gcd_comm]
    rw [if_neg (by omega), Int.sign_eq_neg_one_of_neg hd, e, Int.natCast_ediv]
    have h1 : (d.natAbs : Int) = y := by omega
    have h2 : -1 * n = -n := by omega
    rw [h1, h2]
/-- RatioMake. -/
theorem c96 {n d : Int} (hd : d ≠ 0) (dn : dl n ≤ 300000) (dd : dl d ≤ 300000) : CallV vt1 96 [W n, W d] (RW (Rat.divInt n d)) := by
  refine CallV.by (fun ih => e96 ih _ _ _ _) (EvR.call (c106 d) (EvR.yes (isRes_int _) ?_))
  have c1 := c95 (n := 1) (by omega) (by omega)
  have d1 : dl 1 ≤ 3 := dl_small (by omega) (by omega)
  rcases sgn3 d with ⟨s, p⟩ | ⟨s, p⟩ | ⟨s, p⟩
  · refine EvR.no (by rw [s]; rfl) ?_
    have hg : 0 < (Int.gcd n d : Int) := by have := Int.gcd_pos_of_ne_zero_right n hd; omega
    have hgl : Int.gcd n d ≤ d.natAbs := Nat.le_of_dvd (by omega) (Int.gcd_dvd_natAbs_right n d)
    have dg : dl (Int.gcd n d : Int) ≤ 300000 := Nat.le_trans (dl_mono (b := d) (by omega)) dd
    refine EvR.call (c131 dn dd) (EvR.yes (isRes_W' _) (EvR.call c1 (EvR.yes (isRes_W' _) (EvR.call (c132 (a := (Int.gcd n d : Int)) (b := 1) (by omega) (by omega)) (EvR.yes (isRes_int _) (EvR.cond (fun h => ?_) (fun h => ?_)))))))
    · refine EvR.ret' ?_
      have h1 : (Int.gcd n d : Int) = 1 := by
        rcases sgn3 ((Int.gcd n d : Int) - 1) with ⟨t, q⟩ | ⟨t, q⟩ | ⟨t, q⟩ <;> first | omega | (rw [asI_int, t] at h; exact absurd h (by decide))
      rw [← RW_div p (.inl ⟨rfl, rfl⟩), h1, Int.ediv_one, Int.ediv_one]; rfl
    · refine EvR.call (c133 hg dn dg) (EvR.yes (isRes_W' _) (EvR.call (c133 hg dd dg) (EvR.yes (isRes_W' _) (EvR.ret' ?_))))
      rw [← RW_div p (.inl ⟨rfl, rfl⟩)]; rfl
  · exact absurd p hd
  · refine EvR.yes (by rw [s]; rfl) (EvR.call (c130 n) (EvR.yes (isRes_W' _) (EvR.call (c130 d) (EvR.yes (isRes_W' _) ?_))))
    have p' : 0 < -d := by omega
    have hg : 0 < (Int.gcd (-n) (-d) : Int) := by have := Int.gcd_pos_of_ne_zero_right (-n) (b := -d) (by omega); omega
    have hgl : Int.gcd (-n) (-d) ≤ (-d).natAbs := Nat.le_of_dvd (by omega) (Int.gcd_dvd_natAbs_right (-n) (-d))
    have dn' : dl (-n) ≤ 300000 := by rw [dl_neg]; exact dn
    have dd' : dl (-d) ≤ 300000 := by rw [dl_neg]; exact dd
    have dg : dl (Int.gcd (-n) (-d) : Int) ≤ 300000 := Nat.le_trans (dl_mono (b := -d) (by rw [Int.natAbs_natCast]; exact hgl)) dd'
    refine EvR.call (c131 dn' dd') (EvR.yes (isRes_W' _) (EvR.call c1 (EvR.yes (isRes_W' _) (EvR.call (c132 (a := (Int.gcd (-n) (-d) : Int)) (b := 1) (by omega) (by omega)) (EvR.yes (isRes_int _) (EvR.cond (fun h => ?_) (fun h => ?_)))))))
    · refine EvR.ret' ?_
      have h1 : (Int.gcd (-n) (-d) : Int) = 1 := by
        rcases sgn3 ((Int.gcd (-n) (-d) : Int) - 1) with ⟨t, q⟩ | ⟨t, q⟩ | ⟨t, q⟩ <;> first | omega | (rw [asI_int, t] at h; exact absurd h (by decide))
      rw [← RW_div p' (.inr ⟨rfl, rfl⟩), h1, Int.ediv_one, Int.ediv_one]; rfl
    · refine EvR.call (c133 hg dn' dg) (EvR.yes (isRes_W' _) (EvR.call (c133 hg dd' dg) (EvR.yes (isRes_W' _) (EvR.ret' ?_))))
      rw [← RW_div p' (.inr ⟨rfl, rfl⟩)]; rfl
theorem P2_num (q : Rat) : DV.agg [.int (asI (cellOf (RW q) 0)), .list false false 1 (asR (cellOf (RW q) 1)), .int (asI (cellOf (RW q) 2)), .list false false 1 (asR (cellOf (RW q) 3))] = RW q := rfl
/-- RatioOf. -/
theorem c54 {n d : Int} (hd : d ≠ 0) (n1 : -9223372036854775807 ≤ n) (n2 : n ≤ 9223372036854775807) (d1 : -9223372036854775807 ≤ d) (d2 : d ≤ 9223372036854775807) : CallV vt1 54 [.int n, .int d] (RW (Rat.divInt n d)) := by
  have := dl_small (n := n) (by omega) (by omega)
  have := dl_small (n := d) (by omega) (by omega)
  exact CallV.by (fun ih => e54 ih _ _) (EvR.call (c95 n1 n2) (EvR.yes (isRes_W' _) (EvR.call (c95 d1 d2) (EvR.yes (isRes_W' _) (EvR.call (c96 hd (by omega) (by omega)) (EvR.yes (isRes_RW _) (EvR.ret' (P2_num _))))))))
/-- The greater length of a ratio's parts. -/
def rl (q : Rat) : Nat := max (dl q.num) (dl q.den)
theorem den_ne (q : Rat) : (q.den : Int) ≠ 0 := by have := q.den_nz; omega
/-- RatioAdd. -/
theorem c53 {a b : Rat} (ha : rl a ≤ 100000) (hb : rl b ≤ 100000) : CallV vt1 53 [RW a, RW b] (RW (a + b)) := by
  unfold rl at ha hb
  have hs : a + b = Rat.divInt (a.num * b.den + b.num * a.den) (a.den * b.den) := by
    rw [← Rat.divInt_add_divInt _ _ (den_ne a) (den_ne b), Rat.num_divInt_den, Rat.num_divInt_den]
  have m1 := dl_mul a.num b.den
  have m2 := dl_mul b.num a.den
  have m3 := dl_mul a.den b.den
  have m4 := dl_add (a.num * b.den) (b.num * a.den)
  rw [hs]
  exact CallV.by (fun ih => e53 ih _ _ _ _ _ _ _ _) (EvR.call (c98 (a := a.num) (b := b.den) (by omega) (by omega)) (EvR.yes (isRes_W' _) (EvR.call (c98 (a := b.num) (b := a.den) (by omega) (by omega)) (EvR.yes (isRes_W' _) (EvR.call (c97 (a := a.num * b.den) (b := b.num * a.den) (by omega) (by omega)) (EvR.yes (isRes_W' _) (EvR.call (c98 (a := a.den) (b := b.den) (by omega) (by omega)) (EvR.yes (isRes_W' _) (EvR.call (c96 (n := a.num * b.den + b.num * a.den) (d := a.den * b.den) (Int.mul_ne_zero (den_ne a) (den_ne b)) (by omega) (by omega)) (EvR.yes (isRes_RW _) (EvR.ret' (P2_num _))))))))))))
end Go.Proofs
/- Contracts of ratios: the rest. -/
namespace Go.Proofs
open Go Go.Sx Go.Vx
set_option maxRecDepth 100000
theorem RW_int (n : Int) : RW (n : Rat) = P2 n 1 := rfl
/-- RatioInt. -/
theorem c52 {n : Int} (n1 : -9223372036854775807 ≤ n) (n2 : n ≤ 9223372036854775807) : CallV vt1 52 [.int n] (RW (n : Rat)) :=
  CallV.by (fun ih => e52 ih _) (EvR.call (c95 n1 n2) (EvR.yes (isRes_W' _) (EvR.call (c95 (n := 1) (by omega) (by omega)) (EvR.yes (isRes_W' _) (EvR.ret' rfl)))))
/-- RatioMul. -/
theorem c67 {a b : Rat} (ha : rl a ≤ 100000) (hb : rl b ≤ 100000) : CallV vt1 67 [RW a, RW b] (RW (a * b)) := by
  unfold rl at ha hb
  have hs : a * b = Rat.divInt (a.num * b.num) (a.den * b.den) := by
    rw [← Rat.divInt_mul_divInt, Rat.num_divInt_den, Rat.num_divInt_den]
  have m1 := dl_mul a.num b.num
  have m3 := dl_mul a.den b.den
  rw [hs]
  exact CallV.by (fun ih => e67 ih _ _ _ _ _ _ _ _) (EvR.call (c98 (a := a.num) (b := b.num) (by omega) (by omega)) (EvR.yes (isRes_W' _) (EvR.call (c98 (a := a.den) (b := b.den) (by omega) (by omega)) (EvR.yes (isRes_W' _) (EvR.call (c96 (n := a.num * b.num) (d := a.den * b.den) (Int.mul_ne_zero (den_ne a) (den_ne b)) (by omega) (by omega)) (EvR.yes (isRes_RW _) (EvR.ret' (P2_num _))))))))
/-- RatioNeg. -/
theorem c105 (a : Rat) : CallV vt1 105 [RW a] (RW (-a)) := by
  refine CallV.by (fun ih => e105 ih _ _ _ _) (EvR.call (c130 a.num) (EvR.yes (isRes_W' _) (EvR.ret' ?_)))
  rfl
theorem rl_neg (a : Rat) : rl (-a) = rl a := by
  show max (dl (-a.num)) (dl a.den) = max (dl a.num) (dl a.den)
  rw [dl_neg]
/-- RatioSub. -/
theorem c65 {a b : Rat} (ha : rl a ≤ 100000) (hb : rl b ≤ 100000) : CallV vt1 65 [RW a, RW b] (RW (a - b)) := by
  rw [Rat.sub_eq_add_neg]
  exact CallV.by (fun ih => e65 ih _ _ _ _ _ _ _ _) (EvR.call (c105 b) (EvR.yes (isRes_RW _) (EvR.call (c53 (a := a) (b := -b) ha (by rw [rl_neg]; exact hb)) (EvR.yes (isRes_RW _) (EvR.ret' (P2_num _))))))
/-- RatioDiv. -/
theorem c68 {a b : Rat} (h0 : b ≠ 0) (ha : rl a ≤ 100000) (hb : rl b ≤ 100000) : CallV vt1 68 [RW a, RW b] (RW (a / b)) := by
  unfold rl at ha hb
  have hn : b.num ≠ 0 := fun e => h0 (Rat.num_eq_zero.1 e)
  have hs : a / b = Rat.divInt (a.num * b.den) (a.den * b.num) := by
    have h1 : a = (a.num : Rat) / (a.den : Int) := by rw [← Rat.divInt_eq_div, Rat.num_divInt_den]
    have h2 : b = (b.num : Rat) / (b.den : Int) := by rw [← Rat.divInt_eq_div, Rat.num_divInt_den]
    rw [Rat.divInt_eq_div, Rat.intCast_mul, Rat.intCast_mul]
    have q1 : ((a.den : Int) : Rat) ≠ 0 := by intro e; exact den_ne a (Rat.intCast_eq_zero_iff.1 e)
    have q2 : ((b.den : Int) : Rat) ≠ 0 := by intro e; exact den_ne b (Rat.intCast_eq_zero_iff.1 e)
    have q3 : ((b.num : Int) : Rat) ≠ 0 := by intro e; exact hn (Rat.intCast_eq_zero_iff.1 e)
    generalize ((a.den : Int) : Rat) = x1 at *
    generalize ((b.den : Int) : Rat) = x2 at *
    generalize ((a.num : Int) : Rat) = y1 at *
    generalize ((b.num : Int) : Rat) = y2 at *
    rw [h1, h2]
    grind
  have m1 := dl_mul a.num b.den
  have m3 := dl_mul a.den b.num
  rw [hs]
  exact CallV.by (fun ih => e68 ih _ _ _ _ _ _ _ _) (EvR.call (c98 (a := a.num) (b := b.den) (by omega) (by omega)) (EvR.yes (isRes_W' _) (EvR.call (c98 (a := a.den) (b := b.num) (by omega) (by omega)) (EvR.yes (isRes_W' _) (EvR.call (c96 (n := a.num * b.den) (d := a.den * b.num) (Int.mul_ne_zero (den_ne a) hn) (by omega) (by omega)) (EvR.yes (isRes_RW _) (EvR.ret' (P2_num _))))))))
/-- RatioSign. -/
theorem c69 (a : Rat) : CallV vt1 69 [RW a] (.int a.num.sign) := CallV.by (fun ih => e69 ih _ _ _ _) (EvR.call (c106 a.num) (EvR.yes (isRes_int _) EvR.ret))
/-- RatioFloor. -/
theorem c103 {a : Rat} (ha : rl a ≤ 300000) : CallV vt1 103 [RW a] (W (a.num / a.den)) := by
  unfold rl at ha
  have hd : (0 : Int) < a.den := by have := a.den_nz; omega
  exact CallV.by (fun ih => e103 ih _ _ _ _) (EvR.call (c133 (a := a.num) hd (by omega) (by omega)) (EvR.yes (isRes_W' _) (EvR.ret' rfl)))
/-- RatioFrom. -/
theorem c28 {n d : Int} (hd : d ≠ 0) (n1 : -9223372036854775807 ≤ n) (n2 : n ≤ 9223372036854775807) (d1 : -9223372036854775807 ≤ d) (d2 : d ≤ 9223372036854775807) : CallV vt1 28 [.agg [.int n, .int d]] (RW (Rat.divInt n d)) :=
  CallV.by (fun ih => e28 ih _ _) (EvR.call (c54 hd n1 n2 d1 d2) (EvR.yes (isRes_RW _) (EvR.ret' (P2_num _))))
/-- Within. -/
theorem c50 (n lo hi : Int) : CallV vt1 50 [.int n, .int lo, .int hi] (.bool (decide (lo ≤ n ∧ n ≤ hi))) := by
  refine CallV.by (fun ih => e50 ih _ _ _) ?_
  by_cases h1 : lo ≤ n
  · exact EvR.yes (by simp [h1]) (EvR.ret' (by simp [h1]))
  · exact EvR.no (by simp [h1]) (EvR.ret' (by simp [h1]))
end Go.Proofs
/- Contracts of ModalFrames' small functions. -/
namespace Go.Proofs
open Go Go.Sx Go.Vx
set_option maxRecDepth 100000
theorem isRes_agLL (l m : List Int) : isRes [⟨true, [.list 1, .list 1]⟩] (.agg [L l, L m]) = true := rfl
theorem isRes_ii (a b : Int) : isRes [⟨false, [.int]⟩, ⟨false, [.int]⟩] (.tup [.int a, .int b]) = true := rfl
theorem c7 (a b : List Int) : CallV vt1 7 [.agg [LT a, LT b]] (.bool (decide (a.length ≤ 6 ∧ b.length ≤ 6))) := by
  refine CallV.by (fun ih => e7 ih _ _) ?_
  simp only [List.length_map]
  by_cases h : a.length ≤ 6
  · exact EvR.yes (by simp; omega) (EvR.ret' (by congr 1; apply decide_eq_decide.2; omega))
  · exact EvR.no (by simp; omega) (EvR.ret' (by congr 1; simp; omega))
theorem c17 {a : List Int} (h : a.length ≤ 1000000) : CallV vt1 17 [LT a] (L a) :=
  CallV.by (fun ih => e17 ih _) (EvR.yes (lenOk_ints (by simp; omega)) (EvR.ret' (by rw [List.nil_append])))
theorem c9 {a b : List Int} (h1 : a.length ≤ 1000000) (h2 : b.length ≤ 1000000) : CallV vt1 9 [.agg [LT a, LT b]] (.agg [L a, L b]) :=
  CallV.by (fun ih => e9 ih _ _) (EvR.call (c17 h1) (EvR.yes (isRes_L _) (EvR.call (c17 h2) (EvR.yes (isRes_L _) (EvR.ret' rfl)))))
theorem c45 (b : Bool) (e : Int) : CallV vt1 45 [.bool b, .int e] (.int (if b then 0 else e)) := by
  refine CallV.by (fun ih => e45 ih _ _) (EvR.cond (fun h => EvR.ret' (by simp [h])) (fun h => EvR.ret' (by simp [h])))
theorem c46 (n lo hi : Int) : CallV vt1 46 [.int n, .int lo, .int hi] (.bool (decide (lo ≤ n ∧ n ≤ hi))) := by
  refine CallV.by (fun ih => e46 ih _ _ _) ?_
  by_cases h1 : lo ≤ n
  · exact EvR.yes (by simp [h1]) (EvR.ret' (by simp [h1]))
  · exact EvR.no (by simp [h1]) (EvR.ret' (by simp [h1]))
/-- The first one that is not 0. -/
def firstNZ : List Int → Int
  | [] => 0
  | x :: l => if x = 0 then firstNZ l else x
theorem at44 {l : List Int} (hl : l.length ≤ 1000) : ∀ (n i : Nat), l.length = i + n → AtV vt1 44 0 (tblL [(5, LT l), (6, .int (l.length : Int)), (7, .int (i : Int))]) [] (.int (firstNZ (l.drop i)))
  | 0, i, h => AtV.by (fun ih => e44_0 ih _ _ _) (EvR.no (by simp; omega) (EvR.ret' (by rw [List.drop_eq_nil_of_le (by omega)]; rfl)))
  | n + 1, i, h => by
    have hd : l.drop i = l.getD i 0 :: l.drop (i + 1) := by
      rw [List.drop_eq_getElem_cons (by omega), List.getD_eq_getElem?_getD, List.getElem?_eq_getElem (by omega)]; rfl
    refine AtV.by (fun ih => e44_0 ih _ _ _) (EvR.yes (by simp; omega) (EvR.yes (okR_ok (by omega) (by omega)) ?_))
    rw [asI_ints, Int.toNat_natCast, hd, firstNZ]
    by_cases h0 : l.getD i 0 = 0
    · rw [if_pos h0, w64_id (by omega) (by omega)]
      exact EvR.no (by rw [h0]; rfl) (at44 hl n (i + 1) (by omega))
    · rw [if_neg h0]
      exact EvR.yes (by simp only [h0, decide_false, Bool.not_false]) (EvR.ret' rfl)
theorem c44 {l : List Int} (hl : l.length ≤ 1000) : CallV vt1 44 [LT l] (.int (firstNZ l)) := by
  refine CallV.by (fun ih => e44 ih _) ?_
  have := at44 hl l.length 0 (by omega)
  simp only [List.length_map]
  exact this
def badAt (a b : List Int) : Nat → Nat → Int × Int
  | 0, _ => (0, 0)
  | n + 1, i => if (1 ≤ a.getD i 0 ∧ a.getD i 0 ≤ 10) ∧ (1 ≤ b.getD i 0 ∧ b.getD i 0 ≤ 20) then badAt a b n (i + 1) else ((i : Int), 2)
def pairV (p : Int × Int) : DV := .tup [.int p.1, .int p.2]
/-- The error of a frame, with an index. -/
def chk (a b : List Int) : Int × Int := if a.length = 0 ∨ b.length ≠ a.length then (0, 10) else if 4 < a.length then (0, 8) else badAt a b a.length 0
theorem at8 {a b : List Int} (hl : b.length = a.length) (hn : a.length ≤ 1000) : ∀ (n i : Nat), a.length = i + n → AtV vt1 8 0 (tblL [(1, .ptr 0 0), (32, LT a), (33, .int (a.length : Int)), (34, .int (i : Int))]) [.box [LT a, LT b]] (pairV (badAt a b n i))
  | 0, i, h => AtV.by (fun ih => e8_0 ih _ _ _ _ _) (EvR.no (by simp; omega) (EvR.ret' rfl))
  | n + 1, i, h => by
    refine AtV.by (fun ih => e8_0 ih _ _ _ _ _) (EvR.yes (by simp; omega) (EvR.yes (okR_ok (by omega) (by omega)) ?_))
    rw [asI_ints, asI_ints, Int.toNat_natCast, w64_id (by omega) (by omega)]
    refine EvR.call (c46 _ _ _) (EvR.yes (isRes_bool _) ?_)
    simp only [badAt, asB_bool]
    by_cases h1 : 1 ≤ a.getD i 0 ∧ a.getD i 0 ≤ 10
    · refine EvR.no (by rw [decide_eq_true h1]; rfl) (EvR.yes (okR_ok (by omega) (by omega)) (EvR.call (c46 _ _ _) (EvR.yes (isRes_bool _) ?_)))
      simp only [asB_bool]
      by_cases h2 : 1 ≤ b.getD i 0 ∧ b.getD i 0 ≤ 20
      · rw [if_pos ⟨h1, h2⟩]
        exact EvR.no (by rw [decide_eq_true h2]; rfl) (at8 hl hn n (i + 1) (by omega))
      · rw [if_neg (fun h => h2 h.2)]
        exact EvR.yes (by rw [decide_eq_false h2]; rfl) (EvR.ret' rfl)
    · rw [if_neg (fun h => h1 h.1)]
      exact EvR.yes (by rw [decide_eq_false h1]; rfl) (EvR.ret' rfl)
/-- CheckFrame. -/
theorem c8 {a b : List Int} (h1 : a.length ≤ 1000) (h2 : b.length ≤ 1000) : CallV vt1 8 [.agg [LT a, LT b]] (pairV (chk a b)) := by
  have key : EvR vt1 (fun ih => bindC (ih.call 45 [DV.bool (decide (b.length = a.length ∧ a.length ≠ 0)), DV.int 10]) fun r1 =>
      (bif isRes [{ ag := false, css := [CS.int] }] r1 then
       bindC (ih.call 45 [DV.bool (decide ((a.length : Int) ≤ 4)), DV.int 8]) fun r3 =>
        (bif isRes [{ ag := false, css := [CS.int] }] r3 then
         bindC (ih.call 44 [DV.list true false 1 [DV.int (asI r1), DV.int (asI r3)]]) fun r5 =>
          (bif isRes [{ ag := false, css := [CS.int] }] r5 then
           (bif !decide (asI r5 = 0) then
            some (DV.tup [DV.int 0, DV.int (asI r5)])
           else ih.at_ 8 0 (tblL [(1, DV.ptr 0 0), (32, LT a), (33, DV.int (a.length : Int)), (34, DV.int 0)]) [.box [LT a, LT b]])
          else none)
        else none)
      else none)) (pairV (chk a b)) := by
    refine EvR.call (c45 _ _) (EvR.yes (isRes_int _) (EvR.call (c45 _ _) (EvR.yes (isRes_int _) ?_)))
    simp only [asI_int]
    refine EvR.call (c44 (l := [_, _]) (by simp)) (EvR.yes (isRes_int _) ?_)
    simp only [asI_int]
    by_cases g1 : b.length = a.length ∧ a.length ≠ 0
    · by_cases g2 : a.length ≤ 4
      · have hc : chk a b = badAt a b a.length 0 := by unfold chk; rw [if_neg (by omega), if_neg (by omega)]
        rw [hc]
        refine EvR.no ?_ (at8 g1.1 h1 a.length 0 (by omega))
        have : ((a.length : Int) ≤ 4) := by omega
        simp [g1, this, firstNZ]
      · have hc : chk a b = (0, 8) := by unfold chk; rw [if_neg (by omega), if_pos (by omega)]
        rw [hc]
        have : ¬ ((a.length : Int) ≤ 4) := by omega
        refine EvR.yes ?_ (EvR.ret' ?_) <;> simp [g1, this, firstNZ, pairV]
    · have hc : chk a b = (0, 10) := by unfold chk; rw [if_pos (by omega)]
      rw [hc, decide_eq_false g1]
      refine EvR.yes ?_ (EvR.ret' ?_) <;> simp [firstNZ, pairV]
  refine CallV.by (fun ih => e8 ih _ _) ?_
  simp only [List.length_map]
  by_cases g : a.length = 0
  · refine EvR.no (decide_eq_false (by omega)) ?_
    have e : decide (b.length = a.length ∧ a.length ≠ 0) = false := by simp [g]
    rw [e] at key
    exact key
  · refine EvR.yes (decide_eq_true (by omega)) ?_
    have e : decide (b.length = a.length ∧ a.length ≠ 0) = decide ((b.length : Int) = (a.length : Int)) := by apply decide_eq_decide.2; omega
    rw [e] at key
    exact key
theorem at12 {a b : List Int} (hl : b.length = a.length) (hn : a.length ≤ 1000) : ∀ (n i : Nat), a.length = i + n → AtV vt1 12 0 (tblL [(1, .ptr 0 0), (4, .int (i : Int))]) [.box [LT a, LT b]] (pairV (badAt a b n i))
  | 0, i, h => AtV.by (fun ih => e12_0 ih _ _ _) (EvR.no (by simp; omega) (EvR.ret' rfl))
  | n + 1, i, h => by
    refine AtV.by (fun ih => e12_0 ih _ _ _) (EvR.yes (by simp; omega) (EvR.yes (okR_ok (by omega) (by omega)) ?_))
    rw [asI_ints, asI_ints, Int.toNat_natCast, w64_id (by omega) (by omega)]
    refine EvR.call (c50 _ _ _) (EvR.yes (isRes_bool _) ?_)
    simp only [badAt, asB_bool]
    by_cases h1 : 1 ≤ a.getD i 0 ∧ a.getD i 0 ≤ 10
    · refine EvR.no (by rw [decide_eq_true h1]; rfl) (EvR.yes (okR_ok (by omega) (by omega)) (EvR.call (c50 _ _ _) (EvR.yes (isRes_bool _) ?_)))
      simp only [asB_bool]
      by_cases h2 : 1 ≤ b.getD i 0 ∧ b.getD i 0 ≤ 20
      · rw [if_pos ⟨h1, h2⟩]
        exact EvR.no (by rw [decide_eq_true h2]; rfl) (at12 hl hn n (i + 1) (by omega))
      · rw [if_neg (fun h => h2 h.2)]
        exact EvR.yes (by rw [decide_eq_false h2]; rfl) (EvR.ret' rfl)
    · rw [if_neg (fun h => h1 h.1)]
      exact EvR.yes (by rw [decide_eq_false h1]; rfl) (EvR.ret' rfl)
/-- The reference's CheckFrame. -/
theorem c12 {a b : List Int} (h1 : a.length ≤ 1000) (h2 : b.length ≤ 1000) : CallV vt1 12 [.agg [LT a, LT b]] (pairV (chk a b)) := by
  refine CallV.by (fun ih => e12 ih _ _) ?_
  simp only [List.length_map]
  unfold chk
  by_cases g : a.length = 0
  · rw [if_pos (.inl g)]
    exact EvR.yes (decide_eq_true (by omega)) EvR.ret
  · refine EvR.no (decide_eq_false (by omega)) ?_
    by_cases g2 : b.length = a.length
    · rw [if_neg (by omega)]
      refine EvR.no (by simp; omega) ?_
      by_cases g3 : 4 < a.length
      · rw [if_pos g3]
        exact EvR.yes (by simp; omega) EvR.ret
      · rw [if_neg g3]
        exact EvR.no (by simp; omega) (at12 g2 h1 a.length 0 (by omega))
    · rw [if_pos (.inr g2)]
      exact EvR.yes (by simp; omega) EvR.ret
end Go.Proofs
/- Contracts of ModalFrames: polynomials. -/
namespace Go.Proofs
open Go Go.Sx Go.Vx
set_option maxRecDepth 100000
theorem inR_ok {l : List Int} {i : Int} (h0 : 0 ≤ i) (h : i < l.length) : inR i (ints l) = true := by rw [inR_ints]; simp [h0, h]
/-- A storey's springs. -/
def own (b : List Int) (i : Nat) : Int := if i + 1 < b.length then w64 (b.getD i 0 + b.getD (i + 1) 0) else b.getD i 0
def upd1 (o m : Int) (now : List Int) : Nat → Nat → List Int → List Int
  | 0, _, r => r
  | n + 1, p, r => upd1 o m now n (p + 1) ((r.set p (w64 (r.getD p 0 + w64 (o * now.getD p 0)))).set (p + 1) (w64 ((r.set p (w64 (r.getD p 0 + w64 (o * now.getD p 0)))).getD (p + 1) 0 - w64 (m * now.getD p 0))))
def upd2 (s : Int) (before : List Int) : Nat → Nat → List Int → List Int
  | 0, _, r => r
  | n + 1, p, r => upd2 s before n (p + 1) (r.set p (w64 (r.getD p 0 - w64 (w64 (s * s) * before.getD p 0))))
theorem upd1_len (o m : Int) (now : List Int) : ∀ n p r, (upd1 o m now n p r).length = r.length
  | 0, _, _ => rfl
  | n + 1, p, r => by rw [upd1, upd1_len]; simp
theorem upd2_len (s : Int) (before : List Int) : ∀ n p r, (upd2 s before n p r).length = r.length
  | 0, _, _ => rfl
  | n + 1, p, r => by rw [upd2, upd2_len]; simp
def stepP (a b : List Int) (i : Nat) (now before : List Int) : List Int :=
  let r := upd1 (own b i) (a.getD i 0) now now.length 0 (List.replicate (now.length + 1) 0)
  if 0 < i then upd2 (b.getD i 0) before before.length 0 r else r
def polyR (a b : List Int) : Nat → Nat → List Int → List Int → List Int
  | 0, _, now, _ => now
  | n + 1, i, now, before => polyR a b n (i + 1) (stepP a b i now before) now
theorem c51 {b : List Int} (a : List Int) (hb : b.length ≤ 1000) {i : Nat} (h : i < b.length) : CallV vt1 51 [.agg [LT a, LT b], .int (i : Int)] (.int (own b i)) := by
  refine CallV.by (fun ih => e51 ih _ _ _) ?_
  have hw : w64 ((i : Int) + 1) = ((i + 1 : Nat) : Int) := by rw [w64_id (by omega) (by omega)]; omega
  rw [hw, asI_ints, asI_ints, Int.toNat_natCast, Int.toNat_natCast]
  simp only [List.length_map]
  unfold own
  by_cases g : i + 1 < b.length
  · rw [if_pos g]
    exact EvR.yes (decide_eq_true (by omega)) (EvR.yes (okR_ok (by omega) (by omega)) (EvR.yes (okR_ok (by omega) (by omega)) EvR.ret))
  · rw [if_neg g]
    exact EvR.no (decide_eq_false (by omega)) (EvR.yes (okR_ok (by omega) (by omega)) EvR.ret)
theorem c48 {b : List Int} (a : List Int) (hb : b.length ≤ 1000) {i : Nat} : CallV vt1 48 [.agg [LT a, LT b], .int (i : Int)] (.int (if i + 1 < b.length then b.getD (i + 1) 0 else 0)) ∨ 1000 ≤ i := by
  by_cases hi : 1000 ≤ i
  · exact .inr hi
  refine .inl (CallV.by (fun ih => e48 ih _ _ _) ?_)
  have hw : w64 ((i : Int) + 1) = ((i + 1 : Nat) : Int) := by rw [w64_id (by omega) (by omega)]; omega
  rw [hw, asI_ints, Int.toNat_natCast]
  simp only [List.length_map]
  by_cases g : i + 1 < b.length
  · rw [if_pos g]
    exact EvR.yes (decide_eq_true (by omega)) (EvR.yes (okR_ok (by omega) (by omega)) EvR.ret)
  · rw [if_neg g]
    exact EvR.no (decide_eq_false (by omega)) EvR.ret
end Go.Proofs
/- Contracts of ModalFrames: the reference's polynomial. -/
namespace Go.Proofs
open Go Go.Sx Go.Vx
set_option maxRecDepth 100000
theorem isRow_ok {l : List Int} {i : Nat} (h : i < l.length) : isRow ⟨false, [.int]⟩ ((ints l).getD i .undef) = true := isRow_ints l i h
section
variable {a b now before : List Int} {i : Nat} {v : DV} (hab : b.length = a.length) (hn : a.length ≤ 1000) (hib : i < a.length) (hnow : now.length ≤ 2000) (hbef : before.length ≤ now.length)
include hab hn hib hnow hbef
theorem at14_2 (hi : 0 < i) {r' : List Int}
    (hk : AtV vt1 14 0 (tblL [(1, .ptr 0 0), (3, .own 1), (4, .own 2), (5, .int ((i + 1 : Nat) : Int))]) [.box [LT a, LT b], .row false 1 (ints r'), .row false 1 (ints now)] v) :
    ∀ (n p : Nat) (r : List Int), before.length = p + n → before.length ≤ r.length → upd2 (b.getD i 0) before n p r = r' →
      AtV vt1 14 2 (tblL [(1, .ptr 0 0), (3, .own 1), (4, .own 2), (5, .int (i : Int)), (6, .own 3), (8, .int (p : Int))]) [.box [LT a, LT b], .row false 1 (ints now), .row false 1 (ints before), .row false 1 (ints r)] v
  | 0, p, r, h1, h2, h3 => by
    refine AtV.by (fun ih => e14_2 ih _ _ _ _ _ _ _) (EvR.no (decide_eq_false (by simp; omega)) ?_)
    have hw : w64 ((i : Int) + 1) = ((i + 1 : Nat) : Int) := by rw [w64_id (by omega) (by omega)]; omega
    rw [hw]
    rw [upd2] at h3
    subst h3
    exact hk
  | n + 1, p, r, h1, h2, h3 => by
    have hw : w64 ((p : Int) + 1) = ((p + 1 : Nat) : Int) := by rw [w64_id (by omega) (by omega)]; omega
    refine AtV.by (fun ih => e14_2 ih _ _ _ _ _ _ _) (EvR.yes (decide_eq_true (by simp; omega)) (EvR.yes (decide_eq_true (by omega)) (EvR.yes (inR_ok (by omega) (by omega)) (EvR.yes (isRow_ok (by rw [Int.toNat_natCast]; omega)) (EvR.yes (okR_ok (by omega) (by omega)) (EvR.yes (okR_ok (by omega) (by omega)) (EvR.yes (inR_ok (by omega) (by omega)) (EvR.yes (isRow_ok (by rw [Int.toNat_natCast]; omega)) (EvR.yes (inR_ok (by omega) (by omega)) ?_)))))))))
    rw [asI_ints, asI_ints, asI_ints, Int.toNat_natCast, Int.toNat_natCast, hw, ints_set]
    rw [upd2] at h3
    exact at14_2 hi hk n (p + 1) _ (by omega) (by simpa using h2) h3
omit hbef in
theorem at14_1 {r' : List Int}
    (hk : AtV vt1 14 2 (tblL [(1, .ptr 0 0), (3, .own 1), (4, .own 2), (5, .int (i : Int)), (6, .own 3), (8, .int 0)]) [.box [LT a, LT b], .row false 1 (ints now), .row false 1 (ints before), .row false 1 (ints r')] v) :
    ∀ (n p : Nat) (r : List Int), now.length = p + n → r.length = now.length + 1 → upd1 (own b i) (a.getD i 0) now n p r = r' →
      AtV vt1 14 1 (tblL [(1, .ptr 0 0), (3, .own 1), (4, .own 2), (5, .int (i : Int)), (6, .own 3), (7, .int (p : Int))]) [.box [LT a, LT b], .row false 1 (ints now), .row false 1 (ints before), .row false 1 (ints r)] v
  | 0, p, r, h1, h2, h3 => by
    refine AtV.by (fun ih => e14_1 ih _ _ _ _ _ _ _) (EvR.no (decide_eq_false (by simp; omega)) ?_)
    rw [upd1] at h3
    subst h3
    exact hk
  | n + 1, p, r, h1, h2, h3 => by
    have hw : w64 ((p : Int) + 1) = ((p + 1 : Nat) : Int) := by rw [w64_id (by omega) (by omega)]; omega
    refine AtV.by (fun ih => e14_1 ih _ _ _ _ _ _ _) (EvR.yes (decide_eq_true (by simp; omega)) (EvR.yes (inR_ok (by omega) (by omega)) (EvR.yes (isRow_ok (by rw [Int.toNat_natCast]; omega)) (EvR.call (c51 a (by omega) (by omega)) (EvR.yes (isRes_int _) ?_)))))
    rw [asI_ints, asI_ints, asI_ints, Int.toNat_natCast, Int.toNat_natCast, hw, ints_set, asI_ints, Int.toNat_natCast, ints_set]
    rw [asI_int]
    rw [upd1] at h3
    refine (EvR.yes (inR_ok (by omega) (by omega)) (EvR.yes (isRow_ok (by omega)) (EvR.yes (inR_ok (by omega) (by omega)) (EvR.yes (inR_ok (by omega) (by simp; omega)) (EvR.yes (isRow_ok (by simp; omega)) (EvR.yes (okR_ok (by omega) (by omega)) (EvR.yes (inR_ok (by omega) (by omega)) (EvR.yes (isRow_ok (by omega)) (EvR.yes (inR_ok (by omega) (by simp; omega)) ?_)))))))))
    exact at14_1 hk n (p + 1) _ (by omega) (by simpa using h2) h3
end
end Go.Proofs
/- Contracts of ModalFrames: the reference's polynomial, outer loop. -/
namespace Go.Proofs
open Go Go.Sx Go.Vx
set_option maxRecDepth 100000
theorem stepP_len (a b : List Int) (i : Nat) (now before : List Int) : (stepP a b i now before).length = now.length + 1 := by
  unfold stepP
  simp only []
  split <;> simp [upd2_len, upd1_len]
theorem at14 {a b : List Int} (hab : b.length = a.length) (hn : a.length ≤ 1000) : ∀ (n i : Nat) (now before : List Int), a.length = i + n → now.length = i + 1 → before.length ≤ now.length →
    AtV vt1 14 0 (tblL [(1, .ptr 0 0), (3, .own 1), (4, .own 2), (5, .int (i : Int))]) [.box [LT a, LT b], .row false 1 (ints now), .row false 1 (ints before)] (L (polyR a b n i now before))
  | 0, i, now, before, h1, h2, h3 => AtV.by (fun ih => e14_0 ih _ _ _ _ _) (EvR.no (decide_eq_false (by simp; omega)) (EvR.ret' rfl))
  | n + 1, i, now, before, h1, h2, h3 => by
    have hnx := at14 hab hn n (i + 1) (stepP a b i now before) now (by omega) (by rw [stepP_len]; omega) (by rw [stepP_len]; omega)
    have hw : w64 (((ints now).length : Int) + 1) = ((now.length + 1 : Nat) : Int) := by rw [List.length_map, w64_id (by omega) (by omega)]; omega
    refine AtV.by (fun ih => e14_0 ih _ _ _ _ _) (EvR.yes (decide_eq_true (by simp; omega)) ?_)
    rw [hw]
    refine EvR.yes (by simp; omega) ?_
    rw [Int.toNat_natCast, ints_rep]
    refine at14_1 (before := before) hab hn (by omega) (by omega) (r' := upd1 (own b i) (a.getD i 0) now now.length 0 (List.replicate (now.length + 1) 0)) ?_ now.length 0 _ (by omega) (by simp) rfl
    rw [polyR]
    by_cases hi : 0 < i
    · refine at14_2 hab hn (by omega) (by omega) h3 hi (r' := stepP a b i now before) hnx before.length 0 _ (by omega) (by rw [upd1_len]; simp; omega) ?_
      unfold stepP
      simp only []
      rw [if_pos hi]
    · have e : stepP a b i now before = upd1 (own b i) (a.getD i 0) now now.length 0 (List.replicate (now.length + 1) 0) := by
        unfold stepP
        simp only []
        rw [if_neg hi]
      have hwi : w64 ((i : Int) + 1) = ((i + 1 : Nat) : Int) := by rw [w64_id (by omega) (by omega)]; omega
      rw [e] at hnx ⊢
      refine AtV.by (fun ih => e14_2 ih _ _ _ _ _ _ _) (EvR.cond (fun _ => EvR.no (decide_eq_false (by omega)) ?_) (fun _ => ?_))
      · rw [hwi]; exact hnx
      · rw [hwi]; exact hnx
/-- The reference's polynomial. -/
theorem c14 {a b : List Int} (hab : b.length = a.length) (hn : a.length ≤ 1000) : CallV vt1 14 [.agg [LT a, LT b]] (L (polyR a b a.length 0 [1] [0])) :=
  CallV.by (fun ih => e14 ih _ _) (at14 hab hn a.length 0 [1] [0] (by omega) rfl (by simp))
end Go.Proofs
/- Contracts of ModalFrames: the program's polynomial. -/
namespace Go.Proofs
open Go Go.Sx Go.Vx
set_option maxRecDepth 100000
section
variable {a b now before : List Int} {i : Nat} {v : DV} (hab : b.length = a.length) (hn : a.length ≤ 999) (hib : i < a.length) (hnow : now.length ≤ 2000) (hbef : before.length ≤ now.length)
include hab hn hib hnow hbef
theorem at10_2 {r' : List Int}
    (hk : AtV vt1 10 0 (tblL [(4, .ptr 0 0), (6, .own 1), (7, .own 2), (26, L b), (27, .int (a.length : Int)), (28, .int ((i + 1 : Nat) : Int))]) [.box [L a, L b], .row false 1 (ints now), .row false 1 (ints r')] v) :
    ∀ (n p : Nat) (r : List Int), before.length = p + n → before.length ≤ r.length → upd2 (b.getD i 0) before n p r = r' →
      AtV vt1 10 2 (tblL [(4, .ptr 0 0), (7, .own 1), (9, .int (b.getD i 0)), (10, .own 2), (26, L b), (27, .int (a.length : Int)), (28, .int (i : Int)), (74, .own 3), (75, .int (before.length : Int)), (76, .int (p : Int))]) [.box [L a, L b], .row false 1 (ints now), .row false 1 (ints r), .row false 1 (ints before)] v
  | 0, p, r, h1, h2, h3 => by
    refine AtV.by (fun ih => e10_2 ih _ _ _ _ _ _ _ _ _ _ _) (EvR.no (decide_eq_false (by omega)) ?_)
    have hw : w64 ((i : Int) + 1) = ((i + 1 : Nat) : Int) := by rw [w64_id (by omega) (by omega)]; omega
    rw [hw]
    rw [upd2] at h3
    subst h3
    exact hk
  | n + 1, p, r, h1, h2, h3 => by
    have hw : w64 ((p : Int) + 1) = ((p + 1 : Nat) : Int) := by rw [w64_id (by omega) (by omega)]; omega
    refine AtV.by (fun ih => e10_2 ih _ _ _ _ _ _ _ _ _ _ _) (EvR.yes (decide_eq_true (by omega)) (EvR.yes (inR_ok (by omega) (by omega)) (EvR.yes (isRow_ok (by rw [Int.toNat_natCast]; omega)) (EvR.yes (inR_ok (by omega) (by omega)) (EvR.yes (isRow_ok (by rw [Int.toNat_natCast]; omega)) (EvR.yes (inR_ok (by omega) (by omega)) ?_))))))
    rw [asI_ints, asI_ints, Int.toNat_natCast, hw, ints_set]
    rw [upd2] at h3
    exact at10_2 hk n (p + 1) _ (by omega) (by simpa using h2) h3
omit hbef in
theorem at10_1 {r' : List Int} (hs : 0 ≤ b.getD i 0 ∧ b.getD i 0 ≤ 1000)
    (hk : 0 < i → AtV vt1 10 2 (tblL [(4, .ptr 0 0), (7, .own 1), (9, .int (b.getD i 0)), (10, .own 2), (26, L b), (27, .int (a.length : Int)), (28, .int (i : Int)), (74, .own 3), (75, .int (before.length : Int)), (76, .int 0)]) [.box [L a, L b], .row false 1 (ints now), .row false 1 (ints r'), .row false 1 (ints before)] v)
    (hk0 : ¬ 0 < i → AtV vt1 10 0 (tblL [(4, .ptr 0 0), (6, .own 1), (7, .own 2), (26, L b), (27, .int (a.length : Int)), (28, .int ((i + 1 : Nat) : Int))]) [.box [L a, L b], .row false 1 (ints now), .row false 1 (ints r')] v) :
    ∀ (n p : Nat) (r : List Int), now.length = p + n → r.length = now.length + 1 → upd1 (own b i) (a.getD i 0) now n p r = r' →
      AtV vt1 10 1 (tblL [(4, .ptr 0 0), (6, .own 1), (7, .own 2), (8, .int (i : Int)), (9, .int (b.getD i 0)), (10, .own 3), (26, L b), (27, .int (a.length : Int)), (28, .int (i : Int)), (37, .own 2), (38, .int (now.length : Int)), (39, .int (p : Int))]) [.box [L a, L b], .row false 1 (ints before), .row false 1 (ints now), .row false 1 (ints r)] v
  | 0, p, r, h1, h2, h3 => by
    have hw : w64 ((i : Int) + 1) = ((i + 1 : Nat) : Int) := by rw [w64_id (by omega) (by omega)]; omega
    rw [upd1] at h3
    subst h3
    refine AtV.by (fun ih => e10_1 ih _ _ _ _ _ _ _ _ _ _ _ _) (EvR.no (decide_eq_false (by omega)) (EvR.cond (fun g => ?_) (fun g => ?_)))
    · have := hk (by have := of_decide_eq_true g; omega)
      rw [List.length_map]
      exact this
    · have := hk0 (by have := of_decide_eq_false g; omega)
      rw [hw]
      exact this
  | n + 1, p, r, h1, h2, h3 => by
    have hw : w64 ((p : Int) + 1) = ((p + 1 : Nat) : Int) := by rw [w64_id (by omega) (by omega)]; omega
    have ho : w64 (b.getD i 0 + (if i + 1 < b.length then b.getD (i + 1) 0 else 0)) = own b i := by
      unfold own
      split
      · rfl
      · rw [Int.add_zero, w64_id (by omega) (by omega)]
    have c := (c48 (b := b) a (by omega) (i := i)).resolve_right (by omega)
    refine AtV.by (fun ih => e10_1 ih _ _ _ _ _ _ _ _ _ _ _ _) (EvR.yes (decide_eq_true (by omega)) (EvR.yes (inR_ok (by omega) (by omega)) (EvR.yes (isRow_ok (by rw [Int.toNat_natCast]; omega)) (EvR.yes (inR_ok (by omega) (by omega)) (EvR.yes (isRow_ok (by rw [Int.toNat_natCast]; omega)) (EvR.call c (EvR.yes (isRes_int _) ?_)))))))
    rw [asI_ints, asI_ints, asI_ints, Int.toNat_natCast, Int.toNat_natCast, hw, asI_int, ho, ints_set, asI_ints, Int.toNat_natCast, ints_set]
    rw [upd1] at h3
    refine (EvR.yes (inR_ok (by omega) (by omega)) (EvR.yes (inR_ok (by omega) (by simp; omega)) (EvR.yes (isRow_ok (by simp; omega)) (EvR.yes (okR_ok (by omega) (by omega)) (EvR.yes (inR_ok (by omega) (by simp; omega)) ?_)))))
    exact at10_1 hs hk hk0 n (p + 1) _ (by omega) (by simpa using h2) h3
end
end Go.Proofs
/- Contracts of ModalFrames: the program's polynomial, whole. -/
namespace Go.Proofs
open Go Go.Sx Go.Vx
set_option maxRecDepth 100000
theorem badAt_ok {a b : List Int} : ∀ {n i : Nat}, (badAt a b n i).2 = 0 → ∀ j, i ≤ j → j < i + n → (1 ≤ a.getD j 0 ∧ a.getD j 0 ≤ 10) ∧ (1 ≤ b.getD j 0 ∧ b.getD j 0 ≤ 20)
  | 0, i, _, j, h1, h2 => by omega
  | n + 1, i, h, j, h1, h2 => by
    rw [badAt] at h
    split at h
    · rename_i g
      by_cases e : j = i
      · subst e; exact g
      · exact badAt_ok h j (by omega) (by omega)
    · simp at h
theorem chk_ok {a b : List Int} (h : (chk a b).2 = 0) : 0 < a.length ∧ b.length = a.length ∧ a.length ≤ 4 ∧ ∀ j, j < a.length → (1 ≤ a.getD j 0 ∧ a.getD j 0 ≤ 10) ∧ (1 ≤ b.getD j 0 ∧ b.getD j 0 ≤ 20) := by
  unfold chk at h
  split at h
  · simp at h
  · split at h
    · simp at h
    · exact ⟨by omega, by omega, by omega, fun j hj => badAt_ok h j (by omega) (by omega)⟩
theorem c47 {a b : List Int} (h1 : a.length ≤ 1000) (h2 : b.length ≤ 1000) : CallV vt1 47 [.agg [L a, L b]] (.tup [.agg [L a, L b], .int (chk a b).2]) :=
  CallV.by (fun ih => e47 ih _ _) (EvR.call (c8 h1 h2) (EvR.yes (isRes_ii _ _) EvR.ret))
theorem at10 {a b : List Int} (hab : b.length = a.length) (hn : a.length ≤ 999) (hs : ∀ j, j < a.length → 0 ≤ b.getD j 0 ∧ b.getD j 0 ≤ 1000) : ∀ (n i : Nat) (now before : List Int), a.length = i + n → now.length = i + 1 → before.length ≤ now.length →
    AtV vt1 10 0 (tblL [(4, .ptr 0 0), (6, .own 1), (7, .own 2), (26, L b), (27, .int (a.length : Int)), (28, .int (i : Int))]) [.box [L a, L b], .row false 1 (ints before), .row false 1 (ints now)] (.tup [L (polyR a b n i now before), .int 0])
  | 0, i, now, before, h1, h2, h3 => AtV.by (fun ih => e10_0 ih _ _ _ _ _ _ _) (EvR.no (decide_eq_false (by omega)) (EvR.ret' rfl))
  | n + 1, i, now, before, h1, h2, h3 => by
    have hnx := at10 hab hn hs n (i + 1) (stepP a b i now before) now (by omega) (by rw [stepP_len]; omega) (by rw [stepP_len]; omega)
    have hw : w64 (((ints now).length : Int) + 1) = ((now.length + 1 : Nat) : Int) := by rw [List.length_map, w64_id (by omega) (by omega)]; omega
    refine AtV.by (fun ih => e10_0 ih _ _ _ _ _ _ _) (EvR.yes (decide_eq_true (by omega)) (EvR.yes (okR_ok (by omega) (by omega)) ?_))
    rw [hw]
    refine EvR.yes (by simp; omega) ?_
    rw [Int.toNat_natCast, ints_rep, asI_ints, List.length_map, Int.toNat_natCast]
    rw [polyR]
    refine at10_1 (before := before) hab hn (by omega) (by omega) (r' := upd1 (own b i) (a.getD i 0) now now.length 0 (List.replicate (now.length + 1) 0)) (hs i (by omega)) (fun hi => ?_) (fun hi => ?_) now.length 0 _ (by omega) (by simp) rfl
    · refine at10_2 hab hn (by omega) (by omega) h3 (r' := stepP a b i now before) hnx before.length 0 _ (by omega) (by rw [upd1_len]; simp; omega) ?_
      unfold stepP
      simp only []
      rw [if_pos hi]
    · have e : stepP a b i now before = upd1 (own b i) (a.getD i 0) now now.length 0 (List.replicate (now.length + 1) 0) := by
        unfold stepP
        simp only []
        rw [if_neg hi]
      rw [e] at hnx
      rw [e]
      exact hnx
/-- PolynomialOf. -/
theorem c10 {a b : List Int} (h1 : a.length ≤ 1000) (h2 : b.length ≤ 1000) : CallV vt1 10 [.agg [L a, L b]] (.tup (if (chk a b).2 = 0 then [L (polyR a b a.length 0 [1] [0]), .int 0] else [L [], .int (chk a b).2])) := by
  refine CallV.by (fun ih => e10 ih _ _) (EvR.call (c47 h1 h2) (EvR.yes rfl ?_))
  by_cases h : (chk a b).2 = 0
  · rw [if_pos h]
    obtain ⟨q1, q2, q3, q4⟩ := chk_ok h
    refine EvR.no (by simp [h]) ?_
    have := at10 q2 (by omega) (fun j hj => by have := (q4 j hj).2; omega) a.length 0 [1] [0] (by omega) rfl (by simp)
    rw [← q2] at this
    simp only [tupL_tup, List.getD_cons_zero, cellOf_agg, List.getD_cons_succ, asR_list, List.length_map]
    rw [← q2]
    exact this
  · rw [if_neg h]
    exact EvR.yes (by simp [h]) EvR.ret
end Go.Proofs
/- Contracts: Ints. -/
namespace Go.Proofs
open Go Go.Sx Go.Vx
set_option maxRecDepth 100000
theorem at13 {l m : List Int} (hl : l.length = m.length) (hn : l.length ≤ 1000000) : ∀ (n i : Nat), l.length = i + n → AtV vt1 13 0 (tblL [(0, LT l), (1, LT m), (5, .int (i : Int))]) [] (.bool (decide (l.drop i = m.drop i)))
  | 0, i, h => AtV.by (fun ih => e13_0 ih _ _ _) (EvR.no (decide_eq_false (by simp; omega)) (EvR.ret' (by rw [List.drop_eq_nil_of_le (by omega), List.drop_eq_nil_of_le (by omega)]; rfl)))
  | n + 1, i, h => by
    have hd : ∀ k : List Int, i < k.length → k.drop i = k.getD i 0 :: k.drop (i + 1) := fun k hk => by
      rw [List.drop_eq_getElem_cons hk, List.getD_eq_getElem?_getD, List.getElem?_eq_getElem hk]; rfl
    refine AtV.by (fun ih => e13_0 ih _ _ _) (EvR.yes (decide_eq_true (by simp; omega)) (EvR.yes (okR_ok (by omega) (by omega)) (EvR.yes (okR_ok (by omega) (by omega)) ?_)))
    rw [asI_ints, asI_ints, Int.toNat_natCast, w64_id (by omega) (by omega), hd l (by omega), hd m (by omega)]
    by_cases g : l.getD i 0 = m.getD i 0
    · refine EvR.no (by rw [decide_eq_true g]; rfl) ?_
      have := at13 hl hn n (i + 1) (by omega)
      rw [g]
      simp only [List.cons.injEq, true_and]
      exact this
    · refine EvR.yes (by rw [decide_eq_false g]; rfl) (EvR.ret' ?_)
      have : ¬ (l.getD i 0 :: l.drop (i + 1) = m.getD i 0 :: m.drop (i + 1)) := fun e => g (by injection e)
      rw [decide_eq_false this]
/-- Ints. -/
theorem c13 {l m : List Int} (hn : l.length ≤ 1000000) : CallV vt1 13 [LT l, LT m] (.bool (decide (l = m))) := by
  refine CallV.by (fun ih => e13 ih _ _) ?_
  simp only [List.length_map]
  by_cases h : l.length = m.length
  · have := at13 h hn l.length 0 (by omega)
    rw [List.drop_zero, List.drop_zero] at this
    exact EvR.no (by rw [decide_eq_true (by omega)]; rfl) this
  · refine EvR.yes (by rw [decide_eq_false (by omega)]; rfl) (EvR.ret' ?_)
    have : ¬ l = m := fun e => h (by rw [e])
    rw [decide_eq_false this]
end Go.Proofs
/- Contracts of ModalFrames: divisor, fraction. -/
namespace Go.Proofs
open Go Go.Sx Go.Vx
set_option maxRecDepth 100000
theorem at94_1 {l : List Int} {len i : Int} {v : DV} {G : Nat} (hi : 0 ≤ i ∧ i ≤ 1000000)
    (hk : ∀ g : Int, g.natAbs = G → AtV vt1 94 0 (tblL [(3, .int g), (6, LT l), (7, .int len), (8, .int (i + 1))]) [] v) :
    ∀ (n : Nat) (x y : Int), y.natAbs ≤ n → Int.gcd x y = G →
      AtV vt1 94 1 (tblL [(3, .int x), (5, .int y), (6, LT l), (7, .int len), (8, .int i)]) [] v := by
  intro n
  induction n with
  | zero =>
    intro x y hy hg
    have : y = 0 := by omega
    subst this
    refine AtV.by (fun ih => e94_1 ih _ _ _ _ _) (EvR.no (by simp) ?_)
    rw [w64_id (by omega) (by omega)]
    exact hk x (by rw [Int.gcd_zero_right] at hg; exact hg)
  | succ n ih =>
    intro x y hy hg
    by_cases h0 : y = 0
    · subst h0
      refine AtV.by (fun ih => e94_1 ih _ _ _ _ _) (EvR.no (by simp) ?_)
      rw [w64_id (by omega) (by omega)]
      exact hk x (by rw [Int.gcd_zero_right] at hg; exact hg)
    · refine AtV.by (fun ih => e94_1 ih _ _ _ _ _) (EvR.yes (by rw [decide_eq_false h0]; rfl) (EvR.no (decide_eq_false h0) ?_))
      have hm : (x.tmod y).natAbs = x.natAbs % y.natAbs := Int.natAbs_tmod x y
      have hlt : x.natAbs % y.natAbs < y.natAbs := Nat.mod_lt _ (by omega)
      refine ih y (x.tmod y) (by omega) ?_
      rw [← hg]
      show Nat.gcd y.natAbs (x.tmod y).natAbs = Nat.gcd x.natAbs y.natAbs
      rw [hm, Nat.gcd_comm y.natAbs, ← Nat.gcd_rec, Nat.gcd_comm]
/-- divisor of two numbers. -/
theorem c94 {x y : Int} (hx : -1000000000000000 ≤ x ∧ x ≤ 1000000000000000) : CallV vt1 94 [LT [x, y]] (.int (Int.gcd x y : Nat)) ∨ y.natAbs > 1000000000000000 := by
  by_cases hy : y.natAbs > 1000000000000000
  · exact .inr hy
  refine .inl (CallV.by (fun ih => e94 ih _) ?_)
  have hgb : Int.gcd x y ≤ 1000000000000000 := by
    by_cases h0 : x = 0
    · subst h0; rw [Int.gcd_zero_left]; omega
    · have := Nat.le_of_dvd (by omega) (Int.gcd_dvd_natAbs_left x y)
      omega
  have fin : ∀ g : Int, g.natAbs = Int.gcd x y → AtV vt1 94 0 (tblL [(3, .int g), (6, LT [x, y]), (7, .int 2), (8, .int (1 + 1))]) [] (.int (Int.gcd x y : Nat)) := by
    intro g hg
    refine AtV.by (fun ih => e94_0 ih _ _ _ _) (EvR.no (by rfl) (EvR.ret' ?_))
    rw [w64_id (by omega) (by omega)]
    congr 1
    omega
  have mid : ∀ g : Int, g.natAbs = x.natAbs → AtV vt1 94 0 (tblL [(3, .int g), (6, LT [x, y]), (7, .int 2), (8, .int (0 + 1))]) [] (.int (Int.gcd x y : Nat)) := by
    intro g hg
    refine AtV.by (fun ih => e94_0 ih _ _ _ _) (EvR.yes (by rfl) (EvR.yes (okR_ok (by omega) (by simp)) ?_))
    refine at94_1 (i := 1) (G := Int.gcd x y) (by omega) fin y.natAbs g y (Nat.le_refl _) ?_
    show Nat.gcd g.natAbs y.natAbs = Nat.gcd x.natAbs y.natAbs
    rw [hg]
  refine AtV.by (fun ih => e94_0 ih _ _ _ _) (EvR.yes (by rfl) (EvR.yes (okR_ok (l := [x, y]) (by omega) (by simp)) ?_))
  refine at94_1 (i := 0) (G := x.natAbs) (by omega) mid x.natAbs 0 x (Nat.le_refl _) ?_
  rw [Int.gcd_zero_left]
end Go.Proofs
/- Contracts of ModalFrames: fraction, WideInt, RatioFrac. -/
namespace Go.Proofs
open Go Go.Sx Go.Vx
set_option maxRecDepth 100000
/-- A fraction of ints. -/
def FR (q : Rat) : DV := .agg [.int q.num, .int (q.den : Int)]
theorem divInt_parts {x y : Int} (hy : 0 < y) : (Rat.divInt x y).num = x / (Int.gcd x y : Int) ∧ ((Rat.divInt x y).den : Int) = y / (Int.gcd x y : Int) := by
  rw [Rat.num_divInt, Rat.den_divInt, if_neg (by omega), Int.sign_eq_one_of_pos hy, Int.one_mul, Int.gcd_comm, Int.natCast_ediv]
  refine ⟨rfl, ?_⟩
  have : (y.natAbs : Int) = y := by omega
  rw [this]
theorem c49 {x y : Int} (hx : -1000000000000000 ≤ x ∧ x ≤ 1000000000000000) (hy : 0 < y ∧ y ≤ 1000000000000000) : CallV vt1 49 [.int x, .int y] (FR (Rat.divInt x y)) := by
  have c := (c94 (x := x) (y := y) hx).resolve_right (by omega)
  have hg : 0 < (Int.gcd x y : Int) := by have := Int.gcd_pos_of_ne_zero_right x (b := y) (by omega); omega
  have hgl : Int.gcd x y ≤ y.natAbs := Nat.le_of_dvd (by omega) (Int.gcd_dvd_natAbs_right x y)
  obtain ⟨e1, e2⟩ := divInt_parts (x := x) hy.1
  refine CallV.by (fun ih => e49 ih _ _) (EvR.call c (EvR.yes (isRes_int _) (EvR.no (decide_eq_false (by rw [asI_int]; omega)) (EvR.no (decide_eq_false (by rw [asI_int]; omega)) (EvR.ret' ?_)))))
  unfold FR
  rw [e1, e2, asI_int]
  have d1 : (Int.gcd x y : Int) ∣ x := Int.gcd_dvd_left x y
  have d2 : (Int.gcd x y : Int) ∣ y := Int.gcd_dvd_right x y
  rw [Int.tdiv_eq_ediv_of_dvd d1, Int.tdiv_eq_ediv_of_dvd d2]
  generalize hG : (Int.gcd x y : Int) = g at *
  have b1 : (x / g).natAbs ≤ x.natAbs := by
    obtain ⟨k, rfl⟩ := d1
    rw [Int.mul_ediv_cancel_left _ (by omega), Int.natAbs_mul]
    exact Nat.le_mul_of_pos_left _ (by omega)
  have b2 : (y / g).natAbs ≤ y.natAbs := by
    obtain ⟨k, rfl⟩ := d2
    rw [Int.mul_ediv_cancel_left _ (by omega), Int.natAbs_mul]
    exact Nat.le_mul_of_pos_left _ (by omega)
  rw [w64_id (by omega) (by omega), w64_id (by omega) (by omega)]
end Go.Proofs
/- Contracts of SensorImages: small functions. -/
namespace Go.Proofs
open Go Go.Sx Go.Vx
set_option maxRecDepth 100000
theorem c88 (b : Bool) (e : Int) : CallV vt1 88 [.bool b, .int e] (.int (if b then 0 else e)) := by
  refine CallV.by (fun ih => e88 ih _ _) (EvR.cond (fun h => EvR.ret' (by simp [h])) (fun h => EvR.ret' (by simp [h])))
theorem c114 (n lo hi : Int) : CallV vt1 114 [.int n, .int lo, .int hi] (.bool (decide (lo ≤ n ∧ n ≤ hi))) := by
  refine CallV.by (fun ih => e114 ih _ _ _) ?_
  by_cases h1 : lo ≤ n
  · exact EvR.yes (by simp [h1]) (EvR.ret' (by simp [h1]))
  · exact EvR.no (by simp [h1]) (EvR.ret' (by simp [h1]))
theorem at87 {l : List Int} (hl : l.length ≤ 1000) : ∀ (n i : Nat), l.length = i + n → AtV vt1 87 0 (tblL [(5, LT l), (6, .int (l.length : Int)), (7, .int (i : Int))]) [] (.int (firstNZ (l.drop i)))
  | 0, i, h => AtV.by (fun ih => e87_0 ih _ _ _) (EvR.no (by simp; omega) (EvR.ret' (by rw [List.drop_eq_nil_of_le (by omega)]; rfl)))
  | n + 1, i, h => by
    have hd : l.drop i = l.getD i 0 :: l.drop (i + 1) := by
      rw [List.drop_eq_getElem_cons (by omega), List.getD_eq_getElem?_getD, List.getElem?_eq_getElem (by omega)]; rfl
    refine AtV.by (fun ih => e87_0 ih _ _ _) (EvR.yes (by simp; omega) (EvR.yes (okR_ok (by omega) (by omega)) ?_))
    rw [asI_ints, Int.toNat_natCast, hd, firstNZ]
    by_cases h0 : l.getD i 0 = 0
    · rw [if_pos h0, w64_id (by omega) (by omega)]
      exact EvR.no (by rw [h0]; rfl) (at87 hl n (i + 1) (by omega))
    · rw [if_neg h0]
      exact EvR.yes (by simp only [h0, decide_false, Bool.not_false]) (EvR.ret' rfl)
theorem c87 {l : List Int} (hl : l.length ≤ 1000) : CallV vt1 87 [LT l] (.int (firstNZ l)) := by
  refine CallV.by (fun ih => e87 ih _) ?_
  have := at87 hl l.length 0 (by omega)
  simp only [List.length_map]
  exact this
theorem at110_1 {l : List Int} {len i : Int} {v : DV} {G : Nat} (hi : 0 ≤ i ∧ i ≤ 1000000)
    (hk : ∀ g : Int, g.natAbs = G → AtV vt1 110 0 (tblL [(3, .int g), (6, LT l), (7, .int len), (8, .int (i + 1))]) [] v) :
    ∀ (n : Nat) (x y : Int), y.natAbs ≤ n → Int.gcd x y = G →
      AtV vt1 110 1 (tblL [(3, .int x), (5, .int y), (6, LT l), (7, .int len), (8, .int i)]) [] v := by
  intro n
  induction n with
  | zero =>
    intro x y hy hg
    have : y = 0 := by omega
    subst this
    refine AtV.by (fun ih => e110_1 ih _ _ _ _ _) (EvR.no (by simp) ?_)
    rw [w64_id (by omega) (by omega)]
    exact hk x (by rw [Int.gcd_zero_right] at hg; exact hg)
  | succ n ih =>
    intro x y hy hg
    by_cases h0 : y = 0
    · subst h0
      refine AtV.by (fun ih => e110_1 ih _ _ _ _ _) (EvR.no (by simp) ?_)
      rw [w64_id (by omega) (by omega)]
      exact hk x (by rw [Int.gcd_zero_right] at hg; exact hg)
    · refine AtV.by (fun ih => e110_1 ih _ _ _ _ _) (EvR.yes (by rw [decide_eq_false h0]; rfl) (EvR.no (decide_eq_false h0) ?_))
      have hm : (x.tmod y).natAbs = x.natAbs % y.natAbs := Int.natAbs_tmod x y
      have hlt : x.natAbs % y.natAbs < y.natAbs := Nat.mod_lt _ (by omega)
      refine ih y (x.tmod y) (by omega) ?_
      rw [← hg]
      show Nat.gcd y.natAbs (x.tmod y).natAbs = Nat.gcd x.natAbs y.natAbs
      rw [hm, Nat.gcd_comm y.natAbs, ← Nat.gcd_rec, Nat.gcd_comm]
theorem c110 {x y : Int} (hx : -1000000000000000 ≤ x ∧ x ≤ 1000000000000000) : CallV vt1 110 [LT [x, y]] (.int (Int.gcd x y : Nat)) ∨ y.natAbs > 1000000000000000 := by
  by_cases hy : y.natAbs > 1000000000000000
  · exact .inr hy
  refine .inl (CallV.by (fun ih => e110 ih _) ?_)
  have hgb : Int.gcd x y ≤ 1000000000000000 := by
    by_cases h0 : x = 0
    · subst h0; rw [Int.gcd_zero_left]; omega
    · have := Nat.le_of_dvd (by omega) (Int.gcd_dvd_natAbs_left x y)
      omega
  have fin : ∀ g : Int, g.natAbs = Int.gcd x y → AtV vt1 110 0 (tblL [(3, .int g), (6, LT [x, y]), (7, .int 2), (8, .int (1 + 1))]) [] (.int (Int.gcd x y : Nat)) := by
    intro g hg
    refine AtV.by (fun ih => e110_0 ih _ _ _ _) (EvR.no (by rfl) (EvR.ret' ?_))
    rw [w64_id (by omega) (by omega)]
    congr 1
    omega
  have mid : ∀ g : Int, g.natAbs = x.natAbs → AtV vt1 110 0 (tblL [(3, .int g), (6, LT [x, y]), (7, .int 2), (8, .int (0 + 1))]) [] (.int (Int.gcd x y : Nat)) := by
    intro g hg
    refine AtV.by (fun ih => e110_0 ih _ _ _ _) (EvR.yes (by rfl) (EvR.yes (okR_ok (by omega) (by simp)) ?_))
    refine at110_1 (i := 1) (G := Int.gcd x y) (by omega) fin y.natAbs g y (Nat.le_refl _) ?_
    show Nat.gcd g.natAbs y.natAbs = Nat.gcd x.natAbs y.natAbs
    rw [hg]
  refine AtV.by (fun ih => e110_0 ih _ _ _ _) (EvR.yes (by rfl) (EvR.yes (okR_ok (l := [x, y]) (by omega) (by simp)) ?_))
  refine at110_1 (i := 0) (G := x.natAbs) (by omega) mid x.natAbs 0 x (Nat.le_refl _) ?_
  rw [Int.gcd_zero_left]
theorem c85 {x y : Int} (hx : -1000000000000000 ≤ x ∧ x ≤ 1000000000000000) (hy : 0 < y ∧ y ≤ 1000000000000000) : CallV vt1 85 [.int x, .int y] (FR (Rat.divInt x y)) := by
  have c := (c110 (x := x) (y := y) hx).resolve_right (by omega)
  have hg : 0 < (Int.gcd x y : Int) := by have := Int.gcd_pos_of_ne_zero_right x (b := y) (by omega); omega
  have hgl : Int.gcd x y ≤ y.natAbs := Nat.le_of_dvd (by omega) (Int.gcd_dvd_natAbs_right x y)
  obtain ⟨e1, e2⟩ := divInt_parts (x := x) hy.1
  refine CallV.by (fun ih => e85 ih _ _) (EvR.call c (EvR.yes (isRes_int _) (EvR.no (decide_eq_false (by rw [asI_int]; omega)) (EvR.no (decide_eq_false (by rw [asI_int]; omega)) (EvR.ret' ?_)))))
  unfold FR
  rw [e1, e2, asI_int]
  have d1 : (Int.gcd x y : Int) ∣ x := Int.gcd_dvd_left x y
  have d2 : (Int.gcd x y : Int) ∣ y := Int.gcd_dvd_right x y
  rw [Int.tdiv_eq_ediv_of_dvd d1, Int.tdiv_eq_ediv_of_dvd d2]
  generalize hG : (Int.gcd x y : Int) = g at *
  have b1 : (x / g).natAbs ≤ x.natAbs := by
    obtain ⟨k, rfl⟩ := d1
    rw [Int.mul_ediv_cancel_left _ (by omega), Int.natAbs_mul]
    exact Nat.le_mul_of_pos_left _ (by omega)
  have b2 : (y / g).natAbs ≤ y.natAbs := by
    obtain ⟨k, rfl⟩ := d2
    rw [Int.mul_ediv_cancel_left _ (by omega), Int.natAbs_mul]
    exact Nat.le_mul_of_pos_left _ (by omega)
  rw [w64_id (by omega) (by omega), w64_id (by omega) (by omega)]
end Go.Proofs
/- Contracts of SensorImages: errors of images. -/
namespace Go.Proofs
open Go Go.Sx Go.Vx
set_option maxRecDepth 100000
/-- Lists of lists as they are handed to a call. -/
abbrev LL (im : List (List Int)) : DV := .list true false 1 (im.map L)
abbrev LLf (im : List (List Int)) : DV := .list false false 1 (im.map L)
theorem getD_LL {im : List (List Int)} {i : Nat} (h : i < im.length) : (im.map L).getD i DV.undef = L (im.getD i []) := by
  simp [List.getD_eq_getElem?_getD, h]
theorem okR_LL {im : List (List Int)} {i : Int} (h0 : 0 ≤ i) (h : i < im.length) : okR (im.map L) i ⟨false, [.list 1]⟩ = true := by
  unfold okR inR
  have h1 : i.toNat < im.length := by omega
  rw [getD_LL h1]
  simp [h0, h]
  rfl
theorem dropI {α : Type} (d : α) {l : List α} {i : Nat} (h : i < l.length) : l.drop i = l.getD i d :: l.drop (i + 1) := by
  rw [List.drop_eq_getElem_cons h, List.getD_eq_getElem?_getD, List.getElem?_eq_getElem h]; rfl
/-- Where the first one is, or -1. -/
def idxF (p : Nat → Bool) : Nat → Nat → Int
  | 0, _ => -1
  | n + 1, i => if p i then (i : Int) else idxF p n (i + 1)
theorem idxF_any {α : Type} (p : α → Bool) (d : α) (l : List α) : ∀ (n i : Nat), l.length = i + n → decide (0 ≤ idxF (fun j => p (l.getD j d)) n i) = (l.drop i).any p
  | 0, i, h => by rw [List.drop_eq_nil_of_le (by omega)]; rfl
  | n + 1, i, h => by
    rw [dropI d (by omega), List.any_cons, idxF]
    cases hp : p (l.getD i d) with
    | true => simp
    | false =>
      simp only [Bool.false_eq_true, if_false, Bool.false_or]
      exact idxF_any p d l n (i + 1) (by omega)
theorem wnat {i : Nat} (h : i < 9223372036854775807) : w64 ((i : Int) + 1) = ((i + 1 : Nat) : Int) := by rw [w64_id (by omega) (by omega)]; omega
/-- images. -/
def imgs (im : List (List Int)) : Bool := im.all (fun r => decide (r.length ≤ 12)) && decide (im.length ≤ 12)
theorem at30 {im : List (List Int)} (hl : im.length ≤ 9223372036854775807) : ∀ (n i : Nat), im.length = i + n → AtV vt1 30 0 (tblL [(0, LL im), (3, .int (i : Int))]) [] (.bool ((im.drop i).all (fun r => decide (r.length ≤ 12)) && decide (im.length ≤ 12)))
  | 0, i, h => AtV.by (fun ih => e30_0 ih _ _) (EvR.no (decide_eq_false (by simp; omega)) (EvR.ret' (by
      rw [List.drop_eq_nil_of_le (by omega), List.all_nil, Bool.true_and]; congr 1; exact decide_eq_decide.2 (by rw [List.length_map]; omega))))
  | n + 1, i, h => by
    refine AtV.by (fun ih => e30_0 ih _ _) (EvR.yes (decide_eq_true (by simp; omega)) (EvR.yes (okR_LL (by omega) (by omega)) ?_))
    rw [Int.toNat_natCast, getD_LL (by omega), dropI [] (by omega), List.all_cons, wnat (by omega)]
    simp only [asR_list, List.length_map]
    by_cases h1 : (im.getD i []).length ≤ 12
    · refine EvR.no (decide_eq_false (by omega)) ?_
      rw [decide_eq_true h1, Bool.true_and]
      exact at30 hl n (i + 1) (by omega)
    · refine EvR.yes (decide_eq_true (by omega)) (EvR.ret' ?_)
      rw [decide_eq_false h1]; simp
theorem c30 {im : List (List Int)} (hl : im.length ≤ 9223372036854775807) : CallV vt1 30 [LL im] (.bool (imgs im)) :=
  CallV.by (fun ih => e30 ih _) (at30 hl im.length 0 (by omega))
theorem imgs_rows {im : List (List Int)} (h : imgs im = true) : im.length ≤ 12 ∧ ∀ i, i < im.length → (im.getD i []).length ≤ 12 := by
  unfold imgs at h
  simp only [Bool.and_eq_true, List.all_eq_true, decide_eq_true_eq] at h
  refine ⟨h.2, fun i hi => h.1 _ ?_⟩
  rw [List.getD_eq_getElem?_getD, List.getElem?_eq_getElem hi]
  exact List.getElem_mem hi
/-- CopyLists. -/
theorem at32 {im : List (List Int)} (h12 : im.length ≤ 12) (hr : ∀ i, i < im.length → (im.getD i []).length ≤ 12) : ∀ (n i : Nat), im.length = i + n → AtV vt1 32 0 (tblL [(0, LL im), (3, .own 0), (4, .int (i : Int))]) [.row true 1 ((im.take i).map L)] (LLf im)
  | 0, i, h => AtV.by (fun ih => e32_0_1 ih _ _ _) (EvR.no (decide_eq_false (by simp; omega)) (EvR.ret' (by rw [List.take_of_length_le (by omega)])))
  | n + 1, i, h => by
    refine AtV.by (fun ih => e32_0_1 ih _ _ _) (EvR.yes (decide_eq_true (by simp; omega)) (EvR.yes (okR_LL (by omega) (by omega)) ?_))
    rw [Int.toNat_natCast, getD_LL (by omega), wnat (by omega)]
    have := hr i (by omega)
    refine EvR.call (c17 (a := im.getD i []) (by omega)) (EvR.yes (isRes_L _) (EvR.yes (by unfold lenOk; simp; omega) ?_))
    have e : (im.take i).map L ++ [DV.list false false 1 (asR (L (im.getD i [])))] = (im.take (i + 1)).map L := by
      rw [List.take_add_one, List.map_append, List.getElem?_eq_getElem (by omega), List.getD_eq_getElem?_getD, List.getElem?_eq_getElem (by omega)]; rfl
    rw [e]
    exact at32 h12 hr n (i + 1) (by omega)
theorem c32 {im : List (List Int)} (h12 : im.length ≤ 12) (hr : ∀ i, i < im.length → (im.getD i []).length ≤ 12) : CallV vt1 32 [LL im] (LLf im) := by
  refine CallV.by (fun ih => e32 ih _) ?_
  by_cases h0 : im.length = 0
  · have : im = [] := List.eq_nil_of_length_eq_zero h0
    subst this
    exact AtV.by (fun ih => e32_0 ih _ _) (EvR.no (by rfl) (EvR.ret' rfl))
  · refine AtV.by (fun ih => e32_0 ih _ _) (EvR.yes (decide_eq_true (by simp; omega)) (EvR.yes (okR_LL (by omega) (by omega)) ?_))
    have hz := getD_LL (im := im) (i := 0) (by omega)
    rw [show (0 : Int).toNat = 0 from rfl, hz]
    have := hr 0 (by omega)
    refine EvR.call (c17 (a := im.getD 0 []) (by omega)) (EvR.yes (isRes_L _) ?_)
    have e : [DV.list false false 1 (asR (L (im.getD 0 [])))] = (im.take 1).map L := by
      rw [List.take_add_one, List.map_append, List.getElem?_eq_getElem (by omega), List.getD_eq_getElem?_getD, List.getElem?_eq_getElem (by omega)]; rfl
    rw [e]
    exact at32 h12 hr (im.length - 1) 1 (by omega)
/-- samplesOf. -/
def wide (im : List (List Int)) : Nat := (im.getD 0 []).length
theorem wide_nil : wide [] = 0 := rfl
theorem c86 (im : List (List Int)) : CallV vt1 86 [LL im] (.int (wide im)) := by
  refine CallV.by (fun ih => e86 ih _) ?_
  by_cases h0 : im.length = 0
  · have : im = [] := List.eq_nil_of_length_eq_zero h0
    subst this
    exact EvR.yes (by rfl) (EvR.ret' rfl)
  · refine EvR.no (decide_eq_false (by rw [List.length_map]; omega)) (EvR.yes (okR_LL (by omega) (by omega)) (EvR.ret' ?_))
    show DV.int ((asR ((im.map L).getD 0 DV.undef)).length : Int) = _
    rw [getD_LL (by omega), asR_list, List.length_map]; rfl
theorem c122 (r : List Int) (x : Int) : CallV vt1 122 [LT r, .fbp true [.int x] 0] (.bool (!decide ((r.length : Int) = x))) :=
  CallV.by (fun ih => e122 ih _ _) (EvR.ret' (by rw [List.length_map]))
theorem at150 {im : List (List Int)} (h12 : im.length ≤ 12) (x : Int) : ∀ (n i : Nat), im.length = i + n → AtV vt1 150 0 (tblL [(0, LL im), (1, .func 122 [] [.fbp true [.int x] 0]), (7, .int (im.length : Int)), (8, .int (i : Int))]) [] (.int (idxF (fun j => !decide (((im.getD j []).length : Int) = x)) n i))
  | 0, i, h => AtV.by (fun ih => e150_0 ih _ _ _ _) (EvR.no (decide_eq_false (by omega)) EvR.ret)
  | n + 1, i, h => by
    refine AtV.by (fun ih => e150_0 ih _ _ _ _) (EvR.yes (decide_eq_true (by omega)) (EvR.yes (okR_LL (by omega) (by omega)) ?_))
    rw [Int.toNat_natCast, getD_LL (by omega), wnat (by omega), idxF]
    refine EvR.call (c122 _ _) (EvR.yes (isRes_bool _) ?_)
    cases hp : !decide (((im.getD i []).length : Int) = x) with
    | true => exact EvR.yes rfl EvR.ret
    | false => exact EvR.no rfl (at150 h12 x n (i + 1) (by omega))
theorem c121 {im : List (List Int)} (h12 : im.length ≤ 12) (x : Int) : CallV vt1 121 [LL im, .func 122 [] [.fbp true [.int x] 0]] (.bool (im.any (fun r => !decide ((r.length : Int) = x)))) := by
  have k : CallV vt1 150 [LL im, .func 122 [] [.fbp true [.int x] 0]] (.int (idxF (fun j => !decide (((im.getD j []).length : Int) = x)) im.length 0)) := by
    refine CallV.by (fun ih => e150 ih _ _) ?_
    rw [List.length_map]
    exact at150 h12 x im.length 0 (by omega)
  refine CallV.by (fun ih => e121 ih _ _) (EvR.call k (EvR.yes (isRes_int _) (EvR.ret' ?_)))
  have := idxF_any (fun r : List Int => !decide ((r.length : Int) = x)) [] im im.length 0 (by omega)
  rw [asI_int, this]; rfl
def oddP (n : Int) : Bool := !decide (0 ≤ n ∧ n ≤ 255)
def litP (n : Int) : Bool := !decide (n = 0)
theorem c123 (n : Int) : CallV vt1 123 [.int n] (.bool (oddP n)) :=
  CallV.by (fun ih => e123 ih _) (EvR.call (c114 _ _ _) (EvR.yes (isRes_bool _) (EvR.ret' rfl)))
theorem c124 (n : Int) : CallV vt1 124 [.int n] (.bool (litP n)) := CallV.by (fun ih => e124 ih _) EvR.ret
theorem at101a {l : List Int} (h12 : l.length ≤ 1000) : ∀ (n i : Nat), l.length = i + n → AtV vt1 101 0 (tblL [(0, LT l), (1, .func 123 [] []), (7, .int (l.length : Int)), (8, .int (i : Int))]) [] (.int (idxF (fun j => oddP (l.getD j 0)) n i))
  | 0, i, h => AtV.by (fun ih => e101_123_0 ih _ _ _) (EvR.no (decide_eq_false (by omega)) EvR.ret)
  | n + 1, i, h => by
    refine AtV.by (fun ih => e101_123_0 ih _ _ _) (EvR.yes (decide_eq_true (by omega)) (EvR.yes (okR_ok (by omega) (by omega)) ?_))
    rw [asI_ints, Int.toNat_natCast, wnat (by omega), idxF]
    refine EvR.call (c123 _) (EvR.yes (isRes_bool _) ?_)
    cases hp : oddP (l.getD i 0) with
    | true => exact EvR.yes rfl EvR.ret
    | false => exact EvR.no rfl (at101a h12 n (i + 1) (by omega))
theorem at101b {l : List Int} (h12 : l.length ≤ 1000) : ∀ (n i : Nat), l.length = i + n → AtV vt1 101 0 (tblL [(0, LT l), (1, .func 124 [] []), (7, .int (l.length : Int)), (8, .int (i : Int))]) [] (.int (idxF (fun j => litP (l.getD j 0)) n i))
  | 0, i, h => AtV.by (fun ih => e101_124_0 ih _ _ _) (EvR.no (decide_eq_false (by omega)) EvR.ret)
  | n + 1, i, h => by
    refine AtV.by (fun ih => e101_124_0 ih _ _ _) (EvR.yes (decide_eq_true (by omega)) (EvR.yes (okR_ok (by omega) (by omega)) ?_))
    rw [asI_ints, Int.toNat_natCast, wnat (by omega), idxF]
    refine EvR.call (c124 _) (EvR.yes (isRes_bool _) ?_)
    cases hp : litP (l.getD i 0) with
    | true => exact EvR.yes rfl EvR.ret
    | false => exact EvR.no rfl (at101b h12 n (i + 1) (by omega))
theorem c56a {l : List Int} (h12 : l.length ≤ 1000) : CallV vt1 56 [LT l, .func 123 [] []] (.bool (l.any oddP)) := by
  have k : CallV vt1 101 [LT l, .func 123 [] []] (.int (idxF (fun j => oddP (l.getD j 0)) l.length 0)) := by
    refine CallV.by (fun ih => e101_123 ih _) ?_
    rw [List.length_map]
    exact at101a h12 l.length 0 (by omega)
  refine CallV.by (fun ih => e56_123 ih _) (EvR.call k (EvR.yes (isRes_int _) (EvR.ret' ?_)))
  have := idxF_any oddP 0 l l.length 0 (by omega)
  rw [asI_int, this]; rfl
theorem c56b {l : List Int} (h12 : l.length ≤ 1000) : CallV vt1 56 [LT l, .func 124 [] []] (.bool (l.any litP)) := by
  have k : CallV vt1 101 [LT l, .func 124 [] []] (.int (idxF (fun j => litP (l.getD j 0)) l.length 0)) := by
    refine CallV.by (fun ih => e101_124 ih _) ?_
    rw [List.length_map]
    exact at101b h12 l.length 0 (by omega)
  refine CallV.by (fun ih => e56_124 ih _) (EvR.call k (EvR.yes (isRes_int _) (EvR.ret' ?_)))
  have := idxF_any litP 0 l l.length 0 (by omega)
  rw [asI_int, this]; rfl
/-- The error of an image, out of what is known of it. -/
def errP (w len : Int) (un odd dark : Bool) : Int := firstNZ [if decide (0 < w) && !un then 0 else 10, if decide (w ≤ 10) && decide (len ≤ 10) then 0 else 8, if odd then 2 else 0, if dark then 11 else 0]
theorem at83 {im : List (List Int)} (h12 : im.length ≤ 12) (hr : ∀ i, i < im.length → (im.getD i []).length ≤ 12) (w : Int) (un : Bool) : ∀ (n i : Nat) (odd dark : Bool), im.length = i + n →
    AtV vt1 83 0 (tblL [(0, LL im), (3, .ptr 0 0), (4, .bool un), (5, .bool odd), (6, .bool dark), (14, LL im), (15, .int (im.length : Int)), (16, .int (i : Int))]) [.box [.int w]] (.int (errP w im.length un (odd || (im.drop i).any (·.any oddP)) (dark && (im.drop i).all (fun r => !(r.any litP)))))
  | 0, i, odd, dark, h => by
    refine AtV.by (fun ih => e83_0 ih _ _ _ _ _ _ _ _) (EvR.no (decide_eq_false (by omega)) ?_)
    rw [List.drop_eq_nil_of_le (by omega)]
    simp only [List.any_nil, List.all_nil, Bool.or_false, Bool.and_true, List.length_map]
    refine EvR.cond (fun h1 => ?_) (fun h1 => ?_)
    all_goals
      refine EvR.call (c88 _ _) (EvR.yes (isRes_int _) (EvR.cond (fun h2 => ?_) (fun h2 => ?_)))
      all_goals
        refine EvR.call (c88 _ _) (EvR.yes (isRes_int _) (EvR.call (c88 _ _) (EvR.yes (isRes_int _) (EvR.call (c88 _ _) (EvR.yes (isRes_int _) ?_)))))
        simp only [asI_int]
        refine EvR.call (c87 (l := [_, _, _, _]) (by simp)) (EvR.yes (isRes_int _) (EvR.ret' ?_))
        simp only [asI_int, errP, h1, h2]
        cases un <;> cases odd <;> cases dark <;> simp
  | n + 1, i, odd, dark, h => by
    have hri := hr i (by omega)
    refine AtV.by (fun ih => e83_0 ih _ _ _ _ _ _ _ _) (EvR.yes (decide_eq_true (by omega)) (EvR.yes (okR_LL (by omega) (by omega)) ?_))
    rw [Int.toNat_natCast, getD_LL (by omega), wnat (by omega), dropI [] (by omega), List.any_cons, List.all_cons]
    simp only [asR_list]
    have ka := c56a (l := im.getD i []) (by omega)
    have kb := c56b (l := im.getD i []) (by omega)
    cases odd with
    | true =>
      refine EvR.yes rfl ?_
      cases dark with
      | true =>
        refine EvR.yes rfl (EvR.call kb (EvR.yes (isRes_bool _) ?_))
        have := at83 h12 hr w un n (i + 1) true (!((im.getD i []).any litP)) (by omega)
        simp only [Bool.true_or, Bool.true_and, Bool.false_or, Bool.false_and] at this ⊢
        exact this
      | false =>
        refine EvR.no rfl ?_
        have := at83 h12 hr w un n (i + 1) true false (by omega)
        simp only [Bool.true_or, Bool.true_and, Bool.false_or, Bool.false_and] at this ⊢
        exact this
    | false =>
      refine EvR.no rfl (EvR.call ka (EvR.yes (isRes_bool _) ?_))
      cases dark with
      | true =>
        refine EvR.yes rfl (EvR.call kb (EvR.yes (isRes_bool _) ?_))
        have := at83 h12 hr w un n (i + 1) ((im.getD i []).any oddP) (!((im.getD i []).any litP)) (by omega)
        simp only [Bool.true_or, Bool.true_and, Bool.false_or, Bool.false_and] at this ⊢
        exact this
      | false =>
        refine EvR.no rfl ?_
        have := at83 h12 hr w un n (i + 1) ((im.getD i []).any oddP) false (by omega)
        simp only [Bool.true_or, Bool.true_and, Bool.false_or, Bool.false_and] at this ⊢
        exact this
def uneven (im : List (List Int)) : Bool := im.any (fun r => !decide ((r.length : Int) = wide im))
/-- The error of an image. -/
def errI (im : List (List Int)) : Int := errP (wide im) im.length (uneven im) (im.any (·.any oddP)) (im.all (fun r => !(r.any litP)))
theorem c83 {im : List (List Int)} (h12 : im.length ≤ 12) (hr : ∀ i, i < im.length → (im.getD i []).length ≤ 12) : CallV vt1 83 [LL im] (.int (errI im)) := by
  refine CallV.by (fun ih => e83 ih _) (EvR.call (c86 im) (EvR.yes (isRes_int _) (EvR.call (c121 h12 _) (EvR.yes (isRes_bool _) ?_))))
  have := at83 h12 hr (wide im) (uneven im) im.length 0 false true (by omega)
  rw [List.length_map]
  exact this
end Go.Proofs
/- Contracts of ModalFrames: WideInt, RatioFrac. -/
namespace Go.Proofs
open Go Go.Sx Go.Vx
set_option maxRecDepth 100000
theorem val_drop_le {l : List Int} (h : Dg l) : ∀ k, val (l.drop k) ≤ val l
  | 0 => by rw [List.drop_zero]; exact Int.le_refl _
  | k + 1 => by
    have := val_drop_le h k
    rw [val_drop l k] at this
    have g := getD_Dg h k
    have v := val_nonneg (Dg_drop h (k + 1))
    omega
theorem at99 {l : List Int} (hl : Dg l) (hv : val l < 9000000000000000000) (hn : l.length ≤ 1000) {s : Int} : ∀ k : Nat, k ≤ l.length → AtV vt1 99 0 (tblL [(1, .ptr 0 0), (4, .int (val (l.drop k))), (5, .int ((k : Int) - 1))]) [.box [.int s, L l]] (.tup [.int (w64 (s * val l)), .bool true])
  | 0, _ => AtV.by (fun ih => e99_0 ih _ _ _ _) (EvR.no (by simp) (EvR.ret' (by rw [List.drop_zero])))
  | k + 1, hk => by
    have e1 : (((k + 1 : Nat) : Int) - 1) = (k : Int) := by omega
    have g := getD_Dg hl k
    have v := val_nonneg (Dg_drop hl (k + 1))
    have b := val_drop_le hl k
    have d := val_drop l k
    rw [e1]
    refine AtV.by (fun ih => e99_0 ih _ _ _ _) (EvR.yes (by simp) (EvR.yes (okR_ok (by omega) (by omega)) ?_))
    rw [asI_ints, Int.toNat_natCast, w64_id (n := _ * 1000000000) (by omega) (by omega), w64_id (by omega) (by omega), w64_id (by omega) (by omega)]
    have e2 : val (l.drop (k + 1)) * 1000000000 + l.getD k 0 = val (l.drop k) := by omega
    rw [e2]
    exact at99 hl hv hn k (by omega)
/-- WideInt. -/
theorem c99 {n : Int} (hd : dl n ≤ 1000) : CallV vt1 99 [W n] (.tup (if n.natAbs < 9000000000000000000 then [.int n, .bool true] else [.int 0, .bool false])) := by
  have hl : (digits n.natAbs).length = dl n := rfl
  have hD := Dg_digits n.natAbs
  have hT := Top_digits n.natAbs
  have hv := val_dig n
  have hlt := lt_dl n
  refine CallV.by (fun ih => e99 ih _ _) ?_
  simp only [List.length_map]
  have fin : n.natAbs < 9000000000000000000 → AtV vt1 99 0 (tblL [(1, .ptr 0 0), (4, .int 0), (5, .int (w64 (((digits n.natAbs).length : Int) - 1)))]) [.box [.int n.sign, L (digits n.natAbs)]] (.tup [.int n, .bool true]) := by
    intro h
    have := at99 hD (by omega) (by omega) (s := n.sign) (digits n.natAbs).length (Nat.le_refl _)
    rw [List.drop_length, hv, Int.sign_mul_natAbs] at this
    rw [w64_id (n := n) (by omega) (by omega)] at this
    rw [w64_id (by omega) (by omega)]
    exact this
  by_cases h3 : 3 < (digits n.natAbs).length
  · have hge := val_ge hD hT (by intro e; rw [e] at h3; simp at h3)
    have hp := pow_mono (i := 3) (j := (digits n.natAbs).length - 1) (by omega)
    rw [if_neg (by omega)]
    exact EvR.yes (decide_eq_true (by omega)) EvR.ret
  · refine EvR.no (decide_eq_false (by omega)) ?_
    by_cases h4 : (digits n.natAbs).length = 3
    · have hval : (n.natAbs : Int) = (digits n.natAbs).getD 0 0 + 1000000000 * ((digits n.natAbs).getD 1 0 + 1000000000 * (digits n.natAbs).getD 2 0) := by
        rw [← hv]
        generalize digits n.natAbs = l at h4 ⊢
        match l, h4 with
        | [x, y, z], _ => simp [val]
      have g0 := getD_Dg hD 0
      have g1 := getD_Dg hD 1
      have g2 := getD_Dg hD 2
      refine EvR.yes (decide_eq_true (by omega)) (EvR.yes (okR_ok (by omega) (by omega)) ?_)
      have e := asI_ints (digits n.natAbs) 2
      refine EvR.cond (fun g => ?_) (fun g => ?_)
      · have g' := of_decide_eq_true g
        rw [e] at g'
        rw [if_neg (by omega)]
        exact EvR.ret
      · have g' := of_decide_eq_false g
        rw [e] at g'
        rw [if_pos (by omega)]
        exact fin (by omega)
    · have : n.natAbs < 9000000000000000000 := by
        have h2 : dl n ≤ 2 := by omega
        have := npow_mono h2
        omega
      rw [if_pos this]
      exact EvR.no (decide_eq_false (by omega)) (fin this)
theorem c100 (n d : Int) : CallV vt1 100 [.agg [.int n, .int d]] (.bool (decide ((-1000000000 ≤ n ∧ n ≤ 1000000000) ∧ (1 ≤ d ∧ d ≤ 1000000000)))) := by
  refine CallV.by (fun ih => e100 ih _ _) (EvR.call (c50 _ _ _) (EvR.yes (isRes_bool _) ?_))
  by_cases h : -1000000000 ≤ n ∧ n ≤ 1000000000
  · refine EvR.yes (by rw [asB_bool]; exact decide_eq_true h) (EvR.call (c50 _ _ _) (EvR.yes (isRes_bool _) (EvR.ret' ?_)))
    rw [asB_bool]
    congr 1
    apply decide_eq_decide.2
    omega
  · refine EvR.no (by rw [asB_bool]; exact decide_eq_false h) (EvR.ret' ?_)
    congr 1
    exact (decide_eq_false (fun e => h e.1)).symm
end Go.Proofs
/- Contracts of ModalFrames: RatioFrac, sums. -/
namespace Go.Proofs
open Go Go.Sx Go.Vx
set_option maxRecDepth 100000
/-- RatioFrac of a ratio of small parts. -/
theorem c55 {q : Rat} (h1 : q.num.natAbs ≤ 1000000000) (h2 : q.den ≤ 1000000000) : CallV vt1 55 [RW q] (.tup [FR q, .bool true]) := by
  have d1 : dl q.num ≤ 3 := dl_small (by omega) (by omega)
  have d2 : dl (q.den : Int) ≤ 3 := dl_small (by omega) (by omega)
  have n1 := c99 (n := q.num) (by omega)
  have n2 := c99 (n := (q.den : Int)) (by omega)
  rw [if_pos (by omega)] at n1
  rw [if_pos (by omega)] at n2
  have hd := q.den_nz
  refine CallV.by (fun ih => e55 ih _ _ _ _) (EvR.call n1 (EvR.yes rfl (EvR.call n2 (EvR.yes rfl (EvR.no rfl (EvR.no rfl (EvR.call (c100 _ _) (EvR.yes (isRes_bool _) (EvR.no ?_ (EvR.ret' rfl))))))))))
  simp only [asB_bool, tupL_tup, List.getD_cons_zero, asI_int]
  rw [decide_eq_true (by omega)]
  rfl
theorem divInt_le {x y : Int} (hy : 0 < y) : (Rat.divInt x y).num.natAbs ≤ x.natAbs ∧ (Rat.divInt x y).den ≤ y.natAbs := by
  obtain ⟨e1, e2⟩ := divInt_parts (x := x) hy
  have d1 : (Int.gcd x y : Int) ∣ x := Int.gcd_dvd_left x y
  have d2 : (Int.gcd x y : Int) ∣ y := Int.gcd_dvd_right x y
  have hg : 0 < (Int.gcd x y : Int) := by have := Int.gcd_pos_of_ne_zero_right x (b := y) (by omega); omega
  have b1 : (x / (Int.gcd x y : Int)).natAbs ≤ x.natAbs := by
    obtain ⟨k, hk⟩ := d1
    generalize (Int.gcd x y : Int) = g at *
    subst hk
    rw [Int.mul_ediv_cancel_left _ (by omega), Int.natAbs_mul]
    exact Nat.le_mul_of_pos_left _ (by omega)
  have b2 : (y / (Int.gcd x y : Int)).natAbs ≤ y.natAbs := by
    obtain ⟨k, hk⟩ := d2
    generalize (Int.gcd x y : Int) = g at *
    subst hk
    rw [Int.mul_ediv_cancel_left _ (by omega), Int.natAbs_mul]
    exact Nat.le_mul_of_pos_left _ (by omega)
  rw [e1]
  exact ⟨b1, by omega⟩
theorem add_divInt (q : Rat) {o m : Int} (hm : m ≠ 0) : q + Rat.divInt o m = Rat.divInt (q.num * m + o * q.den) (q.den * m) := by
  rw [← Rat.divInt_add_divInt _ _ (den_ne q) hm, Rat.num_divInt_den]
/-- The size of a running sum. -/
def Bd (i : Nat) (q : Rat) : Prop := q.den ≤ 10 ^ i ∧ q.num.natAbs ≤ 4 * i * 10 ^ i
theorem Bd_step {i : Nat} {q : Rat} (h : Bd i q) {o m : Int} (hm : 1 ≤ m ∧ m ≤ 10) (ho : 0 ≤ o ∧ o ≤ 40) : Bd (i + 1) (q + Rat.divInt o m) := by
  have hd := q.den_nz
  have hdm : 0 < (q.den : Int) * m := Int.mul_pos (by omega) (by omega)
  rw [add_divInt q (by omega)]
  obtain ⟨b1, b2⟩ := divInt_le (x := q.num * m + o * q.den) hdm
  obtain ⟨h1, h2⟩ := h
  have t1 : ((q.den : Int) * m).natAbs ≤ 10 ^ i * 10 := by
    rw [Int.natAbs_mul]
    exact Nat.mul_le_mul (by omega) (by omega)
  have t2 : (q.num * m).natAbs ≤ 4 * i * 10 ^ i * 10 := by
    rw [Int.natAbs_mul]
    exact Nat.mul_le_mul h2 (by omega)
  have t3 : (o * (q.den : Int)).natAbs ≤ 40 * 10 ^ i := by
    rw [Int.natAbs_mul]
    exact Nat.mul_le_mul (by omega) (by omega)
  refine ⟨by rw [Nat.pow_succ]; omega, ?_⟩
  have t4 := Int.natAbs_add_le (q.num * m) (o * q.den)
  have e : 4 * (i + 1) * 10 ^ (i + 1) = 4 * i * 10 ^ i * 10 + 40 * 10 ^ i := by
    rw [Nat.pow_succ]
    generalize 10 ^ i = p
    grind
  omega
end Go.Proofs
/- Contracts of ModalFrames: sums. -/
namespace Go.Proofs
open Go Go.Sx Go.Vx
set_option maxRecDepth 100000
def sumR (a b : List Int) : Nat → Nat → Rat → Rat
  | 0, _, q => q
  | n + 1, i, q => sumR a b n (i + 1) (q + Rat.divInt (own b i) (a.getD i 0))
theorem own_bd {a b : List Int} (hab : b.length = a.length) (hb : ∀ j, j < a.length → (1 ≤ a.getD j 0 ∧ a.getD j 0 ≤ 10) ∧ (1 ≤ b.getD j 0 ∧ b.getD j 0 ≤ 20)) {i : Nat} (hi : i < a.length) : 0 ≤ own b i ∧ own b i ≤ 40 := by
  unfold own
  have h1 := (hb i hi).2
  split
  · have h2 := (hb (i + 1) (by omega)).2
    rw [w64_id (by omega) (by omega)]; omega
  · omega
theorem Bd_num {i : Nat} {q : Rat} (h : Bd i q) (hi : i ≤ 4) : q.den ≤ 10000 ∧ q.num.natAbs ≤ 160000 := by
  obtain ⟨h1, h2⟩ := h
  have : i = 0 ∨ i = 1 ∨ i = 2 ∨ i = 3 ∨ i = 4 := by omega
  rcases this with e | e | e | e | e <;> subst e <;> exact ⟨Nat.le_trans h1 (by decide), Nat.le_trans h2 (by decide)⟩
section
variable {a b : List Int} (hab : b.length = a.length) (h4 : a.length ≤ 4) (hb : ∀ j, j < a.length → (1 ≤ a.getD j 0 ∧ a.getD j 0 ≤ 10) ∧ (1 ≤ b.getD j 0 ∧ b.getD j 0 ≤ 20))
include hab h4 hb
omit h4 in
theorem sumR_bd : ∀ (n i : Nat) (q : Rat), a.length = i + n → Bd i q → Bd a.length (sumR a b n i q)
  | 0, i, q, h, hq => by
    have : a.length = i := by omega
    rw [sumR, this]; exact hq
  | n + 1, i, q, h, hq => by
    rw [sumR]
    exact sumR_bd n (i + 1) _ (by omega) (Bd_step hq (hb i (by omega)).1 (own_bd hab hb (by omega)))
theorem at11 {y1 y2 : Int} : ∀ (n i : Nat) (q : Rat), a.length = i + n → Bd i q → AtV vt1 11 0 (tblL [(2, .ptr 0 0), (4, .ptr 1 0), (6, .ptr 2 0), (20, L a), (21, .int (a.length : Int)), (22, .int (i : Int))]) [.box [.int y1, .int y2], .box [L a, L b], .box [.int q.num, .int (q.den : Int)]] (.tup [FR (sumR a b n i q), .int 0])
  | 0, i, q, h, hq => AtV.by (fun ih => e11_0 ih _ _ _ _ _ _ _ _ _) (EvR.no (decide_eq_false (by omega)) (EvR.ret' rfl))
  | n + 1, i, q, h, hq => by
    have hw : w64 ((i : Int) + 1) = ((i + 1 : Nat) : Int) := by rw [w64_id (by omega) (by omega)]; omega
    have c := (c48 (b := b) a (by omega) (i := i)).resolve_right (by omega)
    have hbi := hb i (by omega)
    have ho : w64 (b.getD i 0 + (if i + 1 < b.length then b.getD (i + 1) 0 else 0)) = own b i := by
      unfold own
      split
      · rfl
      · rw [Int.add_zero, w64_id (by omega) (by omega)]
    have hob := own_bd hab hb (i := i) (by omega)
    obtain ⟨m1, m2⟩ := Bd_num hq (by omega)
    have hd := q.den_nz
    refine AtV.by (fun ih => e11_0 ih _ _ _ _ _ _ _ _ _) (EvR.yes (decide_eq_true (by omega)) (EvR.yes (okR_ok (by omega) (by omega)) (EvR.yes (okR_ok (by omega) (by omega)) (EvR.call c (EvR.yes (isRes_int _) ?_)))))
    rw [asI_ints, asI_ints, Int.toNat_natCast, hw, asI_int, ho]
    generalize hA : a.getD i 0 = m at *
    generalize hO : own b i = o at *
    have p1 : (q.num * m).natAbs ≤ 160000 * 10 := by rw [Int.natAbs_mul]; exact Nat.mul_le_mul m2 (by omega)
    have p2 : (o * (q.den : Int)).natAbs ≤ 40 * 10000 := by rw [Int.natAbs_mul]; exact Nat.mul_le_mul (by omega) (by omega)
    have p3 : ((q.den : Int) * m).natAbs ≤ 10000 * 10 := by rw [Int.natAbs_mul]; exact Nat.mul_le_mul (by omega) (by omega)
    have p4 : 0 < (q.den : Int) * m := Int.mul_pos (by omega) (by omega)
    have p5 := Int.natAbs_add_le (q.num * m) (o * q.den)
    rw [w64_id (n := q.num * m) (by omega) (by omega), w64_id (n := o * (q.den : Int)) (by omega) (by omega), w64_id (n := q.num * m + o * q.den) (by omega) (by omega), w64_id (n := (q.den : Int) * m) (by omega) (by omega)]
    refine EvR.call (c49 (x := q.num * m + o * q.den) (y := q.den * m) (by omega) (by omega)) (EvR.yes rfl ?_)
    have hst := Bd_step hq hbi.1 hob
    have := at11 (y1 := y1) (y2 := y2) n (i + 1) _ (by omega) hst
    rw [sumR, hA, hO]
    rw [add_divInt q (by omega)] at this ⊢
    exact this
theorem at15 {y1 y2 : Int} : ∀ (n i : Nat) (q : Rat), a.length = i + n → Bd i q → AtV vt1 15 0 (tblL [(1, .ptr 0 0), (2, .ptr 1 0), (3, .ptr 2 0), (4, .int (i : Int))]) [.box [LT a, LT b], .box [.int y1, .int y2], .box [.int q.num.sign, L (digits q.num.natAbs), .int (q.den : Int).sign, L (digits (q.den : Int).natAbs)]] (FR (sumR a b n i q))
  | 0, i, q, h, hq => by
    obtain ⟨m1, m2⟩ := Bd_num hq (by omega)
    refine AtV.by (fun ih => e15_0 ih _ _ _ _ _ _ _ _ _) (EvR.no (decide_eq_false (by simp; omega)) (EvR.call (c55 (q := q) (by omega) (by omega)) (EvR.yes rfl (EvR.ret' rfl))))
  | n + 1, i, q, h, hq => by
    have hw : w64 ((i : Int) + 1) = ((i + 1 : Nat) : Int) := by rw [w64_id (by omega) (by omega)]; omega
    have hbi := hb i (by omega)
    have hob := own_bd hab hb (i := i) (by omega)
    obtain ⟨m1, m2⟩ := Bd_num hq (by omega)
    have hst := Bd_step hq hbi.1 hob
    refine AtV.by (fun ih => e15_0 ih _ _ _ _ _ _ _ _ _) (EvR.yes (decide_eq_true (by simp; omega)) (EvR.call (c51 a (by omega) (by omega)) (EvR.yes (isRes_int _) (EvR.yes (okR_ok (by omega) (by omega)) ?_))))
    rw [asI_ints, Int.toNat_natCast, hw, asI_int]
    have hdl := divInt_le (x := own b i) (y := a.getD i 0) (by omega)
    have r1 : rl q ≤ 100000 := by
      have := dl_small (n := q.num) (by omega) (by omega)
      have := dl_small (n := (q.den : Int)) (by omega) (by omega)
      unfold rl; omega
    have r2 : rl (Rat.divInt (own b i) (a.getD i 0)) ≤ 100000 := by
      have := dl_small (n := (Rat.divInt (own b i) (a.getD i 0)).num) (by omega) (by omega)
      have := dl_small (n := ((Rat.divInt (own b i) (a.getD i 0)).den : Int)) (by omega) (by omega)
      unfold rl; omega
    refine EvR.call (c54 (by omega) (by omega) (by omega) (by omega) (by omega)) (EvR.yes (isRes_RW _) (EvR.call (c53 (a := q) r1 r2) (EvR.yes (isRes_RW _) ?_)))
    rw [sumR]
    exact at15 (y1 := y1) (y2 := y2) n (i + 1) _ (by omega) hst
end
end Go.Proofs
/- The law ModalFrames in V. -/
namespace Go.Proofs
open Go Go.Sx Go.Vx
set_option maxRecDepth 100000
theorem Bd_zero : Bd 0 (0 : Rat) := ⟨by decide, by decide⟩
theorem polyR_len {a b : List Int} : ∀ (n i : Nat) (now before : List Int), (polyR a b n i now before).length = now.length + n
  | 0, _, _, _ => rfl
  | n + 1, i, now, before => by
    rw [polyR, polyR_len n]
    unfold stepP
    simp only []
    split
    · rw [upd2_len, upd1_len]; simp; omega
    · rw [upd1_len]; simp; omega
/-- SumOf. -/
theorem c11 {a b : List Int} (h1 : a.length ≤ 1000) (h2 : b.length ≤ 1000) : CallV vt1 11 [.agg [L a, L b]] (.tup (if (chk a b).2 = 0 then [FR (sumR a b a.length 0 0), .int 0] else [.agg [.int 0, .int 0], .int (chk a b).2])) := by
  refine CallV.by (fun ih => e11 ih _ _) (EvR.call (c47 h1 h2) (EvR.yes rfl ?_))
  by_cases h : (chk a b).2 = 0
  · rw [if_pos h]
    obtain ⟨q1, q2, q3, q4⟩ := chk_ok h
    refine EvR.no (by simp [h]) ?_
    have := at11 (y1 := 0) (y2 := 0) q2 q3 q4 a.length 0 0 (by omega) Bd_zero
    simp only [tupL_tup, List.getD_cons_zero, cellOf_agg, List.getD_cons_succ, asR_list, List.length_map]
    exact this
  · rw [if_neg h]
    exact EvR.yes (by simp [h]) EvR.ret
/-- The reference's Sum. -/
theorem c15 {a b : List Int} (h : (chk a b).2 = 0) : CallV vt1 15 [.agg [LT a, LT b]] (FR (sumR a b a.length 0 0)) := by
  obtain ⟨q1, q2, q3, q4⟩ := chk_ok h
  refine CallV.by (fun ih => e15 ih _ _) (EvR.call (c52 (n := 0) (by omega) (by omega)) (EvR.yes (isRes_RW _) ?_))
  exact at15 (y1 := 0) (y2 := 0) q2 q3 q4 a.length 0 0 (by omega) Bd_zero
/-- awake, as it is known. -/
theorem c6 : CallV vt1 6 [] (.bool true) := ⟨1, fun m hm => by
  obtain ⟨m', rfl⟩ : ∃ m', m = m' + 1 := ⟨m - 1, by omega⟩
  show callF vt1 (evV vt1 m') 6 [] = some (.bool true)
  kernel_rfl⟩
/-- ModalFrames. -/
theorem c3 (a b : List Int) : CallV vt1 3 [.agg [LT a, LT b]] (.bool true) := by
  refine CallV.by (fun ih => e3 ih _ _) (EvR.call c6 (EvR.yes (isRes_bool _) (EvR.no rfl (EvR.call (c7 a b) (EvR.yes (isRes_bool _) ?_)))))
  by_cases hf : a.length ≤ 6 ∧ b.length ≤ 6
  · refine EvR.no (by rw [asB_bool, decide_eq_true hf]; rfl) ?_
    have k9 := c9 (a := a) (b := b) (by omega) (by omega)
    have k8 := c8 (a := a) (b := b) (by omega) (by omega)
    have k10 := c10 (a := a) (b := b) (by omega) (by omega)
    have k11 := c11 (a := a) (b := b) (by omega) (by omega)
    have k12 := c12 (a := a) (b := b) (by omega) (by omega)
    by_cases h : (chk a b).2 = 0
    · rw [if_pos h] at k10 k11
      obtain ⟨q1, q2, q3, q4⟩ := chk_ok h
      have k14 := c14 (a := a) (b := b) q2 (by omega)
      have k15 := c15 h
      have k13 := c13 (l := polyR a b a.length 0 [1] [0]) (m := polyR a b a.length 0 [1] [0]) (by have := polyR_len (a := a) (b := b) a.length 0 [1] [0]; simp at this; omega)
      repeat (first | refine EvR.call (by assumption) ?_ | refine EvR.yes rfl ?_ | (refine EvR.no ?_ ?_; focus (simp [pairV, h]; done)) | (refine EvR.yes ?_ ?_; focus (simp [pairV, h]; done)) | refine EvR.yes (by rfl) ?_)
      exact EvR.ret' (by simp [FR])
    · rw [if_neg h] at k10 k11
      repeat (first | refine EvR.call (by assumption) ?_ | refine EvR.yes rfl ?_ | (refine EvR.no ?_ ?_; focus (simp [pairV, h]; done)) | (refine EvR.yes ?_ ?_; focus (simp [pairV, h]; done)))
      exact EvR.ret' rfl
  · exact EvR.yes (by rw [asB_bool, decide_eq_false hf]; rfl) EvR.ret
end Go.Proofs
/- Contracts of ModalShapes: small functions. -/
namespace Go.Proofs
open Go Go.Sx Go.Vx
set_option maxRecDepth 100000
theorem c58 {n lim : Int} (h : 0 ≤ lim ∧ lim ≤ 1000000) : CallV vt1 58 [.int n, .int lim] (.bool (decide (-lim ≤ n ∧ n ≤ lim))) := by
  refine CallV.by (fun ih => e58 ih _ _) ?_
  rw [w64_id (by omega) (by omega), Int.zero_sub]
  exact EvR.call (c46 _ _ _) (EvR.yes (isRes_bool _) (EvR.ret' rfl))
def badL (n : Int) : Bool := !decide (-1000 ≤ n ∧ n ≤ 1000)
theorem c57 (n : Int) : CallV vt1 57 [.int n] (.bool (badL n)) :=
  CallV.by (fun ih => e57 ih _) (EvR.call (c58 (by omega)) (EvR.yes (isRes_bool _) (EvR.ret' rfl)))
theorem at101c {l : List Int} (h12 : l.length ≤ 1000) : ∀ (n i : Nat), l.length = i + n → AtV vt1 101 0 (tblL [(0, LT l), (1, .func 57 [] []), (7, .int (l.length : Int)), (8, .int (i : Int))]) [] (.int (idxF (fun j => badL (l.getD j 0)) n i))
  | 0, i, h => AtV.by (fun ih => e101_57_0 ih _ _ _) (EvR.no (decide_eq_false (by omega)) EvR.ret)
  | n + 1, i, h => by
    refine AtV.by (fun ih => e101_57_0 ih _ _ _) (EvR.yes (decide_eq_true (by omega)) (EvR.yes (okR_ok (by omega) (by omega)) ?_))
    rw [asI_ints, Int.toNat_natCast, wnat (by omega), idxF]
    refine EvR.call (c57 _) (EvR.yes (isRes_bool _) ?_)
    cases hp : badL (l.getD i 0) with
    | true => exact EvR.yes rfl EvR.ret
    | false => exact EvR.no rfl (at101c h12 n (i + 1) (by omega))
theorem c56c {l : List Int} (h12 : l.length ≤ 1000) : CallV vt1 56 [LT l, .func 57 [] []] (.bool (l.any badL)) := by
  have k : CallV vt1 101 [LT l, .func 57 [] []] (.int (idxF (fun j => badL (l.getD j 0)) l.length 0)) := by
    refine CallV.by (fun ih => e101_57 ih _) ?_
    rw [List.length_map]
    exact at101c h12 l.length 0 (by omega)
  refine CallV.by (fun ih => e56_57 ih _) (EvR.call k (EvR.yes (isRes_int _) (EvR.ret' ?_)))
  have := idxF_any badL 0 l l.length 0 (by omega)
  rw [asI_int, this]; rfl
theorem c62 (n : Int) : CallV vt1 62 [.int n] (.int n.sign) := by
  refine CallV.by (fun ih => e62 ih _) ?_
  rcases Int.lt_trichotomy n 0 with h | h | h
  · exact EvR.no (decide_eq_false (by omega)) (EvR.yes (decide_eq_true h) (EvR.ret' (by rw [Int.sign_eq_neg_one_of_neg h])))
  · subst h; exact EvR.no rfl (EvR.no rfl (EvR.ret' rfl))
  · exact EvR.yes (decide_eq_true h) (EvR.ret' (by rw [Int.sign_eq_one_of_pos h]))
/-! ### divisors -/
def gcdL : Nat → List Int → Nat
  | g, [] => g
  | g, x :: l => gcdL (Nat.gcd g x.natAbs) l
theorem at94 {l : List Int} (hl : l.length ≤ 1000000) (hG : gcdL 0 l ≤ 9223372036854775807) : ∀ (n i : Nat) (g : Int), l.length = i + n → gcdL g.natAbs (l.drop i) = gcdL 0 l → AtV vt1 94 0 (tblL [(3, .int g), (6, LT l), (7, .int (l.length : Int)), (8, .int (i : Int))]) [] (.int (gcdL 0 l : Nat))
  | 0, i, g, h, hg => by
    rw [List.drop_eq_nil_of_le (by omega), gcdL] at hg
    refine AtV.by (fun ih => e94_0 ih _ _ _ _) (EvR.no (decide_eq_false (by omega)) (EvR.ret' ?_))
    rw [w64_id (by omega) (by omega)]
    congr 1
    omega
  | n + 1, i, g, h, hg => by
    rw [dropI 0 (by omega), gcdL] at hg
    refine AtV.by (fun ih => e94_0 ih _ _ _ _) (EvR.yes (decide_eq_true (by omega)) (EvR.yes (okR_ok (by omega) (by omega)) ?_))
    rw [asI_ints, Int.toNat_natCast]
    refine at94_1 (i := (i : Int)) (G := Int.gcd g (l.getD i 0)) (by omega) (fun g' hg' => ?_) (l.getD i 0).natAbs g _ (Nat.le_refl _) rfl
    have := at94 hl hG n (i + 1) g' (by omega) (by rw [hg']; exact hg)
    exact this
theorem c94g {l : List Int} (hl : l.length ≤ 1000000) (hG : gcdL 0 l ≤ 9223372036854775807) : CallV vt1 94 [LT l] (.int (gcdL 0 l : Nat)) := by
  refine CallV.by (fun ih => e94 ih _) ?_
  rw [List.length_map]
  exact at94 hl hG l.length 0 0 (by omega) rfl
theorem gcdL2 (x y : Int) : gcdL 0 [x, y] = Int.gcd x y := by
  simp only [gcdL, Nat.gcd_zero_left]; rfl
/-- The error of a square. -/
def sqE (p q : Int) : Int := firstNZ [if 0 < q ∧ Int.gcd p q = 1 then 0 else 3, if (-100 ≤ p ∧ p ≤ 100) ∧ q ≤ 100 then 0 else 2]
theorem c60 {p q : Int} (hq : q ≤ 9223372036854775807) : CallV vt1 60 [.agg [.int p, .int q]] (.int (sqE p q)) := by
  refine CallV.by (fun ih => e60 ih _ _) ?_
  have fin : ∀ (b : Bool), b = decide (0 < q ∧ Int.gcd p q = 1) → EvR vt1 (fun ih => bindC (ih.call 45 [DV.bool b, DV.int 3]) fun r3 =>
      (bif isRes [{ ag := false, css := [CS.int] }] r3 then
       bindC (ih.call 58 [DV.int p, DV.int 100]) fun r5 =>
        (bif isRes [{ ag := false, css := [CS.bool] }] r5 then
         (bif asB r5 then
          bindC (ih.call 45 [DV.bool (decide (q ≤ 100)), DV.int 2]) fun r8 =>
           (bif isRes [{ ag := false, css := [CS.int] }] r8 then
            bindC (ih.call 44 [DV.list true false 1 [DV.int (asI r3), DV.int (asI r8)]]) fun r10 =>
            (bif isRes [{ ag := false, css := [CS.int] }] r10 then
            some (DV.int (asI r10))
            else none)
           else none)
         else bindC (ih.call 45 [DV.bool false, DV.int 2]) fun r12 =>
           (bif isRes [{ ag := false, css := [CS.int] }] r12 then
            bindC (ih.call 44 [DV.list true false 1 [DV.int (asI r3), DV.int (asI r12)]]) fun r14 =>
            (bif isRes [{ ag := false, css := [CS.int] }] r14 then
            some (DV.int (asI r14))
            else none)
           else none))
        else none)
      else none)) (.int (sqE p q)) := by
    intro b hb
    subst hb
    refine EvR.call (c45 _ _) (EvR.yes (isRes_int _) (EvR.call (c58 (by omega)) (EvR.yes (isRes_bool _) ?_)))
    rw [asB_bool, asI_int]
    refine EvR.cond (fun h => ?_) (fun h => ?_)
    all_goals
      refine EvR.call (c45 _ _) (EvR.yes (isRes_int _) ?_)
      refine EvR.call (c44 (l := [_, _]) (by simp)) (EvR.yes (isRes_int _) (EvR.ret' ?_))
      simp at h
      simp only [asI_int, sqE, decide_eq_true_eq]
      congr 3
    · have : (if (-100 ≤ p ∧ p ≤ 100) ∧ q ≤ 100 then (0 : Int) else 2) = if q ≤ 100 then 0 else 2 := by
        by_cases hq : q ≤ 100 <;> simp [hq, h]
      rw [this]
    · have : ¬ ((-100 ≤ p ∧ p ≤ 100) ∧ q ≤ 100) := fun h' => by have := h h'.1.1; omega
      rw [if_neg this]; simp
  by_cases h0 : 0 < q
  · have hg : gcdL 0 [p, q] ≤ 9223372036854775807 := by
      rw [gcdL2]
      have := Nat.le_of_dvd (by omega) (Int.gcd_dvd_natAbs_right p q)
      omega
    have k := c94g (l := [p, q]) (by simp) hg
    rw [gcdL2] at k
    refine EvR.yes (decide_eq_true h0) (EvR.call k (EvR.yes (isRes_int _) ?_))
    rw [asI_int]
    exact fin _ (by apply decide_eq_decide.2; constructor <;> intro h <;> omega)
  · refine EvR.no (decide_eq_false h0) (fin _ ?_)
    symm
    exact decide_eq_false (fun h => h0 h.1)
end Go.Proofs
/- Contracts of ModalShapes: the reference's errors, nodes. -/
namespace Go.Proofs
open Go Go.Sx Go.Vx
set_option maxRecDepth 100000
theorem c128' {n : Int} (h : -9223372036854775807 ≤ n ∧ n ≤ 9223372036854775807) : CallV vt1 128 [.int n] (.int (n.natAbs : Int)) := by
  refine CallV.by (fun ih => e128 ih _) (EvR.ret' ?_)
  rw [w64_id (by omega) (by omega)]
  congr 1
  omega
theorem at104 {G : Nat} (hG : G ≤ 9223372036854775807) : ∀ (n : Nat) (x y : Int), y.natAbs ≤ n → Int.gcd x y = G → AtV vt1 104 0 (tblL [(0, .int x), (1, .int y)]) [] (.int (G : Int)) := by
  have z : ∀ x : Int, Int.gcd x 0 = G → AtV vt1 104 0 (tblL [(0, .int x), (1, .int 0)]) [] (.int (G : Int)) := fun x hg => by
    rw [Int.gcd_zero_right] at hg
    have k := c128' (n := x) (by omega)
    rw [hg] at k
    exact AtV.by (fun ih => e104_0 ih _ _) (EvR.no (by simp) (EvR.call k (EvR.yes (isRes_int _) (EvR.ret' rfl))))
  intro n
  induction n with
  | zero =>
    intro x y hy hg
    have : y = 0 := by omega
    subst this
    exact z x hg
  | succ n ih =>
    intro x y hy hg
    by_cases h0 : y = 0
    · subst h0; exact z x hg
    · refine AtV.by (fun ih => e104_0 ih _ _) (EvR.yes (by rw [decide_eq_false h0]; rfl) (EvR.no (decide_eq_false h0) ?_))
      have hm : (x.tmod y).natAbs = x.natAbs % y.natAbs := Int.natAbs_tmod x y
      have hlt : x.natAbs % y.natAbs < y.natAbs := Nat.mod_lt _ (by omega)
      refine ih y (x.tmod y) (by omega) ?_
      rw [← hg]
      show Nat.gcd y.natAbs (x.tmod y).natAbs = Nat.gcd x.natAbs y.natAbs
      rw [hm, Nat.gcd_comm y.natAbs, ← Nat.gcd_rec, Nat.gcd_comm]
theorem c64 {p q : Int} (hq : q ≤ 9223372036854775807) : CallV vt1 64 [.agg [.int p, .int q]] (.bool (decide (0 < q ∧ Int.gcd p q = 1))) := by
  refine CallV.by (fun ih => e64 ih _ _) ?_
  by_cases h0 : 0 < q
  · have hg : Int.gcd p q ≤ 9223372036854775807 := by
      have := Nat.le_of_dvd (by omega) (Int.gcd_dvd_natAbs_right p q)
      omega
    have k : CallV vt1 104 [.int p, .int q] (.int (Int.gcd p q : Int)) := CallV.by (fun ih => e104 ih _ _) (at104 hg q.natAbs p q (Nat.le_refl _) rfl)
    refine EvR.yes (decide_eq_true h0) (EvR.call k (EvR.yes (isRes_int _) (EvR.ret' ?_)))
    rw [asI_int]
    congr 1
    apply decide_eq_decide.2; constructor <;> intro h <;> omega
  · exact EvR.no (decide_eq_false h0) (EvR.ret' (by rw [decide_eq_false (fun h => h0 h.1)]))
theorem c26 {p q : Int} (hq : q ≤ 9223372036854775807) : CallV vt1 26 [.agg [.int p, .int q]] (.int (sqE p q)) := by
  refine CallV.by (fun ih => e26 ih _ _) (EvR.call (c64 hq) (EvR.yes (isRes_bool _) ?_))
  rw [asB_bool]
  unfold sqE
  by_cases h : 0 < q ∧ Int.gcd p q = 1
  · rw [decide_eq_true h, if_pos h]
    refine EvR.no rfl (EvR.call (c50 _ _ _) (EvR.yes (isRes_bool _) ?_))
    rw [asB_bool]
    by_cases h2 : -100 ≤ p ∧ p ≤ 100
    · rw [decide_eq_true h2]
      refine EvR.no rfl ?_
      by_cases h3 : 100 < q
      · exact EvR.yes (decide_eq_true h3) (EvR.ret' (by rw [if_neg (by omega)]; rfl))
      · exact EvR.no (decide_eq_false h3) (EvR.ret' (by rw [if_pos (by omega)]; rfl))
    · rw [decide_eq_false h2]
      exact EvR.yes rfl (EvR.ret' (by rw [if_neg (fun h' => h2 h'.1)]; rfl))
  · rw [decide_eq_false h, if_neg h]
    exact EvR.yes rfl (EvR.ret' (by simp [firstNZ]))
theorem c25 (x y : Int) : CallV vt1 25 [.int x, .int y] (.int (firstNZ [x, y])) := by
  refine CallV.by (fun ih => e25 ih _ _) ?_
  by_cases h : x = 0
  · exact EvR.no (by rw [decide_eq_true h]; rfl) (EvR.ret' (by simp only [firstNZ, h, if_true]; by_cases hy : y = 0 <;> simp [hy]))
  · exact EvR.yes (by rw [decide_eq_false h]; rfl) (EvR.ret' (by simp [firstNZ, h]))
theorem c21 {a b : List Int} (h1 : a.length ≤ 1000) (h2 : b.length ≤ 1000) : CallV vt1 21 [.agg [LT a, LT b]] (.int (chk a b).2) :=
  CallV.by (fun ih => e21 ih _ _) (EvR.call (c12 h1 h2) (EvR.yes rfl (EvR.ret' rfl)))
/-- The error of loads. -/
def ldE (n : Nat) (l : List Int) : Int := if l.length ≠ n then 10 else if l.any badL then 2 else 0
theorem at22 {l : List Int} (h12 : l.length ≤ 1000) : ∀ (n i : Nat), l.length = i + n → AtV vt1 22 0 (tblL [(1, LT l), (5, .int (i : Int))]) [] (.int (if (l.drop i).any badL then 2 else 0))
  | 0, i, h => AtV.by (fun ih => e22_0 ih _ _) (EvR.no (decide_eq_false (by rw [List.length_map]; omega)) (EvR.ret' (by rw [List.drop_eq_nil_of_le (by omega)]; rfl)))
  | n + 1, i, h => by
    refine AtV.by (fun ih => e22_0 ih _ _) (EvR.yes (decide_eq_true (by rw [List.length_map]; omega)) (EvR.yes (okR_ok (by omega) (by omega)) (EvR.call (c50 _ _ _) (EvR.yes (isRes_bool _) ?_))))
    rw [asI_ints, Int.toNat_natCast, wnat (by omega), dropI 0 (by omega), List.any_cons, asB_bool]
    cases hp : decide (-1000 ≤ l.getD i 0 ∧ l.getD i 0 ≤ 1000) with
    | true =>
      have : badL (l.getD i 0) = false := by unfold badL; rw [hp]; rfl
      rw [this, Bool.false_or]
      exact EvR.no rfl (at22 h12 n (i + 1) (by omega))
    | false =>
      have : badL (l.getD i 0) = true := by unfold badL; rw [hp]; rfl
      rw [this]
      exact EvR.yes rfl (EvR.ret' (by simp))
theorem c22 {a b l : List Int} (h12 : l.length ≤ 1000) (ha : a.length ≤ 1000) : CallV vt1 22 [.agg [LT a, LT b], LT l] (.int (ldE a.length l)) := by
  refine CallV.by (fun ih => e22 ih _ _ _) ?_
  rw [List.length_map, List.length_map]
  unfold ldE
  by_cases h : l.length = a.length
  · rw [if_neg (by simpa using h)]
    refine EvR.no (by rw [decide_eq_true (by omega)]; rfl) ?_
    have := at22 h12 l.length 0 (by omega)
    rw [List.drop_zero] at this
    exact this
  · rw [if_pos h]
    exact EvR.yes (by rw [decide_eq_false (by omega)]; rfl) EvR.ret
/-- The changes of sign: count, last sign. -/
def nodesR (l : List Int) : Nat → Nat → Int → Int → Int
  | 0, _, c, _ => c
  | n + 1, i, c, s => if l.getD i 0 = 0 then nodesR l n (i + 1) c s else nodesR l n (i + 1) (if s ≠ 0 ∧ (l.getD i 0).sign = -s then c + 1 else c) (l.getD i 0).sign
theorem sign3 (n : Int) : n.sign = 1 ∨ n.sign = 0 ∨ n.sign = -1 := by
  rcases Int.lt_trichotomy n 0 with h | h | h
  · exact .inr (.inr (Int.sign_eq_neg_one_of_neg h))
  · subst h; exact .inr (.inl rfl)
  · exact .inl (Int.sign_eq_one_of_pos h)
theorem sign_zero (n : Int) : n.sign = 0 ↔ n = 0 := Int.sign_eq_zero_iff_zero
theorem at19 {l : List Int} (h62 : l.length ≤ 1000) : ∀ (n i : Nat) (c s : Int), l.length = i + n → (0 ≤ c ∧ c ≤ i) → (s = 1 ∨ s = 0 ∨ s = -1) →
    AtV vt1 19 0 (tblL [(4, .int c), (5, .int s), (12, LT l), (13, .int (l.length : Int)), (14, .int (i : Int))]) [] (.tup [.int (nodesR l n i c s), .int 0])
  | 0, i, c, s, h, hc, hs => AtV.by (fun ih => e19_0 ih _ _ _ _ _) (EvR.no (decide_eq_false (by omega)) EvR.ret)
  | n + 1, i, c, s, h, hc, hs => by
    refine AtV.by (fun ih => e19_0 ih _ _ _ _ _) (EvR.yes (decide_eq_true (by omega)) (EvR.yes (okR_ok (by omega) (by omega)) (EvR.call (c62 _) (EvR.yes (isRes_int _) ?_))))
    rw [asI_ints, Int.toNat_natCast, wnat (by omega), asI_int, nodesR, w64_id (n := c + 1) (by omega) (by omega), w64_id (n := 0 - s) (by omega) (by omega), Int.zero_sub]
    have h3 := sign3 (l.getD i 0)
    by_cases h0 : l.getD i 0 = 0
    · have hz : (l.getD i 0).sign = 0 := by rw [h0]; rfl
      rw [if_pos h0, hz]
      refine EvR.no rfl (EvR.no rfl ?_)
      exact at19 h62 n (i + 1) c s (by omega) (by omega) hs
    · have hz : ¬ (l.getD i 0).sign = 0 := fun e => h0 ((sign_zero _).1 e)
      have nz : (!decide ((l.getD i 0).sign = 0)) = true := by rw [decide_eq_false hz]; rfl
      rw [if_neg h0]
      refine EvR.yes nz ?_
      by_cases hq : (l.getD i 0).sign = -s
      · have : s ≠ 0 ∧ (l.getD i 0).sign = -s := ⟨by omega, hq⟩
        rw [if_pos this]
        refine EvR.yes (decide_eq_true hq) (EvR.yes nz ?_)
        exact at19 h62 n (i + 1) (c + 1) _ (by omega) (by omega) h3
      · rw [if_neg (fun h => hq h.2)]
        refine EvR.no (decide_eq_false hq) (EvR.yes nz ?_)
        exact at19 h62 n (i + 1) c _ (by omega) (by omega) h3
theorem c19 {l : List Int} (h62 : l.length ≤ 1000) : CallV vt1 19 [LT l] (.tup (if 60 < l.length then [.int 0, .int 8] else [.int (nodesR l l.length 0 0 0), .int 0])) := by
  refine CallV.by (fun ih => e19 ih _) ?_
  rw [List.length_map]
  by_cases h : 60 < l.length
  · rw [if_pos h]; exact EvR.yes (decide_eq_true (by omega)) EvR.ret
  · rw [if_neg h]
    exact EvR.no (decide_eq_false (by omega)) (at19 h62 l.length 0 0 0 (by omega) (by omega) (by omega))
theorem sgn_ne {x y : Int} (hx : x ≠ 0) (hy : y ≠ 0) : (!(decide (x < 0) == decide (y < 0))) = decide (y.sign = -x.sign) := by
  rcases Int.lt_trichotomy x 0 with h | h | h
  · rcases Int.lt_trichotomy y 0 with k | k | k
    · rw [Int.sign_eq_neg_one_of_neg h, Int.sign_eq_neg_one_of_neg k]; simp [h, k]
    · exact absurd k hy
    · rw [Int.sign_eq_neg_one_of_neg h, Int.sign_eq_one_of_pos k]; simp [h]; omega
  · exact absurd h hx
  · rcases Int.lt_trichotomy y 0 with k | k | k
    · rw [Int.sign_eq_one_of_pos h, Int.sign_eq_neg_one_of_neg k]; simp [k]; omega
    · exact absurd k hy
    · rw [Int.sign_eq_one_of_pos h, Int.sign_eq_one_of_pos k]; simp; omega
theorem at20 {l : List Int} (h62 : l.length ≤ 1000) : ∀ (n i : Nat) (c x : Int), l.length = i + n → (0 ≤ c ∧ c ≤ i) →
    AtV vt1 20 0 (tblL [(0, LT l), (3, .int c), (4, .int x), (5, .int (i : Int))]) [] (.int (nodesR l n i c x.sign))
  | 0, i, c, x, h, hc => AtV.by (fun ih => e20_0 ih _ _ _ _) (EvR.no (decide_eq_false (by rw [List.length_map]; omega)) EvR.ret)
  | n + 1, i, c, x, h, hc => by
    have hok : okR (ints l) (i : Int) ⟨false, [.int]⟩ = true := okR_ok (by omega) (by omega)
    refine AtV.by (fun ih => e20_0 ih _ _ _ _) (EvR.yes (decide_eq_true (by rw [List.length_map]; omega)) (EvR.yes hok ?_))
    rw [asI_ints, Int.toNat_natCast, wnat (by omega), nodesR, w64_id (n := c + 1) (by omega) (by omega)]
    by_cases h0 : l.getD i 0 = 0
    · rw [if_pos h0]
      exact EvR.yes (decide_eq_true h0) (at20 h62 n (i + 1) c x (by omega) (by omega))
    · rw [if_neg h0]
      refine EvR.no (decide_eq_false h0) ?_
      by_cases hx : x = 0
      · subst hx
        rw [if_neg (by simp)]
        exact EvR.no rfl (EvR.yes hok (at20 h62 n (i + 1) c _ (by omega) (by omega)))
      · have hs : x.sign ≠ 0 := fun e => hx ((sign_zero _).1 e)
        refine EvR.yes (by rw [decide_eq_false hx]; rfl) (EvR.yes hok ?_)
        by_cases hq : (l.getD i 0).sign = -x.sign
        · rw [if_pos ⟨hs, hq⟩]
          refine EvR.yes (by rw [sgn_ne hx h0]; exact decide_eq_true hq) (EvR.yes hok (at20 h62 n (i + 1) (c + 1) _ (by omega) (by omega)))
        · rw [if_neg (fun h => hq h.2)]
          refine EvR.no (by rw [sgn_ne hx h0]; exact decide_eq_false hq) (EvR.yes hok (at20 h62 n (i + 1) c _ (by omega) (by omega)))
theorem c20 {l : List Int} (h62 : l.length ≤ 1000) : CallV vt1 20 [LT l] (.int (nodesR l l.length 0 0 0)) :=
  CallV.by (fun ih => e20 ih _) (at20 h62 l.length 0 0 0 (by omega) (by omega))
/-- SameShape. -/
theorem c23 {d e : Int} {l m : List Int} (hn : l.length ≤ 1000000) : CallV vt1 23 [.agg [.int d, LT l], .agg [.int e, LT m]] (.bool (decide (d = e ∧ l = m))) := by
  refine CallV.by (fun ih => e23 ih _ _ _ _) ?_
  by_cases h : d = e
  · refine EvR.yes (decide_eq_true h) (EvR.call (c13 hn) (EvR.yes (isRes_bool _) (EvR.ret' ?_)))
    rw [asB_bool]; congr 1
    exact decide_eq_decide.2 ⟨fun h' => ⟨h, h'⟩, fun h' => h'.2⟩
  · exact EvR.no (decide_eq_false h) (EvR.ret' (by rw [decide_eq_false (fun h' => h h'.1)]))
end Go.Proofs
/- ModalShapes: the plain law of common denominators. -/
namespace Go.Proofs
open Go Go.Sx Go.Vx
theorem gcdL_append : ∀ (l m : List Int) (g : Nat), gcdL g (l ++ m) = gcdL (gcdL g l) m
  | [], _, _ => rfl
  | x :: l, m, g => by simp only [List.cons_append, gcdL]; exact gcdL_append l m _
theorem gcdL_gcd : ∀ (l : List Int) (a b : Nat), gcdL (Nat.gcd a b) l = Nat.gcd a (gcdL b l)
  | [], _, _ => rfl
  | x :: l, a, b => by simp only [gcdL]; rw [Nat.gcd_assoc, gcdL_gcd l a]
theorem gcdL_last (l : List Int) (D : Nat) : gcdL 0 (l ++ [(D : Int)]) = gcdL D l := by
  rw [gcdL_append]
  simp only [gcdL]
  have := gcdL_gcd l D 0
  rw [Nat.gcd_zero_right] at this
  rw [this, Nat.gcd_comm]; rfl
theorem gcdL_dvd : ∀ (l : List Int) (g : Nat), gcdL g l ∣ g ∧ ∀ x ∈ l, gcdL g l ∣ x.natAbs
  | [], g => ⟨Nat.dvd_refl g, by simp⟩
  | y :: l, g => by
    obtain ⟨h1, h2⟩ := gcdL_dvd l (Nat.gcd g y.natAbs)
    simp only [gcdL]
    refine ⟨Nat.dvd_trans h1 (Nat.gcd_dvd_left _ _), fun x hx => ?_⟩
    rcases List.mem_cons.1 hx with rfl | hx
    · exact Nat.dvd_trans h1 (Nat.gcd_dvd_right _ _)
    · exact h2 x hx
theorem lcm_step {D g1 g2 : Nat} (hD : 0 < D) (h1 : g1 ∣ D) (h2 : g2 ∣ D) : D / g1 * (D / g2 / Nat.gcd (D / g2) (D / g1)) = D / Nat.gcd g1 g2 := by
  obtain ⟨a, b, hc, ea, eb⟩ := Nat.exists_coprime g1 g2
  have hg1 : 0 < g1 := Nat.pos_of_dvd_of_pos h1 hD
  have hg : 0 < Nat.gcd g1 g2 := Nat.gcd_pos_of_pos_left _ hg1
  generalize Nat.gcd g1 g2 = g at *
  subst ea; subst eb
  have ha : 0 < a := Nat.pos_of_mul_pos_right hg1
  have hb : 0 < b := by
    have : 0 < b * g := Nat.pos_of_dvd_of_pos h2 hD
    exact Nat.pos_of_mul_pos_right this
  obtain ⟨m, hm⟩ : g ∣ D := Nat.dvd_trans (Nat.dvd_mul_left _ _) h1
  subst hm
  have d1 : a ∣ m := by
    obtain ⟨k, hk⟩ := h1
    refine ⟨k, Nat.eq_of_mul_eq_mul_left hg ?_⟩
    rw [hk]; grind
  have d2 : b ∣ m := by
    obtain ⟨k, hk⟩ := h2
    refine ⟨k, Nat.eq_of_mul_eq_mul_left hg ?_⟩
    rw [hk]; grind
  obtain ⟨k, rfl⟩ := Nat.Coprime.mul_dvd_of_dvd_of_dvd hc d1 d2
  have hk : 0 < k := by
    rcases Nat.eq_zero_or_pos k with h | h
    · subst h; simp at hD
    · exact h
  have e1 : g * (a * b * k) / (a * g) = b * k := Nat.div_eq_of_eq_mul_right (Nat.mul_pos ha hg) (by grind)
  have e2 : g * (a * b * k) / (b * g) = a * k := Nat.div_eq_of_eq_mul_right (Nat.mul_pos hb hg) (by grind)
  have e3 : g * (a * b * k) / g = a * b * k := Nat.div_eq_of_eq_mul_right hg rfl
  have e4 : Nat.gcd (a * k) (b * k) = k := by rw [Nat.gcd_mul_right, hc, Nat.one_mul]
  rw [e1, e2, e3, e4, Nat.mul_div_cancel _ hk]
  grind
/-- The common denominator, as the reference goes. -/
def comD : Int → List Rat → Int
  | d, [] => d
  | d, q :: l => comD (d * (Rat.divInt (q.den : Int) d).num) l
def comP (n : Int) (l : List Rat) : List Int := l.map fun q => (q * (n : Rat)).num / ((q * (n : Rat)).den : Int)
theorem comD_eq {D : Nat} (hD : 0 < D) : ∀ (P : List Int) (G : Nat), G ∣ D → comD ((D / G : Nat) : Int) (P.map (fun p => Rat.divInt p (D : Int))) = ((D / gcdL G P : Nat) : Int)
  | [], G, hG => rfl
  | p :: P, G, hG => by
    simp only [List.map_cons, comD, gcdL]
    have hGp : 0 < G := Nat.pos_of_dvd_of_pos hG hD
    have hd : 0 < D / G := Nat.div_pos (Nat.le_of_dvd hD hG) hGp
    have hden : ((Rat.divInt p (D : Int)).den : Int) = ((D / Nat.gcd p.natAbs D : Nat) : Int) := by
      rw [(divInt_parts (x := p) (y := (D : Int)) (by omega)).2]
      rw [Int.natCast_ediv]; rfl
    have hnum : (Rat.divInt ((D / Nat.gcd p.natAbs D : Nat) : Int) ((D / G : Nat) : Int)).num = ((D / Nat.gcd p.natAbs D / Nat.gcd (D / Nat.gcd p.natAbs D) (D / G) : Nat) : Int) := by
      rw [(divInt_parts (by omega)).1]
      rw [Int.natCast_ediv (D / Nat.gcd p.natAbs D)]; rfl
    rw [hden, hnum, ← Int.natCast_mul, lcm_step hD hG (Nat.gcd_dvd_right _ _)]
    have e : Nat.gcd G (Nat.gcd p.natAbs D) = Nat.gcd G p.natAbs := by
      rw [Nat.gcd_comm p.natAbs, ← Nat.gcd_assoc, Nat.gcd_eq_left hG]
    rw [e]
    exact comD_eq hD P (Nat.gcd G p.natAbs) (Nat.dvd_trans (Nat.gcd_dvd_left _ _) hG)
theorem divInt_one (t : Int) : Rat.divInt t 1 = (t : Rat) := by
  have := Rat.num_divInt_den (t : Rat)
  rw [Rat.num_intCast, Rat.den_intCast] at this
  exact this
theorem comP_eq {D : Nat} (hD : 0 < D) (P : List Int) : comP ((D / gcdL D P : Nat) : Int) (P.map (fun p => Rat.divInt p (D : Int))) = P.map (fun p => p / (gcdL D P : Int)) := by
  unfold comP
  rw [List.map_map]
  refine List.map_congr_left (fun p hp => ?_)
  obtain ⟨h1, h2⟩ := gcdL_dvd P D
  have hx := h2 p hp
  generalize gcdL D P = G at *
  have hG : 0 < G := Nat.pos_of_dvd_of_pos h1 hD
  obtain ⟨E, rfl⟩ := h1
  have hE : 0 < E := Nat.pos_of_mul_pos_left hD
  obtain ⟨t, rfl⟩ : ∃ t : Int, p = G * t := Int.ofNat_dvd_left.2 hx
  show (Rat.divInt (G * t) ((G * E : Nat) : Int) * (((G * E / G : Nat) : Int) : Rat)).num / _ = _
  have e1 : G * E / G = E := Nat.mul_div_cancel_left _ hG
  have e2 : Rat.divInt (G * t) ((G * E : Nat) : Int) * (((G * E / G : Nat) : Int) : Rat) = ((t : Int) : Rat) := by
    rw [e1]
    have : (((E : Nat) : Int) : Rat) = Rat.divInt (E : Int) 1 := by rw [divInt_one]
    rw [this, Rat.divInt_mul_divInt, Int.mul_one, Int.natCast_mul]
    rw [show (G : Int) * t * (E : Int) = t * ((G : Int) * E) by grind]
    have h0 : (G : Int) * E ≠ 0 := by
      have : 0 < (G : Int) * E := Int.mul_pos (by omega) (by omega)
      omega
    have := Rat.divInt_mul_right (n := t) (d := 1) h0
    rw [Int.one_mul] at this
    rw [this, divInt_one]
  simp only [Function.comp]
  rw [e2, Rat.num_intCast, Rat.den_intCast, Int.mul_ediv_cancel_left _ (by omega)]
  simp
/-- Both. -/
theorem com_shape {D : Nat} (hD : 0 < D) (P : List Int) : comD 1 (P.map (fun p => Rat.divInt p (D : Int))) = (D : Int) / (gcdL 0 (P ++ [(D : Int)]) : Int) ∧ comP ((D : Int) / (gcdL 0 (P ++ [(D : Int)]) : Int)) (P.map (fun p => Rat.divInt p (D : Int))) = P.map (fun p => p / (gcdL 0 (P ++ [(D : Int)]) : Int)) := by
  rw [gcdL_last]
  have h1 := comD_eq hD P D (Nat.dvd_refl D)
  rw [Nat.div_self hD] at h1
  have h2 := comP_eq hD P
  rw [Int.natCast_ediv] at h1 h2
  exact ⟨h1, h2⟩
end Go.Proofs
/- Contracts of ModalShapes: shape, Common. -/
namespace Go.Proofs
open Go Go.Sx Go.Vx
set_option maxRecDepth 100000
def bigI : Int := 1000000000000000000
theorem tdiv_ok {x : Int} {G : Nat} (hx : -1000000000000000000 ≤ x ∧ x ≤ 1000000000000000000) (hd : G ∣ x.natAbs) (hG : 0 < G) : w64 (x.tdiv (G : Int)) = x / (G : Int) := by
  obtain ⟨t, rfl⟩ : ∃ t : Int, x = G * t := Int.ofNat_dvd_left.2 hd
  have e : ((G : Int) * t).tdiv G = t := Int.mul_tdiv_cancel_left _ (by omega)
  rw [e, Int.mul_ediv_cancel_left _ (by omega)]
  have : t.natAbs ≤ ((G : Int) * t).natAbs := by
    rw [Int.natAbs_mul]; exact Nat.le_mul_of_pos_left _ (by omega)
  rw [w64_id (by omega) (by omega)]
theorem take_snocF {α β : Type} (f : α → β) (d : α) {l : List α} {i : Nat} (h : i < l.length) : (l.take i).map f ++ [f (l.getD i d)] = (l.take (i + 1)).map f := by
  rw [List.take_add_one, List.map_append, List.getElem?_eq_getElem h, List.getD_eq_getElem?_getD, List.getElem?_eq_getElem h]; rfl
section
variable {l : List Int} {G : Nat} (hl : l.length ≤ 1000) (hb : ∀ x ∈ l, (-1000000000000000000 ≤ x ∧ x ≤ 1000000000000000000) ∧ G ∣ x.natAbs) (hG : 0 < G)
include hl hb hG
theorem at59_1 {x4 d : Int} : ∀ (n i : Nat), l.length = i + n → AtV vt1 59 0 (tblL [(4, .ptr 0 0), (5, .int (G : Int)), (6, .ptr 1 0), (19, LT l), (20, .int (l.length : Int)), (21, .int (i : Int))]) [.box [.int x4, .nils], .box [.int d, .own 2], .row true 1 (ints ((l.take i).map (· / (G : Int))))] (.agg [.int d, L (l.map (· / (G : Int)))])
  | 0, i, h => AtV.by (fun ih => e59_0_1 ih _ _ _ _ _ _ _) (EvR.no (decide_eq_false (by omega)) (EvR.ret' (by rw [List.take_of_length_le (by omega)])))
  | n + 1, i, h => by
    have hx := hb _ (mem_getD (d := 0) (l := l) (i := i) (by omega))
    refine AtV.by (fun ih => e59_0_1 ih _ _ _ _ _ _ _) (EvR.yes (decide_eq_true (by omega)) (EvR.yes (okR_ok (by omega) (by omega)) (EvR.no (decide_eq_false (by omega)) (EvR.yes (lenOk_ints (by simp; omega)) ?_))))
    rw [asI_ints, Int.toNat_natCast, wnat (by omega), tdiv_ok hx.1 hx.2 hG, ints_snoc, take_snocF (· / (G : Int)) 0 (by omega)]
    exact at59_1 n (i + 1) (by omega)
theorem at59 {x4 d : Int} : AtV vt1 59 0 (tblL [(4, .ptr 0 0), (5, .int (G : Int)), (6, .ptr 1 0), (19, LT l), (20, .int (l.length : Int)), (21, .int 0)]) [.box [.int x4, .nils], .box [.int d, .nils]] (.agg [.int d, L (l.map (· / (G : Int)))]) := by
  by_cases h0 : l.length = 0
  · have : l = [] := List.eq_nil_of_length_eq_zero h0
    subst this
    exact AtV.by (fun ih => e59_0 ih _ _ _ _ _ _) (EvR.no rfl (EvR.ret' rfl))
  · have hx := hb _ (mem_getD (d := 0) (l := l) (i := 0) (by omega))
    refine AtV.by (fun ih => e59_0 ih _ _ _ _ _ _) (EvR.yes (decide_eq_true (by omega)) (EvR.yes (okR_ok (by omega) (by omega)) (EvR.no (decide_eq_false (by omega)) ?_)))
    rw [asI_ints]
    show EvR vt1 (fun ih => ih.at_ 59 0 (tblL [(4, .ptr 0 0), (5, .int (G : Int)), (6, .ptr 1 0), (19, LT l), (20, .int (l.length : Int)), (21, .int 1)]) [.box [.int x4, .nils], .box [.int d, .own 2], .row true 1 [.int (w64 ((l.getD 0 0).tdiv (G : Int)))]]) _
    rw [tdiv_ok hx.1 hx.2 hG]
    have := at59_1 hl hb hG (x4 := x4) (d := d) (l.length - 1) 1 (by omega)
    rw [← take_snocF (· / (G : Int)) 0 (l := l) (i := 0) (by omega)] at this
    exact this
end
/-- A shape: parts over a denominator, in lowest terms. -/
def shp (P : List Int) (D : Int) : DV := .agg [.int (D / (gcdL 0 (P ++ [D]) : Int)), L (P.map (· / (gcdL 0 (P ++ [D]) : Int)))]
theorem c59 {P : List Int} {D : Int} (hl : P.length ≤ 100) (hD : 0 < D ∧ D ≤ 1000000000000000000) (hb : ∀ x ∈ P, -1000000000000000000 ≤ x ∧ x ≤ 1000000000000000000) : CallV vt1 59 [LT P, .int D] (shp P D) := by
  obtain ⟨g1, g2⟩ := gcdL_dvd (P ++ [D]) 0
  have hgD : gcdL 0 (P ++ [D]) ∣ D.natAbs := g2 D (by simp)
  have hG : 0 < gcdL 0 (P ++ [D]) := Nat.pos_of_dvd_of_pos hgD (by omega)
  have hle := Nat.le_of_dvd (by omega) hgD
  have k := c94g (l := P ++ [D]) (by simp; omega) (by omega)
  unfold shp
  generalize gcdL 0 (P ++ [D]) = G at *
  refine CallV.by (fun ih => e59 ih _ _) (EvR.yes (by simp; omega) (EvR.yes (lenOk_ints (by simp; omega)) ?_))
  rw [ints_snoc]
  refine EvR.call k (EvR.yes (isRes_int _) (EvR.no (decide_eq_false (by rw [asI_int]; omega)) ?_))
  rw [asI_int, tdiv_ok (by omega) hgD hG, List.length_map]
  exact at59 (by omega) (fun x hx => ⟨hb x hx, g2 x (by simp [hx])⟩) hG
/-! ### Common -/
theorem rowQ (q : Rat) : isRow ⟨true, [.int, .list 1, .int, .list 1]⟩ (RW q) = true := rfl
abbrev LQ (l : List Rat) : DV := .list true false 4 (l.map RW)
theorem getD_LQ {l : List Rat} {i : Nat} (h : i < l.length) : (l.map RW).getD i .undef = RW (l.getD i 0) := by
  simp [List.getD_eq_getElem?_getD, h]
theorem inR_LQ {l : List Rat} {i : Int} (h0 : 0 ≤ i) (h : i < l.length) : inR i (l.map RW) = true := by simp [inR, h0, h]
theorem okR_LQ {l : List Rat} {i : Int} (h0 : 0 ≤ i) (h : i < l.length) : okR (l.map RW) i ⟨true, [.int, .list 1, .int, .list 1]⟩ = true := by
  unfold okR
  rw [inR_LQ h0 h, getD_LQ (by omega), rowQ]; rfl
theorem c96' {x d : Int} (hd : d ≠ 0) (dn : dl x ≤ 1000) (dd : dl d ≤ 1000) : CallV vt1 96 [.agg [.int x.sign, L (digits x.natAbs)], .agg [.int d.sign, L (digits d.natAbs)]] (RW (Rat.divInt x d)) := c96 hd (by omega) (by omega)
theorem dvd_div_pos {x g : Int} (hx : 0 < x) (hg : 0 < g) (h : g ∣ x) : 0 < x / g := by
  obtain ⟨t, rfl⟩ := h
  rw [Int.mul_ediv_cancel_left _ (by omega)]
  exact Int.pos_of_mul_pos_right hx hg
theorem num_pos (q : Rat) {d : Int} (h0 : 0 < d) : 0 < (Rat.divInt (q.den : Int) d).num := by
  rw [(divInt_parts h0).1]
  have hq := q.den_nz
  have hgp : 0 < (Int.gcd (q.den : Int) d : Int) := by have := Int.gcd_pos_of_ne_zero_right (q.den : Int) (b := d) (by omega); omega
  exact dvd_div_pos (by omega) hgp (Int.gcd_dvd_left _ _)
theorem comD_ge : ∀ (l : List Rat) (d : Int), 0 < d → d ≤ comD d l
  | [], d, _ => Int.le_refl d
  | q :: l, d, h => by
    have hp := num_pos q h
    have h1 : d ≤ d * (Rat.divInt (q.den : Int) d).num := by
      have := Int.mul_le_mul_of_nonneg_left (show (1 : Int) ≤ (Rat.divInt (q.den : Int) d).num by omega) (show 0 ≤ d by omega)
      omega
    simp only [comD]
    have := comD_ge l (d * (Rat.divInt (q.den : Int) d).num) (by omega)
    omega
theorem at63 {l : List Rat} {N : Int} {v : DV} (hl : l.length ≤ 1000) (hN : N ≤ 1000000000000000000) (hq : ∀ q ∈ l, (q.den : Int) ≤ 1000000000000000000) (hk : AtV vt1 63 1 (tblL [(0, LQ l), (2, .ptr 0 0), (5, .int N), (7, .ptr 1 0), (8, .int 0)]) [.box [.int 0, .nils], .box [.int N, .nils]] v) :
    ∀ (n i : Nat) (d : Int), l.length = i + n → (0 < d) → comD d (l.drop i) = N →
      AtV vt1 63 0 (tblL [(0, LQ l), (2, .ptr 0 0), (3, .ptr 1 0), (4, .int (i : Int))]) [.box [.int 0, .nils], .box [.int d.sign, L (digits d.natAbs)]] v
  | 0, i, d, h, h0, hc => by
    rw [List.drop_eq_nil_of_le (by omega), comD] at hc
    subst hc
    have k := c99 (n := d) (by have := dl_small (n := d) (by omega) (by omega); omega)
    rw [if_pos (by omega)] at k
    refine AtV.by (fun ih => e63_0 ih _ _ _ _ _) (EvR.no (decide_eq_false (by rw [List.length_map]; omega)) (EvR.call k (EvR.yes rfl ?_)))
    exact hk
  | n + 1, i, d, h, h0, hc => by
    rw [dropI 0 (by omega), comD] at hc
    have hqi := hq _ (mem_getD (d := 0) (l := l) (i := i) (by omega))
    generalize hQ : l.getD i 0 = q at *
    have hp := num_pos q h0
    have hge := comD_ge (l.drop (i + 1)) _ (Int.mul_pos h0 hp)
    rw [hc] at hge
    have hdm : d ≤ d * (Rat.divInt (q.den : Int) d).num := by
      have := Int.mul_le_mul_of_nonneg_left (show (1 : Int) ≤ (Rat.divInt (q.den : Int) d).num by omega) (show 0 ≤ d by omega)
      omega
    have hmm : (Rat.divInt (q.den : Int) d).num ≤ d * (Rat.divInt (q.den : Int) d).num := by
      have := Int.mul_le_mul_of_nonneg_right (show (1 : Int) ≤ d by omega) (show 0 ≤ (Rat.divInt (q.den : Int) d).num by omega)
      omega
    have s1 := dl_small (n := (q.den : Int)) (by omega) (by omega)
    have s2 := dl_small (n := d) (by omega) (by omega)
    have s3 := dl_small (n := (Rat.divInt (q.den : Int) d).num) (by omega) (by omega)
    have k1 := c96' (x := (q.den : Int)) (d := d) (by omega) (by omega) (by omega)
    have k2 := c98 (a := d) (b := (Rat.divInt (q.den : Int) d).num) (by omega) (by omega)
    refine AtV.by (fun ih => e63_0 ih _ _ _ _ _) (EvR.yes (decide_eq_true (by rw [List.length_map]; omega)) (EvR.yes (okR_LQ (by omega) (by omega)) ?_))
    rw [Int.toNat_natCast, getD_LQ (by omega), hQ, wnat (by omega)]
    refine EvR.call k1 (EvR.yes (isRes_RW _) (EvR.call k2 (EvR.yes rfl ?_)))
    exact at63 hl hN hq hk n (i + 1) _ (by omega) (Int.mul_pos h0 hp) hc
theorem rl_intCast {n : Int} (h : -9223372036854775807 ≤ n ∧ n ≤ 9223372036854775807) : rl (n : Rat) ≤ 10 := by
  have := dl_small (n := n) (by omega) (by omega)
  have := dl_small (n := 1) (by omega) (by omega)
  unfold rl
  rw [Rat.num_intCast, Rat.den_intCast]
  exact Nat.max_le.2 ⟨by omega, by simpa using (by omega : dl 1 ≤ 10)⟩
section
variable {l : List Rat} {N : Int} (hl : l.length ≤ 1000) (hN : 0 < N ∧ N ≤ 1000000000000000000) (hq : ∀ q ∈ l, rl q ≤ 100) (hp : ∀ q ∈ l, (q * (N : Rat)).den = 1 ∧ (-1000000000000000000 ≤ (q * (N : Rat)).num ∧ (q * (N : Rat)).num ≤ 1000000000000000000))
include hl hN hq hp
omit hl in
theorem row63 {i : Nat} (hi : i < l.length) {F : Int → VIh → Res} {v : DV} (hk : EvR vt1 (F ((comP N l).getD i 0)) v) :
    EvR vt1 (fun ih => bindC (ih.call 52 [DV.int N]) fun r2 =>
     (bif isRes [{ ag := true, css := [CS.int, CS.list 1, CS.int, CS.list 1] }] r2 then
      bindC (ih.call 67 [RW (l.getD i 0), DV.agg
    [DV.int (asI (cellOf r2 0)), DV.list false false 1 (asR (cellOf r2 1)), DV.int (asI (cellOf r2 2)),
      DV.list false false 1 (asR (cellOf r2 3))]]) fun r4 =>
       (bif isRes [{ ag := true, css := [CS.int, CS.list 1, CS.int, CS.list 1] }] r4 then
        bindC (ih.call 103 [DV.agg
    [DV.int (asI (cellOf r4 0)), DV.list false false 1 (asR (cellOf r4 1)), DV.int (asI (cellOf r4 2)),
      DV.list false false 1 (asR (cellOf r4 3))]]) fun r6 =>
         (bif isRes [{ ag := true, css := [CS.int, CS.list 1] }] r6 then
          bindC (ih.call 99 [DV.agg [DV.int (asI (cellOf r6 0)), DV.list false false 1 (asR (cellOf r6 1))]]) fun r8 =>
           (bif isRes [{ ag := false, css := [CS.int] }, { ag := false, css := [CS.bool] }] r8 then
            F (asI ((tupL r8).getD 0 DV.undef)) ih
           else none)
         else none)
       else none)
     else none)) v := by
  have hmem := mem_getD (d := 0) (l := l) (i := i) hi
  have hqi := hq _ hmem
  have hpi := hp _ hmem
  have e : (comP N l).getD i 0 = (l.getD i 0 * (N : Rat)).num := by
    unfold comP
    rw [List.getD_eq_getElem?_getD, List.getElem?_map, List.getElem?_eq_getElem hi, List.getD_eq_getElem?_getD, List.getElem?_eq_getElem hi]
    simp only [Option.map_some, Option.getD_some]
    have hpi' := hp _ (List.getElem_mem hi)
    rw [hpi'.1]; simp
  generalize l.getD i 0 = q at *
  rw [e] at hk
  have k1 := c52 (n := N) (by omega) (by omega)
  have k2 := c67 (a := q) (b := (N : Rat)) (by omega) (by have := rl_intCast (n := N) (by omega); omega)
  have hr : rl (q * (N : Rat)) ≤ 10 := by
    have := dl_small (n := (q * (N : Rat)).num) (by omega) (by omega)
    have := dl_small (n := 1) (by omega) (by omega)
    unfold rl
    rw [hpi.1]
    exact Nat.max_le.2 ⟨by omega, by simpa using (by omega : dl 1 ≤ 10)⟩
  have k3 := c103 (a := q * (N : Rat)) (by omega)
  rw [hpi.1, Int.natCast_one, Int.ediv_one] at k3
  have k4 := c99 (n := (q * (N : Rat)).num) (by have := dl_small (n := (q * (N : Rat)).num) (by omega) (by omega); omega)
  rw [if_pos (by omega)] at k4
  exact EvR.call k1 (EvR.yes (isRes_RW _) (EvR.call k2 (EvR.yes (isRes_RW _) (EvR.call k3 (EvR.yes rfl (EvR.call k4 (EvR.yes rfl hk)))))))
theorem at63_1 {x3 : Int} : ∀ (n i : Nat), l.length = i + n → AtV vt1 63 1 (tblL [(0, LQ l), (2, .ptr 0 0), (5, .int N), (7, .ptr 1 0), (8, .int (i : Int))]) [.box [.int x3, .nils], .box [.int N, .own 2], .row true 1 (ints ((comP N l).take i))] (.agg [.int N, L (comP N l)])
  | 0, i, h => AtV.by (fun ih => e63_1_1 ih _ _ _ _ _ _) (EvR.no (decide_eq_false (by rw [List.length_map]; omega)) (EvR.ret' (by rw [List.take_of_length_le (by simp [comP]; omega)])))
  | n + 1, i, h => by
    refine AtV.by (fun ih => e63_1_1 ih _ _ _ _ _ _) (EvR.yes (decide_eq_true (by rw [List.length_map]; omega)) (EvR.yes (okR_LQ (by omega) (by omega)) ?_))
    rw [Int.toNat_natCast, getD_LQ (by omega), wnat (by omega)]
    refine row63 hN hq hp (i := i) (by omega) (F := fun x ih => bif lenOk (ints ((comP N l).take i)) [DV.int x] then ih.at_ 63 1 (tblL [(0, LQ l), (2, .ptr 0 0), (5, .int N), (7, .ptr 1 0), (8, .int ((i + 1 : Nat) : Int))]) [.box [.int x3, .nils], .box [.int N, .own 2], .row true 1 (ints ((comP N l).take i) ++ [DV.int x])] else none) ?_
    refine EvR.yes (lenOk_ints (by simp [comP]; omega)) ?_
    have e := take_snocF id 0 (l := comP N l) (i := i) (by simp [comP]; omega)
    simp only [List.map_id, id] at e
    rw [ints_snoc, e]
    exact at63_1 n (i + 1) (by omega)
theorem at63_10 {x3 : Int} : AtV vt1 63 1 (tblL [(0, LQ l), (2, .ptr 0 0), (5, .int N), (7, .ptr 1 0), (8, .int 0)]) [.box [.int x3, .nils], .box [.int N, .nils]] (.agg [.int N, L (comP N l)]) := by
  by_cases h0 : l.length = 0
  · have : l = [] := List.eq_nil_of_length_eq_zero h0
    subst this
    exact AtV.by (fun ih => e63_1 ih _ _ _ _ _) (EvR.no rfl (EvR.ret' rfl))
  · refine AtV.by (fun ih => e63_1 ih _ _ _ _ _) (EvR.yes (decide_eq_true (by rw [List.length_map]; omega)) (EvR.yes (okR_LQ (by omega) (by omega)) ?_))
    show EvR vt1 (fun ih => bindC (ih.call 52 [DV.int N]) fun r2 => (bif isRes [{ ag := true, css := [CS.int, CS.list 1, CS.int, CS.list 1] }] r2 then bindC (ih.call 67 [DV.agg [DV.int (asI (cellOf ((l.map RW).getD 0 DV.undef) 0)), DV.list false false 1 (asR (cellOf ((l.map RW).getD 0 DV.undef) 1)), DV.int (asI (cellOf ((l.map RW).getD 0 DV.undef) 2)), DV.list false false 1 (asR (cellOf ((l.map RW).getD 0 DV.undef) 3))], _]) _ else none)) _
    rw [getD_LQ (by omega)]
    refine row63 hN hq hp (i := 0) (by omega) (F := fun x ih => ih.at_ 63 1 (tblL [(0, LQ l), (2, .ptr 0 0), (5, .int N), (7, .ptr 1 0), (8, .int 1)]) [.box [.int x3, .nils], .box [.int N, .own 2], .row true 1 [DV.int x]]) ?_
    have e := take_snocF id 0 (l := comP N l) (i := 0) (by simp [comP]; omega)
    have := at63_1 hl hN hq hp (x3 := x3) (l.length - 1) 1 (by omega)
    simp only [List.map_id, id] at e
    rw [← e] at this
    exact this
end
end Go.Proofs
/- Contracts of SensorImages: the reference's error. -/
namespace Go.Proofs
open Go Go.Sx Go.Vx
set_option maxRecDepth 100000
def resI (odd z : Bool) : Int := if odd then 2 else if z then 11 else 0
section
variable {im : List (List Int)} (h12 : im.length ≤ 12) (hr : ∀ i, i < im.length → (im.getD i []).length ≤ 12)
include h12 hr
theorem at34_2 {i : Nat} (hi : i < im.length) {ro rd : Bool} (hk : ∀ s : Int, 0 ≤ s → s ≤ 3060 * ((i : Int) + 1) → AtV vt1 34 1 (tblL [(0, LL im), (4, .int s), (5, .int ((i + 1 : Nat) : Int))]) [] (.int (resI ro (decide (s = 0) && rd)))) :
    ∀ (n j : Nat) (s : Int), (im.getD i []).length = j + n → 0 ≤ s → s ≤ 3060 * (i : Int) + 255 * (j : Int) →
      AtV vt1 34 2 (tblL [(0, LL im), (4, .int s), (5, .int (i : Int)), (6, .int (j : Int))]) [] (.int (resI (((im.getD i []).drop j).any oddP || ro) (decide (s = 0) && (!(((im.getD i []).drop j).any litP) && rd))))
  | 0, j, s, h, h0, h1 => by
    have := hr i hi
    refine AtV.by (fun ih => e34_2 ih _ _ _ _) (EvR.yes (okR_LL (by omega) (by omega)) ?_)
    rw [Int.toNat_natCast, getD_LL hi, asR_list, List.length_map, wnat (i := i) (by omega), List.drop_eq_nil_of_le (by omega)]
    refine EvR.no (decide_eq_false (by omega)) ?_
    have := hk s h0 (by omega)
    simp only [List.any_nil, Bool.false_or, Bool.not_false, Bool.true_and]
    exact this
  | n + 1, j, s, h, h0, h1 => by
    have := hr i hi
    refine AtV.by (fun ih => e34_2 ih _ _ _ _) (EvR.yes (okR_LL (by omega) (by omega)) ?_)
    rw [Int.toNat_natCast, getD_LL hi, asR_list, List.length_map, Int.toNat_natCast, asI_ints, wnat (i := j) (by omega), dropI 0 (by omega), List.any_cons, List.any_cons]
    refine EvR.yes (decide_eq_true (by omega)) (EvR.yes (okR_LL (by omega) (by omega)) (EvR.yes (okR_ok (by omega) (by omega)) (EvR.call (c50 _ _ _) (EvR.yes (isRes_bool _) ?_))))
    rw [asB_bool]
    by_cases hp : 0 ≤ (im.getD i []).getD j 0 ∧ (im.getD i []).getD j 0 ≤ 255
    · have ho : oddP ((im.getD i []).getD j 0) = false := by unfold oddP; rw [decide_eq_true hp]; rfl
      rw [ho, decide_eq_true hp, Bool.false_or]
      refine EvR.no rfl (EvR.yes (okR_LL (by omega) (by omega)) (EvR.yes (okR_ok (by omega) (by omega)) ?_))
      rw [w64_id (by omega) (by omega)]
      have := at34_2 hi hk n (j + 1) (s + (im.getD i []).getD j 0) (by omega) (by omega) (by omega)
      have e : (decide (s + (im.getD i []).getD j 0 = 0) && (!((im.getD i []).drop (j + 1)).any litP && rd)) = (decide (s = 0) && (!(litP ((im.getD i []).getD j 0) || ((im.getD i []).drop (j + 1)).any litP) && rd)) := by
        unfold litP
        by_cases hs : s = 0
        · subst hs
          by_cases hq : (im.getD i []).getD j 0 = 0
          · simp only [hq]; simp
          · rw [decide_eq_false (show ¬ (0 + (im.getD i []).getD j 0 = 0) by omega), decide_eq_false hq]; simp
        · rw [decide_eq_false hs, decide_eq_false (show ¬ (s + (im.getD i []).getD j 0 = 0) by omega)]; simp
      rw [e] at this
      exact this
    · have ho : oddP ((im.getD i []).getD j 0) = true := by unfold oddP; rw [decide_eq_false hp]; rfl
      rw [ho, decide_eq_false hp]
      exact EvR.yes rfl (EvR.ret' (by simp [resI]))
theorem at34_1 : ∀ (n i : Nat) (s : Int), im.length = i + n → 0 ≤ s → s ≤ 3060 * (i : Int) →
    AtV vt1 34 1 (tblL [(0, LL im), (4, .int s), (5, .int (i : Int))]) [] (.int (resI ((im.drop i).any (·.any oddP)) (decide (s = 0) && (im.drop i).all (fun r => !(r.any litP)))))
  | 0, i, s, h, h0, h1 => by
    refine AtV.by (fun ih => e34_1 ih _ _ _) (EvR.no (decide_eq_false (by rw [List.length_map]; omega)) ?_)
    rw [List.drop_eq_nil_of_le (by omega)]
    simp only [List.any_nil, List.all_nil, Bool.and_true, resI]
    refine EvR.cond (fun h => EvR.ret' (by simp [h])) (fun h => EvR.ret' (by simp [h]))
  | n + 1, i, s, h, h0, h1 => by
    refine AtV.by (fun ih => e34_1 ih _ _ _) (EvR.yes (decide_eq_true (by rw [List.length_map]; omega)) ?_)
    rw [dropI [] (by omega), List.any_cons, List.all_cons]
    have := at34_2 h12 hr (i := i) (by omega) (ro := (im.drop (i + 1)).any (·.any oddP)) (rd := (im.drop (i + 1)).all (fun r => !(r.any litP))) (fun s' g0 g1 => at34_1 n (i + 1) s' (by omega) g0 (by omega)) (im.getD i []).length 0 s (by omega) h0 (by omega)
    rw [List.drop_zero] at this
    exact this
omit h12 in
theorem at34_0 (hw : 0 < im.length) (hw2 : wide im ≠ 0) (h12 : im.length ≤ 12) : ∀ (n i : Nat), im.length = i + n →
    AtV vt1 34 0 (tblL [(0, LL im), (3, .int (i : Int))]) [] (.int (if (im.drop i).any (fun r => !decide ((r.length : Int) = wide im)) then 10 else if 10 < im.length then 8 else if 10 < wide im then 8 else resI (im.any (·.any oddP)) (im.all (fun r => !(r.any litP)))))
  | 0, i, h => by
    refine AtV.by (fun ih => e34_0 ih _ _) (EvR.no (decide_eq_false (by rw [List.length_map]; omega)) ?_)
    rw [List.drop_eq_nil_of_le (by omega), List.any_nil, List.length_map]
    simp only [Bool.false_eq_true, if_false]
    by_cases g1 : 10 < im.length
    · rw [if_pos g1]; exact EvR.yes (decide_eq_true (by omega)) EvR.ret
    · rw [if_neg g1]
      refine EvR.no (decide_eq_false (by omega)) (EvR.yes (okR_LL (by omega) (by omega)) ?_)
      rw [getD_LL hw, asR_list, List.length_map]
      by_cases g2 : 10 < wide im
      · rw [if_pos g2]; exact EvR.yes (decide_eq_true (by unfold wide at g2; omega)) EvR.ret
      · rw [if_neg g2]
        refine EvR.no (decide_eq_false (by unfold wide at g2; omega)) ?_
        have := at34_1 h12 hr im.length 0 0 (by omega) (by omega) (by omega)
        rw [List.drop_zero] at this
        exact this
  | n + 1, i, h => by
    refine AtV.by (fun ih => e34_0 ih _ _) (EvR.yes (decide_eq_true (by rw [List.length_map]; omega)) (EvR.yes (okR_LL (by omega) (by omega)) (EvR.yes (okR_LL (by omega) (by omega)) ?_)))
    rw [Int.toNat_natCast, getD_LL (i := i) (by omega), getD_LL hw, asR_list, asR_list, List.length_map, List.length_map, wnat (by omega), dropI [] (by omega), List.any_cons]
    by_cases g : ((im.getD i []).length : Int) = wide im
    · have g' : ((im.getD i []).length : Int) = (im.getD 0 []).length := g
      rw [decide_eq_true g, decide_eq_true g']
      exact EvR.no rfl (at34_0 hw hw2 h12 n (i + 1) (by omega))
    · have g' : ¬ ((im.getD i []).length : Int) = (im.getD 0 []).length := g
      rw [decide_eq_false g, decide_eq_false g']
      exact EvR.yes rfl (EvR.ret' (by simp))
/-- The reference's ImageErr. -/
theorem c34 : CallV vt1 34 [LL im] (.int (errI im)) := by
  refine CallV.by (fun ih => e34 ih _) ?_
  rw [List.length_map]
  by_cases h0 : im.length = 0
  · have : im = [] := List.eq_nil_of_length_eq_zero h0
    subst this
    exact EvR.yes rfl (EvR.ret' rfl)
  · refine EvR.no (decide_eq_false (by omega)) (EvR.yes (okR_LL (by omega) (by omega)) ?_)
    rw [getD_LL (by omega), asR_list, List.length_map]
    by_cases hw : wide im = 0
    · have hw' : (im.getD 0 []).length = 0 := hw
      refine EvR.yes (decide_eq_true (by omega)) (EvR.ret' ?_)
      unfold errI errP
      rw [hw]; simp [firstNZ]
    · have hw' : ¬ (im.getD 0 []).length = 0 := hw
      refine EvR.no (decide_eq_false (by omega)) ?_
      have k := at34_0 hr (by omega) hw h12 im.length 0 (by omega)
      rw [List.drop_zero] at k
      have e : errI im = (if im.any (fun r => !decide ((r.length : Int) = wide im)) then 10 else if 10 < im.length then 8 else if 10 < wide im then 8 else resI (im.any (·.any oddP)) (im.all (fun r => !(r.any litP)))) := by
        unfold errI errP uneven resI
        have w1 : (decide ((0 : Int) < (wide im : Int))) = true := decide_eq_true (by omega)
        rw [w1]
        generalize im.any (fun r => !decide ((r.length : Int) = wide im)) = A
        generalize im.any (·.any oddP) = B
        generalize im.all (fun r => !(r.any litP)) = C
        by_cases g1 : 10 < im.length <;> by_cases g2 : 10 < wide im
        all_goals
          have w2 : decide ((wide im : Int) ≤ 10) = decide (¬ 10 < wide im) := decide_eq_decide.2 (by omega)
          have w3 : decide ((im.length : Int) ≤ 10) = decide (¬ 10 < im.length) := decide_eq_decide.2 (by omega)
          rw [w2, w3]
          cases A <;> cases B <;> cases C <;> simp [firstNZ, g1, g2]
      rw [e]
      exact k
end
end Go.Proofs
/- Contracts of SensorImages: weights, centers. -/
namespace Go.Proofs
open Go Go.Sx Go.Vx
set_option maxRecDepth 100000
section
variable {im : List (List Int)} (h12 : im.length ≤ 12) (hr : ∀ i, i < im.length → (im.getD i []).length ≤ 12)
include h12 hr
omit h12 in
theorem at84_1 {x7 x8 x9 : Int} {v : DV} {i : Nat} (hi : i < im.length) (i12 : i ≤ 12) {s' : S3} (hk : AtV vt1 84 0 (tblL [(2, .ptr 0 0), (3, .ptr 1 0), (8, LL im), (9, .int (im.length : Int)), (10, .int ((i + 1 : Nat) : Int))]) [.box [.int x7, .int x8, .int x9], .box [.int s'.1, .int s'.2.1, .int s'.2.2]] v) :
    ∀ (n j : Nat) (s : S3), (im.getD i []).length = j + n → wr1 i (im.getD i []) n j s = s' →
      AtV vt1 84 1 (tblL [(2, .ptr 0 0), (3, .ptr 1 0), (4, .int (i : Int)), (8, LL im), (9, .int (im.length : Int)), (10, .int (i : Int)), (15, L (im.getD i [])), (16, .int ((im.getD i []).length : Int)), (17, .int (j : Int))]) [.box [.int x7, .int x8, .int x9], .box [.int s.1, .int s.2.1, .int s.2.2]] v
  | 0, j, s, h, hs => by
    rw [wr1] at hs; subst hs
    refine AtV.by (fun ih => e84_1 ih _ _ _ _ _ _ _ _ _ _ _ _ _) (EvR.no (decide_eq_false (by omega)) ?_)
    rw [wnat (by omega)]
    exact hk
  | n + 1, j, s, h, hs => by
    have := hr i hi
    refine AtV.by (fun ih => e84_1 ih _ _ _ _ _ _ _ _ _ _ _ _ _) (EvR.yes (decide_eq_true (by omega)) (EvR.yes (okR_ok (by omega) (by omega)) ?_))
    rw [asI_ints, Int.toNat_natCast, wnat (i := j) (by omega)]
    rw [wr1] at hs
    exact at84_1 hi i12 hk n (j + 1) _ (by omega) hs
theorem at84 {x7 x8 x9 : Int} : ∀ (n i : Nat) (s : S3), im.length = i + n →
    AtV vt1 84 0 (tblL [(2, .ptr 0 0), (3, .ptr 1 0), (8, LL im), (9, .int (im.length : Int)), (10, .int (i : Int))]) [.box [.int x7, .int x8, .int x9], .box [.int s.1, .int s.2.1, .int s.2.2]] (.agg [.int (wim im n i s).1, .int (wim im n i s).2.1, .int (wim im n i s).2.2])
  | 0, i, s, h => AtV.by (fun ih => e84_0 ih _ _ _ _ _ _ _ _ _) (EvR.no (decide_eq_false (by omega)) EvR.ret)
  | n + 1, i, s, h => by
    refine AtV.by (fun ih => e84_0 ih _ _ _ _ _ _ _ _ _) (EvR.yes (decide_eq_true (by omega)) (EvR.yes (okR_LL (by omega) (by omega)) ?_))
    rw [Int.toNat_natCast, getD_LL (by omega), asR_list, List.length_map, wim]
    exact at84_1 hr (i := i) (by omega) (by omega) (at84 n (i + 1) _ (by omega)) (im.getD i []).length 0 s (by omega) rfl
/-- weigh. -/
theorem c84 : CallV vt1 84 [LL im] (.agg [.int (wim im im.length 0 (0, 0, 0)).1, .int (wim im im.length 0 (0, 0, 0)).2.1, .int (wim im im.length 0 (0, 0, 0)).2.2]) := by
  refine CallV.by (fun ih => e84 ih _) ?_
  rw [List.length_map]
  exact at84 h12 hr im.length 0 (0, 0, 0) (by omega)
omit h12 in
theorem at36_1 {x6 x7 x8 x9 : Int} {v : DV} {i : Nat} (hi : i < im.length) (i12 : i ≤ 12) {s' : S3} (hk : AtV vt1 36 0 (tblL [(0, LL im), (2, .ptr 0 0), (3, .int s'.1), (4, .int s'.2.1), (5, .int s'.2.2), (6, .int ((i + 1 : Nat) : Int))]) [.box [.int x6, .nils, .int x7, .nils, .int x8, .nils, .int x9, .nils]] v) :
    ∀ (n j : Nat) (s : S3), (im.getD i []).length = j + n → wr1 i (im.getD i []) n j s = s' →
      AtV vt1 36 1 (tblL [(0, LL im), (2, .ptr 0 0), (3, .int s.1), (4, .int s.2.1), (5, .int s.2.2), (6, .int (i : Int)), (7, .int (j : Int))]) [.box [.int x6, .nils, .int x7, .nils, .int x8, .nils, .int x9, .nils]] v
  | 0, j, s, h, hs => by
    rw [wr1] at hs; subst hs
    refine AtV.by (fun ih => e36_1 ih _ _ _ _ _ _ _ _ _ _) (EvR.yes (okR_LL (by omega) (by omega)) ?_)
    rw [Int.toNat_natCast, getD_LL hi, asR_list, List.length_map, wnat (i := i) (by omega)]
    exact EvR.no (decide_eq_false (by omega)) hk
  | n + 1, j, s, h, hs => by
    have := hr i hi
    refine AtV.by (fun ih => e36_1 ih _ _ _ _ _ _ _ _ _ _) (EvR.yes (okR_LL (by omega) (by omega)) ?_)
    rw [Int.toNat_natCast, getD_LL hi, asR_list, List.length_map, asI_ints, Int.toNat_natCast, wnat (i := j) (by omega)]
    have o1 : okR (im.map L) (i : Int) ⟨false, [.list 1]⟩ = true := okR_LL (by omega) (by omega)
    have o2 : okR (ints (im.getD i [])) (j : Int) ⟨false, [.int]⟩ = true := okR_ok (by omega) (by omega)
    refine EvR.yes (decide_eq_true (by omega)) (EvR.yes o1 (EvR.yes o2 (EvR.yes o1 (EvR.yes o2 (EvR.yes o1 (EvR.yes o2 ?_))))))
    rw [wr1] at hs
    exact at36_1 hi i12 hk n (j + 1) _ (by omega) hs
/-- Two ratios. -/
def CW (p q : Rat) : DV := .agg [.int p.num.sign, L (digits p.num.natAbs), .int (p.den : Int).sign, L (digits (p.den : Int).natAbs), .int q.num.sign, L (digits q.num.natAbs), .int (q.den : Int).sign, L (digits (q.den : Int).natAbs)]
theorem at36 {x6 x7 x8 x9 : Int} {p q : Rat} : ∀ (n i : Nat) (s : S3), im.length = i + n → CallV vt1 54 [.int (wim im n i s).1, .int (wim im n i s).2.2] (RW p) → CallV vt1 54 [.int (wim im n i s).2.1, .int (wim im n i s).2.2] (RW q) →
    AtV vt1 36 0 (tblL [(0, LL im), (2, .ptr 0 0), (3, .int s.1), (4, .int s.2.1), (5, .int s.2.2), (6, .int (i : Int))]) [.box [.int x6, .nils, .int x7, .nils, .int x8, .nils, .int x9, .nils]] (CW p q)
  | 0, i, s, h, k1, k2 => AtV.by (fun ih => e36_0 ih _ _ _ _ _ _ _ _ _) (EvR.no (decide_eq_false (by rw [List.length_map]; omega)) (EvR.call k1 (EvR.yes (isRes_RW _) (EvR.call k2 (EvR.yes (isRes_RW _) (EvR.ret' rfl))))))
  | n + 1, i, s, h, k1, k2 => by
    refine AtV.by (fun ih => e36_0 ih _ _ _ _ _ _ _ _ _) (EvR.yes (decide_eq_true (by rw [List.length_map]; omega)) ?_)
    rw [wim] at k1 k2
    exact at36_1 hr (i := i) (by omega) (by omega) (at36 n (i + 1) _ (by omega) k1 k2) (im.getD i []).length 0 s (by omega) rfl
theorem c36 {p q : Rat} (k1 : CallV vt1 54 [.int (wim im im.length 0 (0, 0, 0)).1, .int (wim im im.length 0 (0, 0, 0)).2.2] (RW p)) (k2 : CallV vt1 54 [.int (wim im im.length 0 (0, 0, 0)).2.1, .int (wim im im.length 0 (0, 0, 0)).2.2] (RW q)) : CallV vt1 36 [LL im] (CW p q) :=
  CallV.by (fun ih => e36 ih _) (at36 h12 hr im.length 0 (0, 0, 0) (by omega) k1 k2)
end
/-- Two fractions. -/
def FF (p q : Rat) : DV := .agg [.int p.num, .int (p.den : Int), .int q.num, .int (q.den : Int)]
theorem c35 {p q : Rat} (h1 : p.num.natAbs ≤ 1000000000) (h2 : p.den ≤ 1000000000) (h3 : q.num.natAbs ≤ 1000000000) (h4 : q.den ≤ 1000000000) : CallV vt1 35 [CW p q] (FF p q) :=
  CallV.by (fun ih => e35 ih _ _ _ _ _ _ _ _) (EvR.call (c55 (q := p) h1 h2) (EvR.yes rfl (EvR.call (c55 (q := q) h3 h4) (EvR.yes rfl (EvR.ret' rfl)))))
/-- A valid image. -/
structure Valid (im : List (List Int)) : Prop where
  pos : 0 < im.length
  len : im.length ≤ 10
  rows : ∀ r ∈ im, r.length ≤ 10 ∧ ∀ x ∈ r, 0 ≤ x ∧ x ≤ 255
  lit : ∃ r ∈ im, ∃ x ∈ r, x ≠ 0
theorem errP_zero {w len : Int} {un odd dark : Bool} (h : errP w len un odd dark = 0) : 0 < w ∧ w ≤ 10 ∧ len ≤ 10 ∧ un = false ∧ odd = false ∧ dark = false := by
  unfold errP at h
  have key : ∀ a b c : Bool, firstNZ [if a && !un then 0 else 10, if b && c then 0 else 8, if odd then 2 else 0, if dark then 11 else 0] = 0 → a = true ∧ b = true ∧ c = true ∧ un = false ∧ odd = false ∧ dark = false := by
    intro a b c
    cases a <;> cases b <;> cases c <;> cases un <;> cases odd <;> cases dark <;> simp [firstNZ]
  obtain ⟨h1, h2, h3, h4⟩ := key _ _ _ h
  simp only [decide_eq_true_eq] at h1 h2 h3
  exact ⟨h1, h2, h3, h4⟩
theorem valid_of {im : List (List Int)} (h : errI im = 0) : Valid im := by
  obtain ⟨w1, w2, w3, hu, ho, hd⟩ := errP_zero h
  have hu' : ∀ r ∈ im, r.length = wide im := fun r hr => by
    unfold uneven at hu
    have := List.any_eq_false.1 hu r hr
    simp at this
    omega
  refine ⟨?_, by omega, fun r hr => ⟨by rw [hu' r hr]; omega, fun x hx => ?_⟩, ?_⟩
  · rcases im with _ | ⟨r, im⟩
    · simp [wide] at w1
    · simp
  · have := List.any_eq_false.1 ho r hr
    have := List.any_eq_false.1 (by simpa using this) x hx
    simpa [oddP] using this
  · obtain ⟨r, hr, h2⟩ := List.all_eq_false.1 hd
    have h2 : r.any litP = true := by simpa using h2
    obtain ⟨x, hx, h3⟩ := List.any_eq_true.1 h2
    exact ⟨r, hr, x, hx, by simpa [litP] using h3⟩
/-- The three sums of an image. -/
def sX (im : List (List Int)) : Int := sumX im
def sY (im : List (List Int)) : Int := wsm 0 (im.map tot)
def sA (im : List (List Int)) : Int := tot (im.map tot)
theorem wim_valid {im : List (List Int)} (h : Valid im) : wim im im.length 0 (0, 0, 0) = (sX im, sY im, sA im) := by
  rw [wim_eq h.len h.rows im.length 0 (0, 0, 0) (by omega) (by simp) (by simp) (by simp), List.drop_zero]
  simp [sX, sY, sA]
end Go.Proofs
/- Contracts of SensorImages: what the law calls. -/
namespace Go.Proofs
open Go Go.Sx Go.Vx
set_option maxRecDepth 100000
theorem sums_valid {im : List (List Int)} (h : Valid im) : Sums im (sX im) (sY im) (sA im) := sums_ok h.len h.rows h.lit
theorem Sums.bd {im : List (List Int)} {X Y A : Int} (h : Sums im X Y A) : (0 ≤ X ∧ X ≤ 114750) ∧ (0 ≤ Y ∧ Y ≤ 114750) ∧ 0 < A ∧ A ≤ 25500 := by
  have h1 := h.x.le
  have h2 := h.y.le
  have h3 := h.pos
  omega
def zF : DV := .agg [.int 0, .int 0, .int 0, .int 0]
theorem c31 {im : List (List Int)} (h12 : im.length ≤ 12) (hr : ∀ i, i < im.length → (im.getD i []).length ≤ 12) : CallV vt1 31 [LL im] (.tup (if errI im = 0 then [FF (Rat.divInt (sX im) (sA im)) (Rat.divInt (sY im) (sA im)), .int 0] else [zF, .int (errI im)])) := by
  refine CallV.by (fun ih => e31 ih _) (EvR.call (c83 h12 hr) (EvR.yes (isRes_int _) ?_))
  rw [asI_int]
  by_cases h : errI im = 0
  · rw [if_pos h, h]
    have V := valid_of h
    obtain ⟨b1, b2, b3⟩ := (sums_valid V).bd
    have k := c84 h12 hr
    rw [wim_valid V] at k
    refine EvR.no rfl (EvR.call k (EvR.yes rfl (EvR.call (c85 (x := sX im) (y := sA im) (by omega) (by omega)) (EvR.yes rfl (EvR.call (c85 (x := sY im) (y := sA im) (by omega) (by omega)) (EvR.yes rfl (EvR.ret' rfl)))))))
  · rw [if_neg h]
    exact EvR.yes (by rw [decide_eq_false h]; rfl) (EvR.ret' rfl)
/-- The center's move. -/
def mvd (a b c d : Int) : Rat := Rat.divInt (c * b - a * d) (b * d)
theorem mvd_eq {a b c d : Int} (hb : 0 < b) (hd : 0 < d) : Rat.divInt c d - Rat.divInt a b = mvd a b c d := by
  unfold mvd
  rw [Rat.divInt_sub_divInt _ _ (by omega) (by omega), Int.mul_comm d b]
theorem mulB {x y M N : Int} (hx : 0 ≤ x ∧ x ≤ M) (hy : 0 ≤ y ∧ y ≤ N) : 0 ≤ x * y ∧ x * y ≤ M * N := by
  have h1 := Int.mul_nonneg hx.1 hy.1
  have h2 := mulM (b := x) (y := y) (M := M) (m := N) hx hy.2 (by omega)
  exact ⟨h1, h2⟩
/-- The error of two images. -/
def errM (one two : List (List Int)) : Int := firstNZ [errI one, errI two, if one.length = two.length ∧ wide one = wide two then 0 else 13]
theorem errM_valid {one two : List (List Int)} (h : errM one two = 0) : Valid one ∧ Valid two := by
  unfold errM firstNZ at h
  split at h
  · rename_i h1
    unfold firstNZ at h
    split at h
    · rename_i h2; exact ⟨valid_of h1, valid_of h2⟩
    · rename_i h2; exact absurd h h2
  · rename_i h1; exact absurd h h1
theorem c33 {one two : List (List Int)} (h1 : one.length ≤ 12) (hr1 : ∀ i, i < one.length → (one.getD i []).length ≤ 12) (h2 : two.length ≤ 12) (hr2 : ∀ i, i < two.length → (two.getD i []).length ≤ 12) :
    CallV vt1 33 [LL one, LL two] (.tup (if errM one two = 0 then [FF (mvd (sX one) (sA one) (sX two) (sA two)) (mvd (sY one) (sA one) (sY two) (sA two)), .int 0] else [zF, .int (errM one two)])) := by
  have k1 := c83 h1 hr1
  have k2 := c83 h2 hr2
  have w1 := c84 h1 hr1
  have w2 := c84 h2 hr2
  have fin : ∀ e : Int, e = errM one two → EvR vt1 (fun ih => bif !decide (e = 0) then
            some (DV.tup [DV.agg [DV.int 0, DV.int 0, DV.int 0, DV.int 0], DV.int e])
            else bindC (ih.call 84 [LL one]) fun r14 =>
            (bif isRes [{ ag := true, css := [CS.int, CS.int, CS.int] }] r14 then
            bindC (ih.call 84 [LL two]) fun r16 =>
            (bif isRes [{ ag := true, css := [CS.int, CS.int, CS.int] }] r16 then
            bindC (ih.call 85 [DV.int (w64 (w64 (asI (cellOf r16 0) * asI (cellOf r14 2)) - w64 (asI (cellOf r14 0) * asI (cellOf r16 2)))),
  DV.int (w64 (asI (cellOf r14 2) * asI (cellOf r16 2)))]) fun r18 =>
            (bif isRes [{ ag := true, css := [CS.int, CS.int] }] r18 then
            bindC (ih.call 85 [DV.int (w64 (w64 (asI (cellOf r16 1) * asI (cellOf r14 2)) - w64 (asI (cellOf r14 1) * asI (cellOf r16 2)))),
  DV.int (w64 (asI (cellOf r14 2) * asI (cellOf r16 2)))]) fun r20 =>
            (bif isRes [{ ag := true, css := [CS.int, CS.int] }] r20 then
            some (DV.tup
  [DV.agg
      [DV.int (asI (cellOf r18 0)), DV.int (asI (cellOf r18 1)), DV.int (asI (cellOf r20 0)),
        DV.int (asI (cellOf r20 1))],
    DV.int 0])
            else none)
            else none)
            else none)
            else none)) (.tup (if errM one two = 0 then [FF (mvd (sX one) (sA one) (sX two) (sA two)) (mvd (sY one) (sA one) (sY two) (sA two)), .int 0] else [zF, .int (errM one two)])) := by
    intro e he
    subst he
    by_cases h : errM one two = 0
    · rw [if_pos h, h]
      obtain ⟨V1, V2⟩ := errM_valid h
      obtain ⟨a1, a2, a3⟩ := (sums_valid V1).bd
      obtain ⟨b1, b2, b3⟩ := (sums_valid V2).bd
      rw [wim_valid V1] at w1
      rw [wim_valid V2] at w2
      have p1 := mulB b1 (show 0 ≤ sA one ∧ sA one ≤ 25500 by omega)
      have p2 := mulB a1 (show 0 ≤ sA two ∧ sA two ≤ 25500 by omega)
      have p3 := mulB b2 (show 0 ≤ sA one ∧ sA one ≤ 25500 by omega)
      have p4 := mulB a2 (show 0 ≤ sA two ∧ sA two ≤ 25500 by omega)
      have p5 := mulB (show 0 ≤ sA one ∧ sA one ≤ 25500 by omega) (show 0 ≤ sA two ∧ sA two ≤ 25500 by omega)
      have p6 : 0 < sA one * sA two := Int.mul_pos a3.1 b3.1
      refine EvR.no rfl (EvR.call w1 (EvR.yes rfl (EvR.call w2 (EvR.yes rfl ?_))))
      simp only [cellOf_agg, List.getD_cons_zero, List.getD_cons_succ, asI_int]
      rw [w64_id (n := sX two * sA one) (by omega) (by omega), w64_id (n := sX one * sA two) (by omega) (by omega), w64_id (n := sY two * sA one) (by omega) (by omega), w64_id (n := sY one * sA two) (by omega) (by omega), w64_id (n := sA one * sA two) (by omega) (by omega), w64_id (by omega) (by omega), w64_id (by omega) (by omega)]
      exact EvR.call (c85 (by omega) (by omega)) (EvR.yes rfl (EvR.call (c85 (by omega) (by omega)) (EvR.yes rfl (EvR.ret' rfl))))
    · rw [if_neg h]
      exact EvR.yes (by rw [decide_eq_false h]; rfl) (EvR.ret' rfl)
  refine CallV.by (fun ih => e33 ih _ _) ?_
  simp only [List.length_map]
  by_cases hl : one.length = two.length
  · refine EvR.yes (decide_eq_true (by omega)) (EvR.call (c86 one) (EvR.yes (isRes_int _) (EvR.call (c86 two) (EvR.yes (isRes_int _) (EvR.call k1 (EvR.yes (isRes_int _) (EvR.call k2 (EvR.yes (isRes_int _) (EvR.call (c88 _ _) (EvR.yes (isRes_int _) ?_))))))))))
    simp only [asI_int]
    refine EvR.call (c87 (l := [_, _, _]) (by simp)) (EvR.yes (isRes_int _) ?_)
    simp only [asI_int]
    refine fin _ ?_
    have e : (if decide ((wide one : Int) = (wide two : Int)) = true then (0 : Int) else 13) = if wide one = wide two then 0 else 13 := by
      by_cases hw : wide one = wide two
      · rw [if_pos hw, decide_eq_true (by omega)]; rfl
      · rw [if_neg hw, decide_eq_false (by omega)]; rfl
    show firstNZ [errI one, errI two, if decide ((wide one : Int) = (wide two : Int)) = true then 0 else 13] = _
    rw [e]; simp [errM, hl]
  · refine EvR.no (decide_eq_false (by omega)) (EvR.call k1 (EvR.yes (isRes_int _) (EvR.call k2 (EvR.yes (isRes_int _) (EvR.call (c88 _ _) (EvR.yes (isRes_int _) ?_))))))
    simp only [asI_int]
    refine EvR.call (c87 (l := [_, _, _]) (by simp)) (EvR.yes (isRes_int _) ?_)
    simp only [asI_int]
    refine fin _ ?_
    unfold errM
    congr 4
    simp [hl]
theorem c37 {one two : List (List Int)} (h1 : one.length ≤ 12) (hr1 : ∀ i, i < one.length → (one.getD i []).length ≤ 12) (h2 : two.length ≤ 12) (hr2 : ∀ i, i < two.length → (two.getD i []).length ≤ 12) :
    CallV vt1 37 [LL one, LL two] (.int (errM one two)) := by
  refine CallV.by (fun ih => e37 ih _ _) (EvR.call (c34 h1 hr1) (EvR.yes (isRes_int _) ?_))
  rw [asI_int]
  by_cases g1 : errI one = 0
  · refine EvR.no (by rw [decide_eq_true g1]; rfl) (EvR.call (c34 h2 hr2) (EvR.yes (isRes_int _) ?_))
    rw [asI_int]
    by_cases g2 : errI two = 0
    · refine EvR.no (by rw [decide_eq_true g2]; rfl) ?_
      have p1 := (valid_of g1).pos
      have p2 := (valid_of g2).pos
      rw [List.length_map, List.length_map]
      by_cases g3 : one.length = two.length
      · refine EvR.no (by rw [decide_eq_true (by omega)]; rfl) (EvR.yes (okR_LL (by omega) (by omega)) (EvR.yes (okR_LL (by omega) (by omega)) ?_))
        rw [getD_LL p1, getD_LL p2, asR_list, asR_list, List.length_map, List.length_map]
        by_cases g4 : wide one = wide two
        · have g4' : ((one.getD 0 []).length : Int) = (two.getD 0 []).length := by unfold wide at g4; omega
          exact EvR.no (by rw [decide_eq_true g4']; rfl) (EvR.ret' (by simp [errM, firstNZ, g1, g2, g3, g4]))
        · have g4' : ¬ ((one.getD 0 []).length : Int) = (two.getD 0 []).length := by unfold wide at g4; omega
          exact EvR.yes (by rw [decide_eq_false g4']; rfl) (EvR.ret' (by simp [errM, firstNZ, g1, g2, g3, g4]))
      · exact EvR.yes (by rw [decide_eq_false (by omega)]; rfl) (EvR.ret' (by simp [errM, firstNZ, g1, g2, g3]))
    · exact EvR.yes (by rw [decide_eq_false g2]; rfl) (EvR.ret' (by simp [errM, firstNZ, g1, g2]))
  · exact EvR.yes (by rw [decide_eq_false g1]; rfl) (EvR.ret' (by simp [errM, firstNZ, g1]))
theorem k54 {im : List (List Int)} (V : Valid im) : CallV vt1 54 [.int (sX im), .int (sA im)] (RW (Rat.divInt (sX im) (sA im))) ∧ CallV vt1 54 [.int (sY im), .int (sA im)] (RW (Rat.divInt (sY im) (sA im))) := by
  obtain ⟨a1, a2, a3⟩ := (sums_valid V).bd
  exact ⟨c54 (by omega) (by omega) (by omega) (by omega) (by omega), c54 (by omega) (by omega) (by omega) (by omega) (by omega)⟩
/-- The reference's Center. -/
theorem c36v {im : List (List Int)} (V : Valid im) : CallV vt1 36 [LL im] (CW (Rat.divInt (sX im) (sA im)) (Rat.divInt (sY im) (sA im))) := by
  have := V.len
  obtain ⟨k1, k2⟩ := k54 V
  refine c36 (by omega) (fun i hi => ?_) (by rw [wim_valid V]; exact k1) (by rw [wim_valid V]; exact k2)
  have := (V.rows _ (mem_getD (d := []) hi)).1
  omega
theorem rl_div {x y : Int} (hy : 0 < y) (h1 : x.natAbs ≤ 9223372036854775807) (h2 : y ≤ 9223372036854775807) : rl (Rat.divInt x y) ≤ 100000 := by
  have h := divInt_le (x := x) hy
  have := dl_small (n := (Rat.divInt x y).num) (by omega) (by omega)
  have := dl_small (n := ((Rat.divInt x y).den : Int)) (by omega) (by omega)
  unfold rl; omega
theorem mvd_bd {X A Y B : Int} (h : Ten 2550 A X) (k : Ten 2550 B Y) (ha : 0 < A) (hb : 0 < B) : (mvd X A Y B).num.natAbs ≤ 1000000000 ∧ (mvd X A Y B).den ≤ 1000000000 := by
  have f1 := Ten.far h k
  have f2 := Ten.far k h
  have p := mulB (show 0 ≤ A ∧ A ≤ 25500 by have := h.le; omega) (show 0 ≤ B ∧ B ≤ 25500 by have := k.le; omega)
  have p6 : 0 < A * B := Int.mul_pos ha hb
  have := divInt_le (x := Y * A - X * B) (y := A * B) p6
  unfold mvd
  omega
/-- The reference's Moved. -/
theorem c38 {one two : List (List Int)} (V1 : Valid one) (V2 : Valid two) : CallV vt1 38 [LL one, LL two] (FF (mvd (sX one) (sA one) (sX two) (sA two)) (mvd (sY one) (sA one) (sY two) (sA two))) := by
  have S1 := sums_valid V1
  have S2 := sums_valid V2
  obtain ⟨a1, a2, a3⟩ := S1.bd
  obtain ⟨b1, b2, b3⟩ := S2.bd
  have m1 := mvd_bd S1.x S2.x S1.pos S2.pos
  have m2 := mvd_bd S1.y S2.y S1.pos S2.pos
  have q1 := c65 (a := Rat.divInt (sX two) (sA two)) (b := Rat.divInt (sX one) (sA one)) (rl_div (by omega) (by omega) (by omega)) (rl_div (by omega) (by omega) (by omega))
  have q2 := c65 (a := Rat.divInt (sY two) (sA two)) (b := Rat.divInt (sY one) (sA one)) (rl_div (by omega) (by omega) (by omega)) (rl_div (by omega) (by omega) (by omega))
  rw [mvd_eq S1.pos S2.pos] at q1 q2
  exact CallV.by (fun ih => e38 ih _ _) (EvR.call (c36v V1) (EvR.yes rfl (EvR.call (c36v V2) (EvR.yes rfl (EvR.call q1 (EvR.yes rfl (EvR.call q2 (EvR.yes rfl (EvR.call (c35 m1.1 m1.2 m2.1 m2.2) (EvR.yes rfl (EvR.ret' rfl)))))))))))
theorem c35v {im : List (List Int)} (V : Valid im) : CallV vt1 35 [CW (Rat.divInt (sX im) (sA im)) (Rat.divInt (sY im) (sA im))] (FF (Rat.divInt (sX im) (sA im)) (Rat.divInt (sY im) (sA im))) := by
  obtain ⟨a1, a2, a3⟩ := (sums_valid V).bd
  have d1 := divInt_le (x := sX im) (y := sA im) (by omega)
  have d2 := divInt_le (x := sY im) (y := sA im) (by omega)
  exact c35 (by omega) (by omega) (by omega) (by omega)
theorem c29 : CallV vt1 29 [] (.bool true) := ⟨1, fun m hm => by
  obtain ⟨m', rfl⟩ : ∃ m', m = m' + 1 := ⟨m - 1, by omega⟩
  show callF vt1 (evV vt1 m') 29 [] = some (.bool true)
  kernel_rfl⟩
/-- SensorImages. -/
theorem c5 {one two : List (List Int)} (h1 : one.length ≤ 9223372036854775807) (h2 : two.length ≤ 9223372036854775807) : CallV vt1 5 [LL one, LL two] (.bool true) := by
  refine CallV.by (fun ih => e5 ih _ _) (EvR.call c29 (EvR.yes (isRes_bool _) (EvR.no rfl (EvR.call (c30 h1) (EvR.yes (isRes_bool _) ?_)))))
  rw [asB_bool]
  cases g1 : imgs one with
  | false => exact EvR.yes rfl EvR.ret
  | true =>
    refine EvR.no rfl (EvR.call (c30 h2) (EvR.yes (isRes_bool _) ?_))
    rw [asB_bool]
    cases g2 : imgs two with
    | false => exact EvR.yes rfl EvR.ret
    | true =>
      obtain ⟨a1, a2⟩ := imgs_rows g1
      obtain ⟨b1, b2⟩ := imgs_rows g2
      have k32 := c32 a1 a2
      have k32' := c32 b1 b2
      have k31 := c31 a1 a2
      have k33 := c33 a1 a2 b1 b2
      have k34 := c34 a1 a2
      have k37 := c37 a1 a2 b1 b2
      refine EvR.no rfl (EvR.call k32 (EvR.yes rfl (EvR.call k31 (EvR.yes (by split <;> rfl) (EvR.call k32 (EvR.yes rfl (EvR.call k32' (EvR.yes rfl (EvR.call k33 (EvR.yes (by split <;> rfl) (EvR.call k34 (EvR.yes rfl ?_))))))))))))
      by_cases e1 : errI one = 0
      · have V1 := valid_of e1
        rw [if_pos e1, e1]
        refine EvR.no rfl (EvR.no rfl (EvR.yes rfl (EvR.call (c36v V1) (EvR.yes rfl (EvR.call (c35v V1) (EvR.yes rfl (EvR.no (by simp [FF]) (EvR.call k37 (EvR.yes rfl ?_)))))))))
        by_cases e2 : errM one two = 0
        · rw [if_pos e2, e2]
          exact EvR.no rfl (EvR.yes rfl (EvR.call (c38 V1 (errM_valid e2).2) (EvR.yes rfl (EvR.ret' (by simp [FF])))))
        · rw [if_neg e2]
          exact EvR.yes (by simp [e2]) (EvR.yes (by simp) (EvR.ret' rfl))
      · rw [if_neg e1]
        have e2 : errM one two = errI one := by simp [errM, firstNZ, e1]
        rw [if_neg (by rw [e2]; exact e1)]
        have n0 : (!decide (errI one = 0)) = true := by rw [decide_eq_false e1]; rfl
        refine EvR.no (by simp) (EvR.yes n0 (EvR.no rfl (EvR.no (decide_eq_false e1) (EvR.call k37 (EvR.yes rfl ?_)))))
        rw [e2]
        exact EvR.yes n0 (EvR.yes (by simp) (EvR.ret' rfl))
end Go.Proofs
/- Contracts of ModalShapes: Common of ratios over one denominator; plain law of sway. -/
namespace Go.Proofs
open Go Go.Sx Go.Vx
set_option maxRecDepth 100000
theorem c63 {l : List Rat} {N : Int} (hl : l.length ≤ 1000) (hN : 0 < N ∧ N ≤ 1000000000000000000) (hq : ∀ q ∈ l, rl q ≤ 100) (hd : ∀ q ∈ l, (q.den : Int) ≤ 1000000000000000000) (hp : ∀ q ∈ l, (q * (N : Rat)).den = 1 ∧ (-1000000000000000000 ≤ (q * (N : Rat)).num ∧ (q * (N : Rat)).num ≤ 1000000000000000000)) (hc : comD 1 l = N) : CallV vt1 63 [LQ l] (.agg [.int N, L (comP N l)]) := by
  refine CallV.by (fun ih => e63 ih _) (EvR.call (c95 (n := 1) (by omega) (by omega)) (EvR.yes rfl ?_))
  exact at63 hl hN.2 hd (at63_10 hl hN hq hp) l.length 0 1 (by omega) (by omega) (by rw [List.drop_zero]; exact hc)
theorem rl_div2 {x y : Int} (hy : 0 < y) (h1 : -9223372036854775807 ≤ x ∧ x ≤ 9223372036854775807) (h2 : y ≤ 9223372036854775807) : rl (Rat.divInt x y) ≤ 10 := by
  obtain ⟨e1, e2⟩ := divInt_parts (x := x) hy
  have hg : 0 < (Int.gcd x y : Int) := by
    have := Int.gcd_pos_of_ne_zero_right x (b := y) (by omega); omega
  have a1 : (x / (Int.gcd x y : Int)).natAbs ≤ x.natAbs := Int.natAbs_ediv_le_natAbs _ _
  have a2 : (y / (Int.gcd x y : Int)).natAbs ≤ y.natAbs := Int.natAbs_ediv_le_natAbs _ _
  unfold rl
  rw [e1, e2]
  have := dl_small (n := x / (Int.gcd x y : Int)) (by omega) (by omega)
  have := dl_small (n := y / (Int.gcd x y : Int)) (by omega) (by omega)
  exact Nat.max_le.2 ⟨by omega, by omega⟩
theorem divInt_mul_gcd {D G p : Int} (hD : 0 < D) (hG : 0 < G) (h1 : G ∣ D) (h2 : G ∣ p) : Rat.divInt p D * ((D / G : Int) : Rat) = ((p / G : Int) : Rat) := by
  obtain ⟨E, rfl⟩ := h1
  obtain ⟨t, rfl⟩ := h2
  rw [Int.mul_ediv_cancel_left _ (by omega), Int.mul_ediv_cancel_left _ (by omega)]
  rw [← divInt_one E, Rat.divInt_mul_divInt, Int.mul_one, show G * t * E = t * (G * E) by grind]
  have := Rat.divInt_mul_right (n := t) (d := 1) (a := G * E) (by omega)
  rw [Int.one_mul] at this
  rw [this, divInt_one]
theorem c63s {P : List Int} {D : Int} (hl : P.length ≤ 100) (hD : 0 < D ∧ D ≤ 1000000000000000000) (hb : ∀ x ∈ P, -1000000000000000000 ≤ x ∧ x ≤ 1000000000000000000) : CallV vt1 63 [LQ (P.map (fun p => Rat.divInt p D))] (shp P D) := by
  obtain ⟨m1, m2⟩ := com_shape (D := D.toNat) (by omega) P
  rw [Int.toNat_of_nonneg (by omega)] at m1 m2
  obtain ⟨g1, g2⟩ := gcdL_dvd (P ++ [D]) 0
  have hgD : gcdL 0 (P ++ [D]) ∣ D.natAbs := g2 D (by simp)
  have hG : 0 < gcdL 0 (P ++ [D]) := Nat.pos_of_dvd_of_pos hgD (by omega)
  unfold shp
  generalize gcdL 0 (P ++ [D]) = G at *
  have hN : 0 < D / (G : Int) := dvd_div_pos hD.1 (by omega) (Int.ofNat_dvd_left.2 hgD)
  have hN2 : (D / (G : Int)) ≤ D := Int.ediv_le_self _ (by omega)
  have k := c63 (l := P.map (fun p => Rat.divInt p D)) (N := D / (G : Int)) (by simp; omega) ⟨hN, by omega⟩ ?_ ?_ ?_ m1
  · rw [m2] at k; exact k
  · intro q hq
    obtain ⟨p, hp, rfl⟩ := List.mem_map.1 hq
    have := hb p hp
    have := rl_div2 (x := p) hD.1 (by omega) (by omega)
    omega
  · intro q hq
    obtain ⟨p, hp, rfl⟩ := List.mem_map.1 hq
    rw [(divInt_parts hD.1).2]
    have := Int.ediv_le_self (a := D) (Int.gcd p D : Int) (by omega)
    omega
  · intro q hq
    obtain ⟨p, hp, rfl⟩ := List.mem_map.1 hq
    rw [divInt_mul_gcd hD.1 (by omega) (Int.ofNat_dvd_left.2 hgD) (Int.ofNat_dvd_left.2 (g2 p (by simp [hp]))), Rat.num_intCast, Rat.den_intCast]
    have := hb p hp
    have a1 : (p / (G : Int)).natAbs ≤ p.natAbs := Int.natAbs_ediv_le_natAbs _ _
    exact ⟨rfl, by omega⟩
/-! ### sway, plain -/
def prd : List Int → Int → Int
  | [], e => e
  | k :: b, e => prd b (e * k)
theorem prd_ge : ∀ (b : List Int) (e : Int), 0 < e → (∀ k ∈ b, 1 ≤ k ∧ k ≤ 20) → e ≤ prd b e
  | [], e, _, _ => Int.le_refl e
  | k :: b, e, h, hb => by
    have hk := hb k (by simp)
    have h1 := Int.mul_le_mul_of_nonneg_left hk.1 (show 0 ≤ e by omega)
    rw [Int.mul_one] at h1
    have := prd_ge b (e * k) (by omega) (fun x hx => hb x (by simp [hx]))
    simp only [prd]; omega
theorem prd_dvd : ∀ (b : List Int) (e : Int), e ∣ prd b e ∧ ∀ k ∈ b, k ∣ prd b e
  | [], e => ⟨Int.dvd_refl e, by simp⟩
  | k :: b, e => by
    obtain ⟨h1, h2⟩ := prd_dvd b (e * k)
    simp only [prd]
    refine ⟨Int.dvd_trans (Int.dvd_mul_right _ _) h1, fun x hx => ?_⟩
    rcases List.mem_cons.1 hx with rfl | hx
    · exact Int.dvd_trans (Int.dvd_mul_left _ _) h1
    · exact h2 x hx
theorem mul20 {e k : Int} {B : Int} (h : 0 < e ∧ e ≤ B) (hk : 1 ≤ k ∧ k ≤ 20) : 0 < e * k ∧ e * k ≤ B * 20 :=
  ⟨Int.mul_pos (by omega) (by omega), Int.mul_le_mul h.2 hk.2 (by omega) (by omega)⟩
theorem prd_le {b : List Int} (hn : b.length ≤ 4) (hb : ∀ k ∈ b, 1 ≤ k ∧ k ≤ 20) : 0 < prd b 1 ∧ prd b 1 ≤ 160000 := by
  match b, hn with
  | [], _ => exact ⟨by decide, by decide⟩
  | [x], _ =>
    have := mul20 (e := 1) (B := 1) (by omega) (hb x (by simp))
    simp only [prd]; omega
  | [x, y], _ =>
    have h1 := mul20 (e := 1) (B := 1) (by omega) (hb x (by simp))
    have h2 := mul20 h1 (hb y (by simp))
    simp only [prd]; omega
  | [x, y, z], _ =>
    have h1 := mul20 (e := 1) (B := 1) (by omega) (hb x (by simp))
    have h2 := mul20 h1 (hb y (by simp))
    have h3 := mul20 h2 (hb z (by simp))
    simp only [prd]; omega
  | [x, y, z, w], _ =>
    have h1 := mul20 (e := 1) (B := 1) (by omega) (hb x (by simp))
    have h2 := mul20 h1 (hb y (by simp))
    have h3 := mul20 h2 (hb z (by simp))
    have h4 := mul20 h3 (hb w (by simp))
    simp only [prd]; omega
def swU (E : Int) (b l : List Int) : Nat → Int
  | 0 => 0
  | i + 1 => swU E b l i + tot (l.drop i) * (E / b.getD i 0)
def swP (E : Int) (b l : List Int) (n : Nat) : List Int := (List.range n).map fun i => swU E b l (i + 1)
theorem swP_succ (E : Int) (b l : List Int) (n : Nat) : swP E b l (n + 1) = swP E b l n ++ [swU E b l (n + 1)] := by
  unfold swP; rw [List.range_succ, List.map_append]; rfl
theorem divInt_add_same {x y D : Int} (hD : D ≠ 0) : Rat.divInt x D + Rat.divInt y D = Rat.divInt (x + y) D := by
  rw [Rat.divInt_add_divInt _ _ hD hD, ← Int.add_mul, Rat.divInt_mul_right hD]
theorem divInt_sub_same {x y D : Int} (hD : D ≠ 0) : Rat.divInt x D - Rat.divInt y D = Rat.divInt (x - y) D := by
  rw [Rat.sub_eq_add_neg, Rat.neg_divInt, divInt_add_same hD]; rfl
theorem sw_step {x T k E : Int} (hE : 0 < E) (hk : k ∣ E) : Rat.divInt x E + Rat.divInt T k = Rat.divInt (x + T * (E / k)) E := by
  obtain ⟨t, rfl⟩ := hk
  have hk0 : k ≠ 0 := by intro h; subst h; simp at hE
  have ht0 : t ≠ 0 := by intro h; subst h; simp at hE
  rw [Int.mul_ediv_cancel_left _ hk0, ← Rat.divInt_mul_right (n := T) (d := k) ht0, divInt_add_same (by omega)]
theorem totA : ∀ (l : List Int), (∀ x ∈ l, x.natAbs ≤ 1000) → (tot l).natAbs ≤ 1000 * l.length
  | [], _ => by simp [tot]
  | x :: l, h => by
    have := h x (by simp)
    have := totA l (fun y hy => h y (by simp [hy]))
    simp only [tot, List.length_cons]; omega
theorem mul_bd {x y : Int} {A B : Nat} (h1 : x.natAbs ≤ A) (h2 : y.natAbs ≤ B) : (x * y).natAbs ≤ A * B := by
  rw [Int.natAbs_mul]; exact Nat.mul_le_mul h1 h2
theorem sw_bd {E : Int} {b l : List Int} (hE : 0 < E ∧ E ≤ 160000) (hn : l.length ≤ 4) (hb : ∀ x ∈ l, x.natAbs ≤ 1000) : ∀ i, (swU E b l i).natAbs ≤ i * 640000000
  | 0 => by simp [swU]
  | i + 1 => by
    have h1 := sw_bd hE hn hb i (b := b)
    have h2 := totA (l.drop i) (fun x hx => hb x (List.mem_of_mem_drop hx))
    rw [List.length_drop] at h2
    have h3 : (E / b.getD i 0).natAbs ≤ 160000 := by
      have : (E / b.getD i 0).natAbs ≤ E.natAbs := Int.natAbs_ediv_le_natAbs _ _
      omega
    have h4 := mul_bd (A := 4000) (show (tot (l.drop i)).natAbs ≤ 4000 by omega) h3
    simp only [swU]
    have := Int.natAbs_add_le (swU E b l i) (tot (l.drop i) * (E / b.getD i 0))
    omega
end Go.Proofs
/- Contracts of ModalShapes: SwayOf, Sway. -/
namespace Go.Proofs
open Go Go.Sx Go.Vx
set_option maxRecDepth 100000
/-- A frame without error. -/
structure Fr (a b : List Int) : Prop where
  len : b.length = a.length
  pos : 0 < a.length
  n4 : a.length ≤ 4
  ha : ∀ x ∈ a, 1 ≤ x ∧ x ≤ 10
  hb : ∀ x ∈ b, 1 ≤ x ∧ x ≤ 20
theorem badAt_zero {a b : List Int} : ∀ (n i : Nat), (badAt a b n i).2 = 0 → ∀ j, i ≤ j → j < i + n → (1 ≤ a.getD j 0 ∧ a.getD j 0 ≤ 10) ∧ (1 ≤ b.getD j 0 ∧ b.getD j 0 ≤ 20)
  | 0, i, _, j, h1, h2 => by omega
  | n + 1, i, h, j, h1, h2 => by
    unfold badAt at h
    split at h
    · rename_i hc
      by_cases e : j = i
      · subst e; exact hc
      · exact badAt_zero n (i + 1) h j (by omega) (by omega)
    · exact absurd h (by simp)
theorem getD_of_mem {l : List Int} {x : Int} (h : x ∈ l) : ∃ j, j < l.length ∧ l.getD j 0 = x := by
  obtain ⟨j, hj, rfl⟩ := List.mem_iff_getElem.1 h
  exact ⟨j, hj, by rw [List.getD_eq_getElem?_getD, List.getElem?_eq_getElem hj]; rfl⟩
theorem Fr.of {a b : List Int} (h : (chk a b).2 = 0) : Fr a b := by
  unfold chk at h
  split at h
  · exact absurd h (by simp)
  · split at h
    · exact absurd h (by simp)
    · have k := badAt_zero _ _ h
      refine ⟨by omega, by omega, by omega, fun x hx => ?_, fun x hx => ?_⟩
      · obtain ⟨j, hj, rfl⟩ := getD_of_mem hx
        exact (k j (by omega) (by omega)).1
      · obtain ⟨j, hj, rfl⟩ := getD_of_mem hx
        exact (k j (by omega) (by omega)).2
theorem ldE_zero {n : Nat} {l : List Int} (h : ldE n l = 0) : l.length = n ∧ ∀ x ∈ l, x.natAbs ≤ 1000 := by
  unfold ldE at h
  split at h
  · exact absurd h (by decide)
  · rename_i h1
    split at h
    · exact absurd h (by decide)
    · rename_i h2
      refine ⟨by omega, fun x hx => ?_⟩
      have : badL x = false := by
        cases hb : badL x with
        | false => rfl
        | true => exact absurd (List.any_eq_true.2 ⟨x, hx, hb⟩) h2
      unfold badL at this
      have := of_decide_eq_true (by simpa using this : decide (-1000 ≤ x ∧ x ≤ 1000) = true)
      omega
section
variable {a b l : List Int} {E : Int} (F : Fr a b) (hll : l.length = a.length) (hld : ∀ x ∈ l, x.natAbs ≤ 1000) (hE : E = prd b 1)
include F hll hld hE
omit hll hld in
theorem E_bd : 0 < E ∧ E ≤ 160000 := by rw [hE]; exact prd_le (by have := F.len; have := F.n4; omega) F.hb
theorem stepE {i : Nat} (hi : i < a.length) : w64 (swU E b l i + w64 (tot (l.drop i) * w64 (E.tdiv (b.getD i 0)))) = swU E b l (i + 1) := by
  have e := E_bd F hE
  have hk := F.hb _ (mem_getD (d := 0) (l := b) (i := i) (by have := F.len; omega))
  have n4 := F.n4
  have h1 := sw_bd (b := b) e (by omega) hld i
  have h2 := totA (l.drop i) (fun x hx => hld x (List.mem_of_mem_drop hx))
  rw [List.length_drop] at h2
  have h3 : (E / b.getD i 0).natAbs ≤ 160000 := by
    have : (E / b.getD i 0).natAbs ≤ E.natAbs := Int.natAbs_ediv_le_natAbs _ _
    omega
  have h4 := mul_bd (A := 4000) (show (tot (l.drop i)).natAbs ≤ 4000 by omega) h3
  have ee : E.tdiv (b.getD i 0) = E / b.getD i 0 := Int.tdiv_eq_ediv_of_nonneg (by omega)
  rw [ee, w64_id (n := E / _) (by omega) (by omega), w64_id (n := tot _ * _) (by omega) (by omega), w64_id (by omega) (by omega)]
  rfl
/-- Inner sums, without a row. -/
theorem at16_2 {x11 : Int} {v : DV} (hk : AtV vt1 16 1 (tblL [(1, L l), (4, .ptr 0 0), (9, .int E), (12, .own 1), (13, .int (swU E b l 1)), (55, L b), (56, .int (a.length : Int)), (57, .int 1)]) [.box [.int x11, .nils], .row true 1 (ints [swU E b l 1])] v) : ∀ (n j : Nat) (s : Int), l.length = j + n → s.natAbs ≤ 1000 * j → s + tot (l.drop j) = tot l →
    AtV vt1 16 2 (tblL [(1, L l), (4, .ptr 0 0), (9, .int E), (12, .nils), (13, .int 0), (15, .int (b.getD 0 0)), (16, .int s), (55, L b), (56, .int (a.length : Int)), (57, .int 0), (64, L l), (65, .int (l.length : Int)), (66, .int (j : Int))]) [.box [.int x11, .nils]] v
  | 0, j, s, h, hs, ht => by
    have kb := F.hb _ (mem_getD (d := 0) (l := b) (i := 0) (by have := F.len; have := F.pos; omega))
    rw [List.drop_eq_nil_of_le (by omega), tot, Int.add_zero] at ht
    have st := stepE F hll hld hE (i := 0) F.pos
    rw [List.drop_zero] at st
    subst ht
    refine AtV.by (fun ih => e16_2 ih _ _ _ _ _ _ _ _ _ _ _ _) (EvR.no (decide_eq_false (by omega)) (EvR.no (decide_eq_false (by omega)) ?_))
    have e0 : swU E b l 0 = 0 := rfl
    rw [e0] at st
    rw [st]
    exact hk
  | n + 1, j, s, h, hs, ht => by
    have hx := hld _ (mem_getD (d := 0) (l := l) (i := j) (by omega))
    have n4 := F.n4
    refine AtV.by (fun ih => e16_2 ih _ _ _ _ _ _ _ _ _ _ _ _) (EvR.yes (decide_eq_true (by omega)) (EvR.yes (okR_ok (by omega) (by omega)) ?_))
    rw [asI_ints, Int.toNat_natCast, wnat (by omega), w64_id (by omega) (by omega)]
    rw [dropI 0 (by omega), tot] at ht
    exact at16_2 hk n (j + 1) _ (by omega) (by omega) (by omega)
theorem at16_21 {x11 : Int} {v : DV} {i : Nat} (hi : i < a.length) (hk : AtV vt1 16 1 (tblL [(1, L l), (4, .ptr 0 0), (9, .int E), (12, .own 1), (13, .int (swU E b l (i + 1))), (55, L b), (56, .int (a.length : Int)), (57, .int ((i + 1 : Nat) : Int))]) [.box [.int x11, .nils], .row true 1 (ints (swP E b l (i + 1)))] v) : ∀ (n j : Nat) (s : Int), (l.drop i).length = j + n → s.natAbs ≤ 1000 * j → s + tot ((l.drop i).drop j) = tot (l.drop i) →
    AtV vt1 16 2 (tblL [(1, L l), (4, .ptr 0 0), (9, .int E), (12, .own 1), (13, .int (swU E b l i)), (15, .int (b.getD i 0)), (16, .int s), (55, L b), (56, .int (a.length : Int)), (57, .int (i : Int)), (64, L (l.drop i)), (65, .int ((l.drop i).length : Int)), (66, .int (j : Int))]) [.box [.int x11, .nils], .row true 1 (ints (swP E b l i))] v
  | 0, j, s, h, hs, ht => by
    have kb := F.hb _ (mem_getD (d := 0) (l := b) (i := i) (by have := F.len; omega))
    have n4 := F.n4
    rw [List.drop_eq_nil_of_le (by omega), tot, Int.add_zero] at ht
    have st := stepE F hll hld hE hi
    subst ht
    refine AtV.by (fun ih => e16_2_1 ih _ _ _ _ _ _ _ _ _ _ _ _ _) (EvR.no (decide_eq_false (by omega)) (EvR.no (decide_eq_false (by omega)) (EvR.yes (lenOk_ints (by simp [swP]; omega)) ?_)))
    rw [st, ints_snoc, ← swP_succ, wnat (by omega)]
    exact hk
  | n + 1, j, s, h, hs, ht => by
    have hx := hld _ (List.mem_of_mem_drop (mem_getD (d := 0) (l := l.drop i) (i := j) (by omega)))
    have n4 := F.n4
    have := List.length_drop (l := l) (i := i)
    refine AtV.by (fun ih => e16_2_1 ih _ _ _ _ _ _ _ _ _ _ _ _ _) (EvR.yes (decide_eq_true (by omega)) (EvR.yes (okR_ok (by omega) (by omega)) ?_))
    rw [asI_ints, Int.toNat_natCast, wnat (by omega), w64_id (by omega) (by omega)]
    rw [dropI 0 (by omega), tot] at ht
    exact at16_21 hi hk n (j + 1) _ (by omega) (by omega) (by omega)
theorem swP_bd {n : Nat} (hn : n ≤ 4) : (swP E b l n).length ≤ 100 ∧ ∀ x ∈ swP E b l n, -1000000000000000000 ≤ x ∧ x ≤ 1000000000000000000 := by
  have n4 := F.n4
  refine ⟨by simp [swP]; omega, fun x hx => ?_⟩
  obtain ⟨j, hj, rfl⟩ := List.mem_map.1 hx
  have := sw_bd (b := b) (E_bd F hE) (by omega) hld (j + 1)
  have := List.mem_range.1 hj
  omega
theorem at16_11 {x6 : Int} : ∀ (n i : Nat), a.length = i + n → AtV vt1 16 1 (tblL [(1, L l), (4, .ptr 0 0), (9, .int E), (12, .own 1), (13, .int (swU E b l i)), (55, L b), (56, .int (a.length : Int)), (57, .int (i : Int))]) [.box [.int x6, .nils], .row true 1 (ints (swP E b l i))] (.tup [shp (swP E b l a.length) E, .int 0])
  | 0, i, h => by
    have e := E_bd F hE
    have hi : i = a.length := by omega
    subst hi
    obtain ⟨b1, b2⟩ := swP_bd F hll hld hE F.n4
    exact AtV.by (fun ih => e16_1_1 ih _ _ _ _ _ _ _ _) (EvR.no (decide_eq_false (by omega)) (EvR.call (c59 b1 (by omega) b2) (EvR.yes rfl (EvR.ret' rfl))))
  | n + 1, i, h => by
    have len := F.len
    have n4 := F.n4
    refine AtV.by (fun ih => e16_1_1 ih _ _ _ _ _ _ _ _) (EvR.yes (decide_eq_true (by omega)) (EvR.yes (okR_ok (by omega) (by omega)) (EvR.yes (by simp; omega) ?_)))
    rw [asI_ints, Int.toNat_natCast, ← List.map_drop, List.length_map]
    exact at16_21 F hll hld hE (by omega) (at16_11 n (i + 1) (by omega)) (l.drop i).length 0 0 (by omega) (by simp) (by simp)
theorem at16_1 {x6 : Int} : AtV vt1 16 1 (tblL [(1, L l), (4, .ptr 0 0), (9, .int E), (12, .nils), (13, .int 0), (55, L b), (56, .int (a.length : Int)), (57, .int 0)]) [.box [.int x6, .nils]] (.tup [shp (swP E b l a.length) E, .int 0]) := by
  have len := F.len
  have n4 := F.n4
  have pos := F.pos
  refine AtV.by (fun ih => e16_1 ih _ _ _ _ _ _ _) (EvR.yes (decide_eq_true (by omega)) (EvR.yes (okR_ok (by omega) (by omega)) (EvR.yes (by simp; omega) ?_)))
  rw [asI_ints, show (0 : Int).toNat = 0 from rfl, List.drop_zero, List.length_map]
  exact at16_2 F hll hld hE (at16_11 F hll hld hE (a.length - 1) 1 (by omega)) l.length 0 0 (by omega) (by simp) (by simp)
theorem at16_0 {x5 : Int} {l6 : List DV} : ∀ (n i : Nat) (e : Int), a.length = i + n → 0 < e → prd (b.drop i) e = E → AtV vt1 16 0 (tblL [(1, L l), (4, .ptr 0 0), (6, .ptr 1 0), (9, .int e), (44, L b), (45, .int (b.length : Int)), (46, .int (i : Int))]) [.box [.int x5, .nils], .box [.list false false 1 l6, L b]] (.tup [shp (swP E b l a.length) E, .int 0])
  | 0, i, e, h, h0, hp => by
    have len := F.len
    rw [List.drop_eq_nil_of_le (by omega), prd] at hp
    subst hp
    refine AtV.by (fun ih => e16_0 ih _ _ _ _ _ _ _ _) (EvR.no (decide_eq_false (by omega)) ?_)
    rw [List.length_map, len]
    exact at16_1 F hll hld hE
  | n + 1, i, e, h, h0, hp => by
    have len := F.len
    have n4 := F.n4
    have eb := E_bd F hE
    have kb := F.hb _ (mem_getD (d := 0) (l := b) (i := i) (by omega))
    rw [dropI 0 (by omega), prd] at hp
    have hpos := Int.mul_pos h0 (show 0 < b.getD i 0 by omega)
    have hge := prd_ge (b.drop (i + 1)) _ hpos (fun k hk => F.hb k (List.mem_of_mem_drop hk))
    refine AtV.by (fun ih => e16_0 ih _ _ _ _ _ _ _ _) (EvR.yes (decide_eq_true (by omega)) (EvR.yes (okR_ok (by omega) (by omega)) ?_))
    rw [asI_ints, Int.toNat_natCast, wnat (by omega), w64_id (by omega) (by omega)]
    exact at16_0 n (i + 1) _ (by omega) hpos hp
end
def noShp : DV := .agg [.int 0, L []]
/-- The error of sway. -/
def swE (a b l : List Int) : Int := if (chk a b).2 = 0 then ldE a.length l else (chk a b).2
theorem firstNZ3 (x : Int) (n : Nat) (l : List Int) : firstNZ [x, if decide (l.length = n) then 0 else 10, if !(l.any badL) then 0 else 2] = if x = 0 then ldE n l else x := by
  unfold ldE
  by_cases h0 : x = 0
  · by_cases h1 : l.length = n
    · cases h2 : l.any badL <;> simp [firstNZ, h0, h1]
    · simp [firstNZ, h0, h1]
  · simp [firstNZ, h0]
theorem c16 {a b l : List Int} (h1 : a.length ≤ 1000) (h2 : b.length ≤ 1000) (h3 : l.length ≤ 1000) : CallV vt1 16 [.agg [L a, L b], L l] (.tup (if swE a b l = 0 then [shp (swP (prd b 1) b l a.length) (prd b 1), .int 0] else [noShp, .int (swE a b l)])) := by
  refine CallV.by (fun ih => e16 ih _ _ _) (EvR.call (c47 h1 h2) (EvR.yes rfl (EvR.call (c56c h3) (EvR.yes (isRes_bool _) (EvR.call (r := .int (if decide (l.length = a.length) then 0 else 10)) ?_ (EvR.yes (isRes_int _) (EvR.call (r := .int (if !(l.any badL) then 0 else 2)) (c45 _ _) (EvR.yes (isRes_int _) ?_))))))))
  · rw [List.length_map, List.length_map, show decide ((l.length : Int) = (a.length : Int)) = decide (l.length = a.length) from decide_eq_decide.2 (by omega)]
    exact c45 _ _
  rw [asI_int, asI_int]
  refine EvR.call (c44 (l := [_, _, _]) (by simp)) (EvR.yes (isRes_int _) ?_)
  have er : asI ((tupL (DV.tup [DV.agg [L a, L b], DV.int (chk a b).2])).getD 1 DV.undef) = (chk a b).2 := rfl
  rw [asI_int, er, firstNZ3]
  show EvR vt1 (fun ih => bif !decide (swE a b l = 0) then _ else _) _
  by_cases h0 : swE a b l = 0
  · rw [if_pos h0]
    have hz : (chk a b).2 = 0 := by
      unfold swE at h0
      split at h0
      · assumption
      · exact h0
    have hl : ldE a.length l = 0 := by unfold swE at h0; rw [if_pos hz] at h0; exact h0
    have F := Fr.of hz
    obtain ⟨l1, l2⟩ := ldE_zero hl
    refine EvR.no (by rw [decide_eq_true h0]; rfl) ?_
    have k := at16_0 F l1 l2 rfl (x5 := 0) (l6 := ints a) a.length 0 1 (by omega) (by omega) (by rw [List.drop_zero])
    rw [← show (ints b).length = b.length from List.length_map ..] at k
    exact k
  · rw [if_neg h0]
    exact EvR.yes (by rw [decide_eq_false h0]; rfl) (EvR.ret' rfl)
end Go.Proofs
/- Contracts of ModalShapes: Sway, the reference. -/
namespace Go.Proofs
open Go Go.Sx Go.Vx
set_option maxRecDepth 100000
theorem lenOk_RW {l : List DV} {m : List DV} (h : l.length + m.length < 1048576) : lenOk l m = true := lenOk_ints h
section
variable {a b l : List Int} {E : Int} (F : Fr a b) (hll : l.length = a.length) (hld : ∀ x ∈ l, x.natAbs ≤ 1000) (hE : E = prd b 1)
include F hll hld hE
omit hll hld in
/-- The ratios up to i. -/
theorem step24 {i : Nat} (hi : i < a.length) : Rat.divInt (swU E b l i) E + Rat.divInt (tot (l.drop i)) (b.getD i 0) = Rat.divInt (swU E b l (i + 1)) E := by
  have e := E_bd F hE
  have := (prd_dvd b 1).2 _ (mem_getD (d := 0) (l := b) (i := i) (by have := F.len; omega))
  rw [← hE] at this
  exact sw_step e.1 this
theorem swRl {i : Nat} (hi : i ≤ 4) : rl (Rat.divInt (swU E b l i) E) ≤ 100000 := by
  have e := E_bd F hE
  have := sw_bd (b := b) e (by have := F.n4; omega) hld i
  have := rl_div2 (x := swU E b l i) e.1 (by omega) (by omega)
  omega
theorem at24_1 {x6 : Int} {v : DV} (hk : AtV vt1 24 0 (tblL [(1, LT l), (2, .ptr 0 0), (4, .ptr 1 0), (5, .ptr 2 0), (6, .own 3), (7, .int 1)]) [.box [LT a, LT b], .box [.int x6, .nils], .box [.int (Rat.divInt (swU E b l 1) E).num.sign, L (digits (Rat.divInt (swU E b l 1) E).num.natAbs), .int ((Rat.divInt (swU E b l 1) E).den : Int).sign, L (digits ((Rat.divInt (swU E b l 1) E).den : Int).natAbs)], .row true 4 [RW (Rat.divInt (swU E b l 1) E)]] v) : ∀ (n j : Nat) (s : Int), l.length = j + n → s.natAbs ≤ 1000 * j → s + tot (l.drop j) = tot l →
    AtV vt1 24 1 (tblL [(1, LT l), (2, .ptr 0 0), (4, .ptr 1 0), (5, .ptr 2 0), (6, .nils), (7, .int 0), (8, .int s), (9, .int (j : Int))]) [.box [LT a, LT b], .box [.int x6, .nils], .box [.int (Rat.divInt (swU E b l 0) E).num.sign, L (digits (Rat.divInt (swU E b l 0) E).num.natAbs), .int ((Rat.divInt (swU E b l 0) E).den : Int).sign, L (digits ((Rat.divInt (swU E b l 0) E).den : Int).natAbs)]] v
  | 0, j, s, h, hs, ht => by
    have pos := F.pos
    have len := F.len
    have n4 := F.n4
    have kb := F.hb _ (mem_getD (d := 0) (l := b) (i := 0) (by omega))
    rw [List.drop_eq_nil_of_le (by omega), tot, Int.add_zero] at ht
    subst ht
    have st := step24 (l := l) F hE (i := 0) pos
    rw [List.drop_zero] at st
    have k1 := c54 (n := tot l) (d := b.getD 0 0) (by omega) (by omega) (by omega) (by omega) (by omega)
    have k2 := c53 (swRl F hll hld hE (i := 0) (by omega)) (show rl (Rat.divInt (tot l) (b.getD 0 0)) ≤ 100000 by have := rl_div2 (x := tot l) (y := b.getD 0 0) (by omega) (by omega) (by omega); omega)
    rw [st] at k2
    refine AtV.by (fun ih => e24_1 ih _ _ _ _ _ _ _ _ _ _ _) (EvR.no (decide_eq_false (by rw [List.length_map]; omega)) (EvR.yes (okR_ok (by omega) (by omega)) ?_))
    rw [asI_ints]
    exact EvR.call k1 (EvR.yes (isRes_RW _) (EvR.call k2 (EvR.yes (isRes_RW _) hk)))
  | n + 1, j, s, h, hs, ht => by
    have hx := hld _ (mem_getD (d := 0) (l := l) (i := j) (by omega))
    have n4 := F.n4
    refine AtV.by (fun ih => e24_1 ih _ _ _ _ _ _ _ _ _ _ _) (EvR.yes (decide_eq_true (by rw [List.length_map]; omega)) (EvR.yes (okR_ok (by omega) (by omega)) ?_))
    rw [asI_ints, Int.toNat_natCast, wnat (by omega), w64_id (by omega) (by omega)]
    rw [dropI 0 (by omega), tot] at ht
    exact at24_1 hk n (j + 1) _ (by omega) (by omega) (by omega)
/-- The row of ratios. -/
def swQ (E : Int) (b l : List Int) (n : Nat) : List DV := (swP E b l n).map (fun p => RW (Rat.divInt p E))
omit F hll hld hE in
theorem swQ_succ (E : Int) (b l : List Int) (n : Nat) : swQ E b l n ++ [RW (Rat.divInt (swU E b l (n + 1)) E)] = swQ E b l (n + 1) := by
  unfold swQ; rw [swP_succ, List.map_append]; rfl
omit F hll hld hE in
theorem swQ_len (E : Int) (b l : List Int) (n : Nat) : (swQ E b l n).length = n := by simp [swQ, swP]
theorem at24_11 {x6 : Int} {v : DV} {i : Nat} (hi : i < a.length) (hk : AtV vt1 24 0 (tblL [(1, LT l), (2, .ptr 0 0), (4, .ptr 1 0), (5, .ptr 2 0), (6, .own 3), (7, .int ((i + 1 : Nat) : Int))]) [.box [LT a, LT b], .box [.int x6, .nils], .box [.int (Rat.divInt (swU E b l (i + 1)) E).num.sign, L (digits (Rat.divInt (swU E b l (i + 1)) E).num.natAbs), .int ((Rat.divInt (swU E b l (i + 1)) E).den : Int).sign, L (digits ((Rat.divInt (swU E b l (i + 1)) E).den : Int).natAbs)], .row true 4 (swQ E b l (i + 1))] v) : ∀ (n j : Nat) (s : Int), l.length = j + n → s.natAbs ≤ 1000 * j → s + tot (l.drop j) = tot (l.drop i) →
    AtV vt1 24 1 (tblL [(1, LT l), (2, .ptr 0 0), (4, .ptr 1 0), (5, .ptr 2 0), (6, .own 3), (7, .int (i : Int)), (8, .int s), (9, .int (j : Int))]) [.box [LT a, LT b], .box [.int x6, .nils], .box [.int (Rat.divInt (swU E b l i) E).num.sign, L (digits (Rat.divInt (swU E b l i) E).num.natAbs), .int ((Rat.divInt (swU E b l i) E).den : Int).sign, L (digits ((Rat.divInt (swU E b l i) E).den : Int).natAbs)], .row true 4 (swQ E b l i)] v
  | 0, j, s, h, hs, ht => by
    have pos := F.pos
    have len := F.len
    have n4 := F.n4
    have kb := F.hb _ (mem_getD (d := 0) (l := b) (i := i) (by omega))
    rw [List.drop_eq_nil_of_le (by omega), tot, Int.add_zero] at ht
    subst ht
    have st := step24 (l := l) F hE (i := i) hi
    have k1 := c54 (n := tot (l.drop i)) (d := b.getD i 0) (by omega) (by omega) (by omega) (by omega) (by omega)
    have k2 := c53 (swRl F hll hld hE (i := i) (by omega)) (show rl (Rat.divInt (tot (l.drop i)) (b.getD i 0)) ≤ 100000 by have := rl_div2 (x := tot (l.drop i)) (y := b.getD i 0) (by omega) (by omega) (by omega); omega)
    rw [st] at k2
    refine AtV.by (fun ih => e24_1_1 ih _ _ _ _ _ _ _ _ _ _ _ _) (EvR.no (decide_eq_false (by rw [List.length_map]; omega)) (EvR.yes (okR_ok (by omega) (by omega)) ?_))
    rw [asI_ints, Int.toNat_natCast, wnat (by omega)]
    refine EvR.call k1 (EvR.yes (isRes_RW _) (EvR.call k2 (EvR.yes (isRes_RW _) (EvR.yes (lenOk_RW (by rw [swQ_len]; simp; omega)) ?_))))
    rw [← swQ_succ] at hk
    exact hk
  | n + 1, j, s, h, hs, ht => by
    have hx := hld _ (mem_getD (d := 0) (l := l) (i := j) (by omega))
    have n4 := F.n4
    refine AtV.by (fun ih => e24_1_1 ih _ _ _ _ _ _ _ _ _ _ _ _) (EvR.yes (decide_eq_true (by rw [List.length_map]; omega)) (EvR.yes (okR_ok (by omega) (by omega)) ?_))
    rw [asI_ints, Int.toNat_natCast, wnat (by omega), w64_id (by omega) (by omega)]
    rw [dropI 0 (by omega), tot] at ht
    exact at24_11 hi hk n (j + 1) _ (by omega) (by omega) (by omega)
theorem at24_0 {x6 : Int} : ∀ (n i : Nat), a.length = i + n → AtV vt1 24 0 (tblL [(1, LT l), (2, .ptr 0 0), (4, .ptr 1 0), (5, .ptr 2 0), (6, .own 3), (7, .int (i : Int))]) [.box [LT a, LT b], .box [.int x6, .nils], .box [.int (Rat.divInt (swU E b l i) E).num.sign, L (digits (Rat.divInt (swU E b l i) E).num.natAbs), .int ((Rat.divInt (swU E b l i) E).den : Int).sign, L (digits ((Rat.divInt (swU E b l i) E).den : Int).natAbs)], .row true 4 (swQ E b l i)] (shp (swP E b l a.length) E)
  | 0, i, h => by
    have e := E_bd F hE
    have hi : i = a.length := by omega
    subst hi
    obtain ⟨b1, b2⟩ := swP_bd F hll hld hE F.n4
    have k := c63s b1 (show 0 < E ∧ E ≤ 1000000000000000000 by omega) b2
    refine AtV.by (fun ih => e24_0_1 ih _ _ _ _ _ _ _ _ _ _) (EvR.no (decide_eq_false (by rw [List.length_map]; omega)) ?_)
    unfold LQ at k
    rw [List.map_map] at k
    exact EvR.call k (EvR.yes rfl (EvR.ret' rfl))
  | n + 1, i, h => by
    have len := F.len
    have n4 := F.n4
    refine AtV.by (fun ih => e24_0_1 ih _ _ _ _ _ _ _ _ _ _) (EvR.yes (decide_eq_true (by rw [List.length_map]; omega)) ?_)
    refine at24_11 F hll hld hE (by omega) (at24_0 n (i + 1) (by omega)) (l.length - i) i 0 (by omega) (by simp) (by simp)
/-- Sway. -/
theorem c24 : CallV vt1 24 [.agg [LT a, LT b], LT l] (shp (swP E b l a.length) E) := by
  have pos := F.pos
  have k := c52 (n := 0) (by omega) (by omega)
  have e0 : (((0 : Int) : Rat)) = Rat.divInt (swU E b l 0) E := by rw [show swU E b l 0 = 0 from rfl, Rat.zero_divInt]; rfl
  rw [e0] at k
  refine CallV.by (fun ih => e24 ih _ _ _) (EvR.call k (EvR.yes (isRes_RW _) ?_))
  show AtV vt1 24 0 _ _ _
  refine AtV.by (fun ih => e24_0 ih _ _ _ _ _ _ _ _ _) (EvR.yes (decide_eq_true (by rw [List.length_map]; omega)) ?_)
  exact at24_1 F hll hld hE (at24_0 F hll hld hE (a.length - 1) 1 (by omega)) l.length 0 0 (by omega) (by simp) (by simp)
end
end Go.Proofs
/- Contracts of ModalShapes: ShapeAt. -/
namespace Go.Proofs
open Go Go.Sx Go.Vx
set_option maxRecDepth 100000
def gapZ (a b : List Int) (p m : Int) (U : List Int) (i : Nat) : Int := m * b.getD i 0 * (U.getD i 0 - (if 0 < i then U.getD (i - 1) 0 else 0)) - p * a.getD i 0 * U.getD i 0
def shU (a b : List Int) (p m : Int) : Nat → List Int × Int
  | 0 => ([1], 1)
  | i + 1 => ((shU a b p m i).1.map (· * (m * b.getD (i + 1) 0)) ++ [(shU a b p m i).1.getD i 0 * (m * b.getD (i + 1) 0) + gapZ a b p m (shU a b p m i).1 i], (shU a b p m i).2 * (m * b.getD (i + 1) 0))
theorem getD_bd {l : List Int} {B : Nat} (h : ∀ x ∈ l, x.natAbs ≤ B) (i : Nat) : (l.getD i 0).natAbs ≤ B := by
  by_cases hi : i < l.length
  · exact h _ (mem_getD hi)
  · rw [List.getD_eq_getElem?_getD, List.getElem?_eq_none (by omega)]; simp
section
variable {a b : List Int} {p m : Int} (F : Fr a b) (hp : -100 ≤ p ∧ p ≤ 100) (hm : 0 < m ∧ m ≤ 100)
include F hp hm
omit hp in
theorem c_bd {i : Nat} (hi : i < a.length) : 0 < m * b.getD i 0 ∧ m * b.getD i 0 ≤ 2000 := by
  have kb := F.hb _ (mem_getD (d := 0) (l := b) (i := i) (by have := F.len; omega))
  exact ⟨Int.mul_pos (by omega) (by omega), Int.mul_le_mul (c := 100) (d := 20) hm.2 kb.2 (by omega) (by omega)⟩
omit hm in
theorem pa_bd {i : Nat} (hi : i < a.length) : (p * a.getD i 0).natAbs ≤ 1000 := by
  have ka := F.ha _ (mem_getD (d := 0) (l := a) (i := i) hi)
  exact mul_bd (A := 100) (B := 10) (by omega) (by omega)
theorem gap_bd {U : List Int} {B : Nat} (hU : ∀ x ∈ U, x.natAbs ≤ B) {i : Nat} (hi : i < a.length) : (m * b.getD i 0 * (U.getD i 0 - (if 0 < i then U.getD (i - 1) 0 else 0))).natAbs ≤ 4000 * B ∧ (p * a.getD i 0 * U.getD i 0).natAbs ≤ 1000 * B ∧ (gapZ a b p m U i).natAbs ≤ 5000 * B := by
  have c1 := c_bd F hm hi
  have c2 := pa_bd F hp hi
  have u1 := getD_bd hU i
  have u2 : (if 0 < i then U.getD (i - 1) 0 else 0).natAbs ≤ B := by
    split
    · exact getD_bd hU (i - 1)
    · simp
  have h1 := mul_bd (A := 2000) (B := 2 * B) (show (m * b.getD i 0).natAbs ≤ 2000 by omega) (show (U.getD i 0 - (if 0 < i then U.getD (i - 1) 0 else 0)).natAbs ≤ 2 * B by omega)
  have h2 := mul_bd c2 u1
  unfold gapZ
  omega
theorem shU_bd : ∀ i, i < a.length → (shU a b p m i).1.length = i + 1 ∧ (∀ x ∈ (shU a b p m i).1, x.natAbs ≤ 8000 ^ i) ∧ 0 < (shU a b p m i).2 ∧ (shU a b p m i).2 ≤ ((2000 ^ i : Nat) : Int)
  | 0, _ => by simp [shU]
  | i + 1, hi => by
    obtain ⟨h1, h2, h3, h4⟩ := shU_bd i (by omega)
    have c1 := c_bd F hm hi
    obtain ⟨_, _, g⟩ := gap_bd F hp hm h2 (i := i) (by omega)
    simp only [shU]
    generalize (shU a b p m i).1 = U at *
    generalize (shU a b p m i).2 = D at *
    refine ⟨by simp [h1], fun x hx => ?_, Int.mul_pos h3 c1.1, ?_⟩
    · rw [Nat.pow_succ]
      rcases List.mem_append.1 hx with hx | hx
      · obtain ⟨y, hy, rfl⟩ := List.mem_map.1 hx
        have := mul_bd (h2 y hy) (show (m * b.getD (i + 1) 0).natAbs ≤ 2000 by omega)
        omega
      · have := List.mem_singleton.1 hx
        have k := mul_bd (getD_bd h2 i) (show (m * b.getD (i + 1) 0).natAbs ≤ 2000 by omega)
        omega
    · rw [Nat.pow_succ, Int.natCast_mul]
      exact Int.mul_le_mul h4 c1.2 (by omega) (by omega)
omit F hp hm in
theorem pow8 {i : Nat} (hi : i ≤ 3) : 8000 ^ i ≤ 512000000000 ∧ 2000 ^ i ≤ 8000000000 := by
  match i, hi with
  | 0, _ => decide
  | 1, _ => decide
  | 2, _ => decide
  | 3, _ => decide
/-- The gap. -/
theorem c61 {U : List Int} {B : Nat} (hU : ∀ x ∈ U, x.natAbs ≤ B) (hB : B ≤ 1000000000000) {i : Nat} (hi : i < a.length) (hl : U.length = i + 1) : CallV vt1 61 [.int (i : Int), .fbp true [LT U] 0, .fbp true [.int p, .int m] 0, .fbp true [LT a, LT b] 0] (.int (gapZ a b p m U i)) := by
  have len := F.len
  have n4 := F.n4
  obtain ⟨g1, g2, g3⟩ := gap_bd F hp hm hU hi
  have c1 := c_bd F hm hi
  have c2 := pa_bd F hp hi
  have u1 := getD_bd hU i
  have u2 := getD_bd hU (i - 1)
  refine CallV.by (fun ih => e61 ih _ _ _ _ _ _) ?_
  by_cases h0 : 0 < i
  · refine EvR.yes (decide_eq_true (by omega)) ?_
    have e1 : w64 ((i : Int) - 1) = ((i - 1 : Nat) : Int) := by rw [w64_id (by omega) (by omega)]; omega
    rw [e1]
    refine EvR.yes (okR_ok (by omega) (by omega)) (EvR.yes (okR_ok (by omega) (by omega)) (EvR.yes (okR_ok (by omega) (by omega)) (EvR.yes (okR_ok (by omega) (by omega)) (EvR.yes (okR_ok (by omega) (by omega)) (EvR.ret' ?_)))))
    rw [if_pos h0] at g1
    unfold gapZ at g3 ⊢
    rw [if_pos h0] at g3 ⊢
    simp only [asI_ints, Int.toNat_natCast]
    rw [w64_id (n := m * b.getD i 0) (by omega) (by omega), w64_id (n := U.getD i 0 - U.getD (i - 1) 0) (by omega) (by omega), w64_id (n := m * b.getD i 0 * _) (by omega) (by omega), w64_id (n := p * a.getD i 0) (by omega) (by omega), w64_id (n := p * a.getD i 0 * _) (by omega) (by omega), w64_id (by omega) (by omega)]
  · refine EvR.no (decide_eq_false (by omega)) ?_
    refine EvR.yes (okR_ok (by omega) (by omega)) (EvR.yes (okR_ok (by omega) (by omega)) (EvR.yes (okR_ok (by omega) (by omega)) (EvR.yes (okR_ok (by omega) (by omega)) (EvR.ret' ?_))))
    rw [if_neg h0] at g1
    unfold gapZ at g3 ⊢
    rw [if_neg h0] at g3 ⊢
    simp only [asI_ints, Int.toNat_natCast]
    rw [w64_id (n := m * b.getD i 0) (by omega) (by omega), w64_id (n := U.getD i 0 - 0) (by omega) (by omega), w64_id (n := m * b.getD i 0 * _) (by omega) (by omega), w64_id (n := p * a.getD i 0) (by omega) (by omega), w64_id (n := p * a.getD i 0 * _) (by omega) (by omega), w64_id (by omega) (by omega)]
end
theorem isRow_int {l : List Int} {i : Nat} (h : i < l.length) : isRow ⟨false, [.int]⟩ ((ints l).getD (i : Int).toNat .undef) = true := by
  have := okR_ok (l := l) (i := (i : Int)) (by omega) (by omega)
  unfold okR at this
  exact ((Bool.and_eq_true _ _).mp this).2
theorem getD_mid (A B : List Int) (x : Int) : (A ++ x :: B).getD A.length 0 = x := by simp [List.getD_eq_getElem?_getD]
theorem set_mid (A B : List Int) (x y : Int) : (A ++ x :: B).set A.length y = A ++ y :: B := by
  rw [List.set_append_right _ _ (Nat.le_refl _), Nat.sub_self]; rfl
theorem ints_set' (l : List Int) (i : Nat) (x : Int) : (ints l).set i (DV.int x) = ints (l.set i x) := by
  unfold ints; rw [List.map_set]
/-- The scaling. -/
theorem at18_1 {p m D g c n : Int} {i : Nat} {x10 : Int} {a b V : List Int} {len : Nat} {v : DV} (hlen : len ≤ 100) (hV : V.length = len) (hi : i < len) (hc : 0 < c ∧ c ≤ 2000) (hD : 0 < D ∧ D ≤ 8000000000) (hg : (V.getD i 0 + g).natAbs ≤ 4611686018427387904)
    (hk : AtV vt1 18 0 (tblL [(3, .ptr 0 0), (4, .ptr 1 0), (7, .ptr 2 0), (9, .ptr 3 0), (10, .int (D * c)), (11, .func 61 [] [.ptr 3 0, .ptr 0 0, .ptr 2 0]), (35, .int n), (36, .int ((i + 1 : Nat) : Int))]) [.box [.int p, .int m], .box [.int x10, .nils], .box [L a, L b], .box [.own 4], .row false 1 (ints (V ++ [V.getD i 0 + g]))] v) :
    ∀ (B A : List Int), A ++ B.map (· * c) = V → (∀ x ∈ B, x.natAbs ≤ 1000000000000) →
    AtV vt1 18 1 (tblL [(3, .ptr 0 0), (4, .ptr 1 0), (7, .ptr 2 0), (9, .ptr 3 0), (10, .int D), (11, .func 61 [] [.ptr 3 0, .ptr 0 0, .ptr 2 0]), (12, .int (i : Int)), (13, .int g), (14, .int c), (35, .int n), (36, .int (i : Int)), (52, .int (len : Int)), (53, .int (A.length : Int))]) [.box [.int p, .int m], .box [.int x10, .nils], .box [L a, L b], .box [.own 4], .row false 1 (ints (A ++ B))] v
  | [], A, hAB, hB => by
    rw [List.map_nil, List.append_nil] at hAB
    subst hAB
    rw [List.append_nil]
    have hDc : 0 < D * c ∧ D * c ≤ 8000000000 * 2000 := ⟨Int.mul_pos hD.1 hc.1, Int.mul_le_mul hD.2 hc.2 (by omega) (by omega)⟩
    refine AtV.by (fun ih => e18_1 ih _ _ _ _ _ _ _ _ _ _ _ _ _ _) (EvR.no (decide_eq_false (by omega)) (EvR.yes (inR_ok (by omega) (by omega)) (EvR.yes (isRow_int (by omega)) (EvR.yes (lenOk_ints (by simp; omega)) ?_))))
    rw [asI_ints, Int.toNat_natCast, wnat (by omega), w64_id (n := D * c) (by omega) (by omega), w64_id (n := A.getD i 0 + g) (by omega) (by omega), ints_snoc]
    exact hk
  | x :: B, A, hAB, hB => by
    have hx := hB x (by simp)
    have hl : A.length + (B.length + 1) = len := by rw [← hV, ← hAB]; simp
    have hxc := mul_bd hx (show c.natAbs ≤ 2000 by omega)
    refine AtV.by (fun ih => e18_1 ih _ _ _ _ _ _ _ _ _ _ _ _ _ _) (EvR.yes (decide_eq_true (by omega)) (EvR.yes (inR_ok (by omega) (by simp; omega)) (EvR.yes (isRow_int (by simp)) (EvR.yes (inR_ok (by omega) (by simp; omega)) ?_))))
    rw [asI_ints, Int.toNat_natCast, getD_mid, ints_set', set_mid, wnat (by omega), w64_id (by omega) (by omega)]
    have k := at18_1 hlen hV hi hc hD hg hk B (A ++ [x * c]) (by rw [← hAB]; simp) (fun y hy => hB y (by simp [hy]))
    rw [List.length_append, List.append_assoc] at k
    exact k
theorem getD_map {f : Int → Int} {l : List Int} {i : Nat} (h : i < l.length) : (l.map f).getD i 0 = f (l.getD i 0) := by
  simp [List.getD_eq_getElem?_getD, h]
section
variable {a b : List Int} {p m : Int} (F : Fr a b) (hp : -100 ≤ p ∧ p ≤ 100) (hm : 0 < m ∧ m ≤ 100)
include F hp hm
def shpT (a b : List Int) (p m : Int) (n : Nat) : DV := .tup [shp (shU a b p m n).1 (shU a b p m n).2, .int (gapZ a b p m (shU a b p m n).1 n).sign, .int 0]
theorem at18_0 {x5 : Int} : ∀ (n i : Nat), a.length = i + n + 1 → AtV vt1 18 0 (tblL [(3, .ptr 0 0), (4, .ptr 1 0), (7, .ptr 2 0), (9, .ptr 3 0), (10, .int (shU a b p m i).2), (11, .func 61 [] [.ptr 3 0, .ptr 0 0, .ptr 2 0]), (35, .int ((a.length - 1 : Nat) : Int)), (36, .int (i : Int))]) [.box [.int p, .int m], .box [.int x5, .nils], .box [L a, L b], .box [.own 4], .row false 1 (ints (shU a b p m i).1)] (shpT a b p m (a.length - 1))
  | 0, i, h => by
    have n4 := F.n4
    have hi : i = a.length - 1 := by omega
    obtain ⟨h1, h2, h3, h4⟩ := shU_bd F hp hm i (by omega)
    have p8 := pow8 (i := i) (by omega)
    have k1 := c59 (P := (shU a b p m i).1) (D := (shU a b p m i).2) (by omega) (by omega) (fun x hx => by have := h2 x hx; omega)
    have k2 := c61 F hp hm h2 (by omega) (i := i) (by omega) h1
    have hw : w64 ((((ints (shU a b p m i).1).length : Nat) : Int) - 1) = (i : Int) := by rw [List.length_map, h1, w64_id (by omega) (by omega)]; omega
    refine AtV.by (fun ih => e18_0 ih _ _ _ _ _ _ _ _ _) (EvR.no (decide_eq_false (by omega)) (EvR.call k1 (EvR.yes rfl ?_)))
    rw [hw]
    refine EvR.call k2 (EvR.yes (isRes_int _) (EvR.call (c62 _) (EvR.yes (isRes_int _) (EvR.ret' ?_))))
    rw [← hi]; rfl
  | n + 1, i, h => by
    have n4 := F.n4
    have len := F.len
    obtain ⟨h1, h2, h3, h4⟩ := shU_bd F hp hm i (by omega)
    have p8 := pow8 (i := i) (by omega)
    have k2 := c61 F hp hm h2 (by omega) (i := i) (by omega) h1
    have cb := c_bd F hm (i := i + 1) (by omega)
    obtain ⟨_, _, g3⟩ := gap_bd F hp hm h2 (i := i) (by omega)
    have u1 := getD_bd h2 i
    have uc := mul_bd u1 (show (m * b.getD (i + 1) 0).natAbs ≤ 2000 by omega)
    refine AtV.by (fun ih => e18_0 ih _ _ _ _ _ _ _ _ _) (EvR.yes (decide_eq_true (by omega)) (EvR.call k2 (EvR.yes (isRes_int _) ?_)))
    rw [wnat (by omega)]
    refine EvR.yes (okR_ok (by omega) (by omega)) ?_
    rw [asI_ints, Int.toNat_natCast, w64_id (n := m * _) (by omega) (by omega), asI_int, List.length_map, h1]
    have ih' := at18_0 (x5 := x5) n (i + 1) (by omega)
    refine at18_1 (V := (shU a b p m i).1.map (· * (m * b.getD (i + 1) 0))) (len := i + 1) (by omega) (by simp [h1]) (by omega) cb (by omega) (by rw [getD_map (by omega)]; omega) ?_ (shU a b p m i).1 [] rfl (fun x hx => by have := h2 x hx; omega)
    rw [getD_map (by omega)]
    exact ih'
theorem at18_s {x5 : Int} : AtV vt1 18 0 (tblL [(3, .ptr 0 0), (4, .ptr 1 0), (7, .ptr 2 0), (9, .ptr 3 0), (10, .int 1), (11, .func 61 [] [.ptr 3 0, .ptr 0 0, .ptr 2 0]), (35, .int ((a.length - 1 : Nat) : Int)), (36, .int 0)]) [.box [.int p, .int m], .box [.int x5, .nils], .box [L a, L b], .box [.own 4], .row false 1 [.int 1]] (shpT a b p m (a.length - 1)) :=
  at18_0 F hp hm (a.length - 1) 0 (by have := F.pos; omega)
end
def shE (a b : List Int) (p m : Int) : Int := firstNZ [(chk a b).2, sqE p m]
theorem firstNZ2 (x y : Int) : firstNZ [x, y] = 0 ↔ x = 0 ∧ y = 0 := by
  simp only [firstNZ]
  by_cases h : x = 0 <;> by_cases h2 : y = 0 <;> simp [h, h2]
theorem sqE_zero {p q : Int} (h : sqE p q = 0) : (0 < q ∧ Int.gcd p q = 1) ∧ (-100 ≤ p ∧ p ≤ 100) ∧ q ≤ 100 := by
  unfold sqE at h
  rw [firstNZ2] at h
  obtain ⟨h1, h2⟩ := h
  refine ⟨?_, ?_⟩
  · by_cases k : 0 < q ∧ Int.gcd p q = 1
    · exact k
    · rw [if_neg k] at h1; exact absurd h1 (by decide)
  · by_cases k : (-100 ≤ p ∧ p ≤ 100) ∧ q ≤ 100
    · exact k
    · rw [if_neg k] at h2; exact absurd h2 (by decide)
theorem c18 {a b : List Int} {p m : Int} (h1 : a.length ≤ 1000) (h2 : b.length ≤ 1000) (hm : m ≤ 9223372036854775807) : CallV vt1 18 [.agg [L a, L b], .agg [.int p, .int m]] (if shE a b p m = 0 then shpT a b p m (a.length - 1) else .tup [noShp, .int 0, .int (shE a b p m)]) := by
  refine CallV.by (fun ih => e18 ih _ _ _ _) (EvR.call (c47 h1 h2) (EvR.yes rfl (EvR.call (c60 hm) (EvR.yes (isRes_int _) (EvR.call (c44 (l := [(chk a b).2, sqE p m]) (by simp)) (EvR.yes (isRes_int _) ?_))))))
  show EvR vt1 (fun ih => bif !decide (shE a b p m = 0) then _ else _) _
  by_cases h0 : shE a b p m = 0
  · rw [if_pos h0]
    obtain ⟨hz, hs⟩ := (firstNZ2 _ _).1 h0
    have F := Fr.of hz
    obtain ⟨s1, s2, s3⟩ := sqE_zero hs
    refine EvR.no (by rw [decide_eq_true h0]; rfl) ?_
    have k := at18_s (x5 := 0) F s2 ⟨s1.1, s3⟩
    have pos := F.pos
    have hw : w64 (((ints a).length : Int) - 1) = ((a.length - 1 : Nat) : Int) := by rw [List.length_map, w64_id (by omega) (by omega)]; omega
    rw [← hw] at k
    exact k
  · rw [if_neg h0]
    exact EvR.yes (by rw [decide_eq_false h0]; rfl) (EvR.ret' rfl)
end Go.Proofs
/- Contracts of ModalShapes: Shape, the reference. -/
namespace Go.Proofs
open Go Go.Sx Go.Vx
set_option maxRecDepth 100000
def XR (U : List Int) (D : Int) : List Rat := U.map (fun u => Rat.divInt u D)
theorem XR_len (U : List Int) (D : Int) : (XR U D).length = U.length := by simp [XR]
theorem getD_XR {U : List Int} {D : Int} {i : Nat} (h : i < U.length) : (XR U D).getD i 0 = Rat.divInt (U.getD i 0) D := by
  simp [XR, List.getD_eq_getElem?_getD, h]
theorem cast_mul_div (k x D : Int) : (k : Rat) * Rat.divInt x D = Rat.divInt (k * x) D := by
  rw [← divInt_one k, Rat.divInt_mul_divInt, Int.one_mul]
theorem div_mul_cast (k x D : Int) : Rat.divInt x D * (k : Rat) = Rat.divInt (x * k) D := by
  rw [← divInt_one k, Rat.divInt_mul_divInt, Int.mul_one]
theorem div_cast {x D k : Int} : Rat.divInt x D / (k : Rat) = Rat.divInt x (D * k) := by
  rw [← divInt_one k, Rat.div_def, Rat.inv_divInt, Rat.divInt_mul_divInt, Int.mul_one]
theorem divInt_sign {x y : Int} (hy : 0 < y) : (Rat.divInt x y).num.sign = x.sign := by
  rw [(divInt_parts hy).1]
  have hg : 0 < (Int.gcd x y : Int) := by
    have := Int.gcd_pos_of_ne_zero_right x (b := y) (by omega); omega
  obtain ⟨t, ht⟩ := Int.gcd_dvd_left x y
  generalize (Int.gcd x y : Int) = g at *
  subst ht
  rw [Int.mul_ediv_cancel_left _ (by omega), Int.sign_mul, Int.sign_eq_one_of_pos hg, Int.one_mul]
theorem rlN {x y : Int} (hy : 0 < y) (h1 : x.natAbs ≤ 9223372036854775807) (h2 : y ≤ 9223372036854775807) : rl (Rat.divInt x y) ≤ 100000 := by
  have := rl_div2 (x := x) hy (by omega) h2; omega
theorem rlI {x : Int} (h1 : x.natAbs ≤ 9223372036854775807) : rl (x : Rat) ≤ 100000 := by
  have := rl_intCast (n := x) (by omega); omega
section
variable {a b : List Int} {p m : Int} (F : Fr a b) (hp : -100 ≤ p ∧ p ≤ 100) (hm : 0 < m ∧ m ≤ 100) {U : List Int} {D : Int} {B : Nat} (hU : ∀ x ∈ U, x.natAbs ≤ B) (hB : B ≤ 1000000000000) (hD : 0 < D ∧ D ≤ 10000000000) {i : Nat} (hi : i < a.length) (hl : U.length = i + 1)
include F hU hB hD hi hl
def dlt (U : List Int) (i : Nat) : Int := U.getD i 0 - (if 0 < i then U.getD (i - 1) 0 else 0)
omit F hB hD hi hl in
theorem dlt_bd : (dlt U i).natAbs ≤ 2 * B := by
  have u1 := getD_bd hU i
  have u2 := getD_bd hU (i - 1)
  unfold dlt
  split <;> omega
theorem c66 : CallV vt1 66 [.agg [LT a, LT b], LQ (XR U D), .int (i : Int)] (RW (Rat.divInt (b.getD i 0 * dlt U i) D)) := by
  have len := F.len
  have n4 := F.n4
  have kb := F.hb _ (mem_getD (d := 0) (l := b) (i := i) (by omega))
  have u1 := getD_bd hU i
  have u2 := getD_bd hU (i - 1)
  have xl := XR_len U D
  have k52 := c52 (n := b.getD i 0) (by omega) (by omega)
  refine CallV.by (fun ih => e66 ih _ _ _ _) (EvR.yes (okR_LQ (by omega) (by omega)) ?_)
  by_cases h0 : 0 < i
  · have e1 : w64 ((i : Int) - 1) = ((i - 1 : Nat) : Int) := by rw [w64_id (by omega) (by omega)]; omega
    have k65 := c65 (a := Rat.divInt (U.getD i 0) D) (b := Rat.divInt (U.getD (i - 1) 0) D) (rlN hD.1 (by omega) (by omega)) (rlN hD.1 (by omega) (by omega))
    rw [divInt_sub_same (by omega)] at k65
    have k67 := c67 (a := ((b.getD i 0 : Int) : Rat)) (b := Rat.divInt (U.getD i 0 - U.getD (i - 1) 0) D) (rlI (by omega)) (rlN hD.1 (by omega) (by omega))
    rw [cast_mul_div] at k67
    refine EvR.yes (decide_eq_true (by omega)) ?_
    rw [e1]
    refine EvR.yes (okR_LQ (by omega) (by omega)) (EvR.yes (okR_LQ (by omega) (by omega)) ?_)
    rw [Int.toNat_natCast, Int.toNat_natCast, getD_LQ (by omega), getD_LQ (by omega), getD_XR (by omega), getD_XR (by omega)]
    refine EvR.call k65 (EvR.yes (isRes_RW _) (EvR.yes (okR_ok (by omega) (by omega)) ?_))
    rw [asI_ints]
    refine EvR.call k52 (EvR.yes (isRes_RW _) (EvR.call k67 (EvR.yes (isRes_RW _) (EvR.ret' ?_))))
    unfold dlt
    rw [if_pos h0]; rfl
  · have k67 := c67 (a := ((b.getD i 0 : Int) : Rat)) (b := Rat.divInt (U.getD i 0) D) (rlI (by omega)) (rlN hD.1 (by omega) (by omega))
    rw [cast_mul_div] at k67
    refine EvR.no (decide_eq_false (by omega)) (EvR.yes (okR_ok (by omega) (by omega)) ?_)
    rw [asI_ints, Int.toNat_natCast, getD_LQ (by omega), getD_XR (by omega)]
    refine EvR.call k52 (EvR.yes (isRes_RW _) (EvR.call k67 (EvR.yes (isRes_RW _) (EvR.ret' ?_))))
    unfold dlt
    rw [if_neg h0, Int.sub_zero]; rfl
include hp hm
omit F hp hU hB hi hl in
theorem mD_bd : 0 < m * D ∧ m * D ≤ 1000000000000 := ⟨Int.mul_pos hm.1 hD.1, by have := Int.mul_le_mul (c := 100) (d := 10000000000) hm.2 hD.2 (by omega) (by omega); omega⟩
theorem k27 : CallV vt1 52 [.int (a.getD i 0)] (RW ((a.getD i 0 : Int) : Rat)) ∧ CallV vt1 67 [RW (Rat.divInt p m), RW ((a.getD i 0 : Int) : Rat)] (RW (Rat.divInt (p * a.getD i 0) m)) ∧ CallV vt1 67 [RW (Rat.divInt (p * a.getD i 0) m), RW (Rat.divInt (U.getD i 0) D)] (RW (Rat.divInt (p * a.getD i 0 * U.getD i 0) (m * D))) ∧ CallV vt1 65 [RW (Rat.divInt (b.getD i 0 * dlt U i) D), RW (Rat.divInt (p * a.getD i 0 * U.getD i 0) (m * D))] (RW (Rat.divInt (gapZ a b p m U i) (m * D))) := by
  have len := F.len
  have n4 := F.n4
  have ka := F.ha _ (mem_getD (d := 0) (l := a) (i := i) (by omega))
  have kb := F.hb _ (mem_getD (d := 0) (l := b) (i := i) (by omega))
  have u1 := getD_bd hU i
  have d1 := dlt_bd hU (i := i)
  have pa := pa_bd F hp hi
  obtain ⟨g1, g2, g3⟩ := gap_bd F hp hm hU hi
  have mD := mD_bd hm hD
  have bd := mul_bd (A := 20) (show (b.getD i 0).natAbs ≤ 20 by omega) d1
  refine ⟨c52 (by omega) (by omega), ?_, ?_, ?_⟩
  · have k := c67 (a := Rat.divInt p m) (b := ((a.getD i 0 : Int) : Rat)) (rlN hm.1 (by omega) (by omega)) (rlI (by omega))
    rw [div_mul_cast] at k
    exact k
  · have k := c67 (a := Rat.divInt (p * a.getD i 0) m) (b := Rat.divInt (U.getD i 0) D) (rlN hm.1 (by omega) (by omega)) (rlN hD.1 (by omega) (by omega))
    rw [Rat.divInt_mul_divInt] at k
    exact k
  · have k := c65 (a := Rat.divInt (b.getD i 0 * dlt U i) D) (b := Rat.divInt (p * a.getD i 0 * U.getD i 0) (m * D)) (rlN hD.1 (by omega) (by omega)) (rlN mD.1 (by omega) (by omega))
    have e : Rat.divInt (b.getD i 0 * dlt U i) D - Rat.divInt (p * a.getD i 0 * U.getD i 0) (m * D) = Rat.divInt (gapZ a b p m U i) (m * D) := by
      rw [← Rat.divInt_mul_left (n := b.getD i 0 * dlt U i) (d := D) (a := m) (by omega), divInt_sub_same (by omega)]
      congr 1
      unfold gapZ dlt
      rw [Int.mul_assoc m]
    rw [e] at k
    exact k
omit hp hU hB hi hl in
theorem x27 (hi2 : i + 1 < a.length) : Rat.divInt (U.getD i 0) D + Rat.divInt (gapZ a b p m U i) (m * D * b.getD (i + 1) 0) = Rat.divInt (U.getD i 0 * (m * b.getD (i + 1) 0) + gapZ a b p m U i) (D * (m * b.getD (i + 1) 0)) := by
  have c1 := c_bd F hm hi2
  rw [show m * D * b.getD (i + 1) 0 = D * (m * b.getD (i + 1) 0) by grind]
  rw [← Rat.divInt_mul_right (n := U.getD i 0) (d := D) (a := m * b.getD (i + 1) 0) (by omega), divInt_add_same]
  have := Int.mul_pos hD.1 c1.1
  omega
end
abbrev RB (q : Rat) : VB := .box [.int q.num.sign, L (digits q.num.natAbs), .int (q.den : Int).sign, L (digits (q.den : Int).natAbs)]
section
variable {a b : List Int} {p m : Int} (F : Fr a b) (hp : -100 ≤ p ∧ p ≤ 100) (hm : 0 < m ∧ m ≤ 100)
include F hp hm
omit hp in
theorem XR_succ {i : Nat} (hi : i + 1 < a.length) : (XR (shU a b p m i).1 (shU a b p m i).2).map RW ++ [RW (Rat.divInt ((shU a b p m i).1.getD i 0 * (m * b.getD (i + 1) 0) + gapZ a b p m (shU a b p m i).1 i) ((shU a b p m i).2 * (m * b.getD (i + 1) 0)))] = (XR (shU a b p m (i + 1)).1 (shU a b p m (i + 1)).2).map RW := by
  have c1 := c_bd F hm hi
  simp only [shU, XR, List.map_append, List.map_map, List.map_cons, List.map_nil]
  congr 1
  refine List.map_congr_left (fun x _ => ?_)
  simp only [Function.comp]
  rw [Rat.divInt_mul_right (by omega)]
theorem at27 {x7 : Int} : ∀ (n i : Nat), a.length = i + n + 1 → AtV vt1 27 0 (tblL [(2, .ptr 0 0), (3, .ptr 1 0), (4, .ptr 2 0), (6, .own 3), (7, .int (i : Int))]) [.box [L a, L b], RB (Rat.divInt p m), .box [.int x7, .nils], .row false 4 ((XR (shU a b p m i).1 (shU a b p m i).2).map RW)] (.tup [shp (shU a b p m (a.length - 1)).1 (shU a b p m (a.length - 1)).2, .int (gapZ a b p m (shU a b p m (a.length - 1)).1 (a.length - 1)).sign])
  | 0, i, h => by
    have n4 := F.n4
    have len := F.len
    have hi : i = a.length - 1 := by omega
    obtain ⟨h1, h2, h3, h4⟩ := shU_bd F hp hm i (by omega)
    have p8 := pow8 (i := i) (by omega)
    have k66 := c66 F h2 (by omega) (D := (shU a b p m i).2) (by omega) (i := i) (by omega) h1
    obtain ⟨k1, k2, k3, k4⟩ := k27 F hp hm h2 (by omega) (D := (shU a b p m i).2) (by omega) (i := i) (by omega) h1
    have k63 := c63s (P := (shU a b p m i).1) (D := (shU a b p m i).2) (by omega) (by omega) (fun x hx => by have := h2 x hx; omega)
    have mD := mD_bd hm (D := (shU a b p m i).2) (by omega)
    have k69 := c69 (Rat.divInt (gapZ a b p m (shU a b p m i).1 i) (m * (shU a b p m i).2))
    rw [divInt_sign mD.1] at k69
    have hw : w64 (((ints a).length : Int) - 1) = (i : Int) := by rw [List.length_map, w64_id (by omega) (by omega)]; omega
    have xl := XR_len (shU a b p m i).1 (shU a b p m i).2
    refine AtV.by (fun ih => e27_0 ih _ _ _ _ _ _ _ _ _) (EvR.no (decide_eq_false (by rw [List.length_map, wnat (by omega)]; omega)) ?_)
    rw [hw]
    refine EvR.call k66 (EvR.yes (isRes_RW _) (EvR.yes (okR_ok (by omega) (by omega)) ?_))
    rw [asI_ints, Int.toNat_natCast, getD_LQ (by omega), getD_XR (by omega)]
    refine EvR.call k1 (EvR.yes (isRes_RW _) (EvR.call k2 (EvR.yes (isRes_RW _) (EvR.yes (inR_LQ (by omega) (by omega)) (EvR.yes (rowQ _) (EvR.call k3 (EvR.yes (isRes_RW _) (EvR.call k4 (EvR.yes (isRes_RW _) (EvR.call k63 (EvR.yes rfl (EvR.call k69 (EvR.yes (isRes_int _) (EvR.ret' ?_))))))))))))))
    rw [← hi]; rfl
  | n + 1, i, h => by
    have n4 := F.n4
    have len := F.len
    obtain ⟨h1, h2, h3, h4⟩ := shU_bd F hp hm i (by omega)
    have p8 := pow8 (i := i) (by omega)
    have k66 := c66 F h2 (by omega) (D := (shU a b p m i).2) (by omega) (i := i) (by omega) h1
    obtain ⟨k1, k2, k3, k4⟩ := k27 F hp hm h2 (by omega) (D := (shU a b p m i).2) (by omega) (i := i) (by omega) h1
    have mD := mD_bd hm (D := (shU a b p m i).2) (by omega)
    have xl := XR_len (shU a b p m i).1 (shU a b p m i).2
    have kb := F.hb _ (mem_getD (d := 0) (l := b) (i := i + 1) (by omega))
    obtain ⟨_, _, g3⟩ := gap_bd F hp hm h2 (i := i) (by omega)
    have u1 := getD_bd h2 i
    have k52 := c52 (n := b.getD (i + 1) 0) (by omega) (by omega)
    have hk0 : ((b.getD (i + 1) 0 : Int) : Rat) ≠ 0 := by
      intro e
      have := Rat.intCast_eq_zero_iff.1 e
      omega
    have k68 := c68 (a := Rat.divInt (gapZ a b p m (shU a b p m i).1 i) (m * (shU a b p m i).2)) hk0 (rlN mD.1 (by omega) (by omega)) (rlI (by omega))
    rw [div_cast] at k68
    have mDk := mul20 mD kb
    have k53 := c53 (a := Rat.divInt ((shU a b p m i).1.getD i 0) (shU a b p m i).2) (b := Rat.divInt (gapZ a b p m (shU a b p m i).1 i) (m * (shU a b p m i).2 * b.getD (i + 1) 0)) (rlN h3 (by omega) (by omega)) (rlN mDk.1 (by omega) (by omega))
    rw [x27 F hm (p := p) (U := (shU a b p m i).1) (D := (shU a b p m i).2) (by omega) (i := i) (by omega)] at k53
    refine AtV.by (fun ih => e27_0 ih _ _ _ _ _ _ _ _ _) (EvR.yes (decide_eq_true (by rw [List.length_map, wnat (by omega)]; omega)) ?_)
    refine EvR.call k66 (EvR.yes (isRes_RW _) (EvR.yes (okR_ok (by omega) (by omega)) ?_))
    rw [asI_ints, wnat (by omega), asI_ints, Int.toNat_natCast, Int.toNat_natCast, getD_LQ (by omega), getD_XR (by omega)]
    refine EvR.call k1 (EvR.yes (isRes_RW _) (EvR.call k2 (EvR.yes (isRes_RW _) (EvR.yes (inR_LQ (by omega) (by omega)) (EvR.yes (rowQ _) (EvR.call k3 (EvR.yes (isRes_RW _) (EvR.call k4 (EvR.yes (isRes_RW _) (EvR.yes (inR_LQ (by omega) (by omega)) (EvR.yes (rowQ _) (EvR.yes (okR_ok (by omega) (by omega)) (EvR.call k52 (EvR.yes (isRes_RW _) (EvR.call k68 (EvR.yes (isRes_RW _) (EvR.call k53 (EvR.yes (isRes_RW _) (EvR.yes (lenOk_RW (by rw [List.length_map, xl]; simp; omega)) ?_)))))))))))))))))))
    have ih' := at27 (x7 := x7) n (i + 1) (by omega)
    rw [← XR_succ F hm (by omega)] at ih'
    exact ih'
/-- Shape. -/
theorem c27 : CallV vt1 27 [.agg [L a, L b], RW (Rat.divInt p m)] (.tup [shp (shU a b p m (a.length - 1)).1 (shU a b p m (a.length - 1)).2, .int (gapZ a b p m (shU a b p m (a.length - 1)).1 (a.length - 1)).sign]) := by
  have k := c52 (n := 1) (by omega) (by omega)
  have e1 : ((1 : Int) : Rat) = Rat.divInt 1 1 := (divInt_one 1).symm
  rw [e1] at k
  exact CallV.by (fun ih => e27 ih _ _ _ _ _ _) (EvR.call k (EvR.yes (isRes_RW _) (at27 F hp hm (a.length - 1) 0 (by have := F.pos; omega))))
end
end Go.Proofs
/- ModalShapes: the law. -/
namespace Go.Proofs
open Go Go.Sx Go.Vx
set_option maxRecDepth 100000
theorem not_dec {P : Prop} [Decidable P] (h : ¬ P) : (!decide P) = true := by rw [decide_eq_false h]; rfl
theorem not_decT {x : Int} : (!decide (x = x)) = false := by rw [decide_eq_true rfl]; rfl
theorem shp_abs {P : List Int} {D : Int} (h : P.length ≤ 100) : ∃ g Q, shp P D = .agg [.int g, L Q] ∧ Q.length ≤ 100 := ⟨_, _, rfl, by simpa using h⟩
theorem c23s {g : Int} {Q : List Int} (h : Q.length ≤ 1000000) : CallV vt1 23 [.agg [.int g, LT Q], .agg [.int g, LT Q]] (.bool true) := by
  have := c23 (d := g) (e := g) (l := Q) (m := Q) h
  rw [decide_eq_true ⟨rfl, rfl⟩] at this
  exact this
set_option maxHeartbeats 4000000 in
theorem c4 {a b l u : List Int} {p m : Int} (hm : m ≤ 9223372036854775807) : CallV vt1 4 [.agg [L a, L b], .agg [.int p, .int m], .agg [L l, L u]] (.bool true) := by
  have k7 := c7 a b
  by_cases hf : a.length ≤ 6 ∧ b.length ≤ 6
  case neg =>
    rw [decide_eq_false hf] at k7
    exact CallV.by (fun ih => e4 ih _ _ _ _ _ _) (EvR.call c6 (EvR.yes (isRes_bool _) (EvR.no rfl (EvR.call k7 (EvR.yes (isRes_bool _) (EvR.yes rfl EvR.ret))))))
  rw [decide_eq_true hf] at k7
  by_cases hl : l.length ≤ 6
  case neg =>
    exact CallV.by (fun ih => e4 ih _ _ _ _ _ _) (EvR.call c6 (EvR.yes (isRes_bool _) (EvR.no rfl (EvR.call k7 (EvR.yes (isRes_bool _) (EvR.no rfl (EvR.yes (decide_eq_true (by rw [List.length_map]; omega)) EvR.ret)))))))
  have hl6 : decide (6 < ((ints l).length : Int)) = false := decide_eq_false (by rw [List.length_map]; omega)
  by_cases hu : u.length ≤ 62
  case neg =>
    exact CallV.by (fun ih => e4 ih _ _ _ _ _ _) (EvR.call c6 (EvR.yes (isRes_bool _) (EvR.no rfl (EvR.call k7 (EvR.yes (isRes_bool _) (EvR.no rfl (EvR.no hl6 (EvR.yes (decide_eq_true (by rw [List.length_map]; omega)) EvR.ret))))))))
  have hu62 : decide (62 < ((ints u).length : Int)) = false := decide_eq_false (by rw [List.length_map]; omega)
  have k9 := c9 (a := a) (b := b) (by omega) (by omega)
  have k17 := c17 (a := l) (by omega)
  have k17u := c17 (a := u) (by omega)
  have k19 := c19 (l := u) (by omega)
  have k20 := c20 (l := u) (by omega)
  have k21 := c21 (a := a) (b := b) (by omega) (by omega)
  have k22 := c22 (a := a) (b := b) (l := l) (by omega) (by omega)
  have k26 := c26 (p := p) (q := m) hm
  have k16 := c16 (a := a) (b := b) (l := l) (by omega) (by omega) (by omega)
  have k18 := c18 (a := a) (b := b) (p := p) (m := m) (by omega) (by omega) hm
  have k25 := c25 (chk a b).2 (sqE p m)
  have k23e := c23s (g := 0) (Q := []) (by simp)
  have hu60 : ∃ x y : Int, CallV vt1 19 [LT u] (.tup [.int x, .int y]) ∧ ((decide (60 < ((ints u).length : Int)) = true ∧ x = 0 ∧ y = 8) ∨ (decide (60 < ((ints u).length : Int)) = false ∧ CallV vt1 20 [LT u] (.int x) ∧ y = 0)) := by
    by_cases h : 60 < u.length
    · rw [if_pos h] at k19
      exact ⟨0, 8, k19, .inl ⟨decide_eq_true (by rw [List.length_map]; omega), rfl, rfl⟩⟩
    · rw [if_neg h] at k19
      exact ⟨_, 0, k19, .inr ⟨decide_eq_false (by rw [List.length_map]; omega), k20, rfl⟩⟩
  clear k19 k20
  obtain ⟨x, y, k19, hxy⟩ := hu60
  by_cases hE : (chk a b).2 = 0
  case neg =>
    have e1 : swE a b l = (chk a b).2 := by unfold swE; rw [if_neg hE]
    have e2 : shE a b p m = (chk a b).2 := by unfold shE; simp [firstNZ, hE]
    have e3 : firstNZ [(chk a b).2, sqE p m] = (chk a b).2 := e2
    rw [e1, if_neg hE] at k16
    rw [e2, if_neg hE] at k18
    rw [e3] at k25
    clear k22 e1 e2 e3
    generalize (chk a b).2 = e at *
    generalize sqE p m = s at *
    rcases hxy with ⟨h60, rfl, rfl⟩ | ⟨h60, k20, rfl⟩
    all_goals
      refine CallV.by (fun ih => e4 ih _ _ _ _ _ _) ?_
      repeat (first
        | exact EvR.ret' rfl
        | refine EvR.call c6 ?_ | refine EvR.call k7 ?_ | refine EvR.call k9 ?_ | refine EvR.call k17 ?_ | refine EvR.call k17u ?_ | refine EvR.call k16 ?_ | refine EvR.call k18 ?_ | refine EvR.call k19 ?_ | refine EvR.call k20 ?_ | refine EvR.call k21 ?_ | refine EvR.call k25 ?_ | refine EvR.call k26 ?_ | refine EvR.call k23e ?_
        | refine EvR.no hl6 ?_ | refine EvR.no hu62 ?_ | refine EvR.yes h60 ?_ | refine EvR.no h60 ?_
        | refine EvR.yes rfl ?_ | refine EvR.no rfl ?_
        | refine EvR.no (decide_eq_false hE) ?_ | refine EvR.yes (not_dec hE) ?_
        | refine EvR.no not_decT ?_ | refine EvR.yes (decide_eq_true rfl) ?_)
  have F := Fr.of hE
  rw [hE] at k21 k25
  have e2 : shE a b p m = sqE p m := by unfold shE; rw [hE]; by_cases h : sqE p m = 0 <;> simp [firstNZ, h]
  have e3 : firstNZ [0, sqE p m] = sqE p m := by by_cases h : sqE p m = 0 <;> simp [firstNZ, h]
  have e1 : swE a b l = ldE a.length l := by unfold swE; rw [if_pos hE]
  rw [e1] at k16
  rw [e2] at k18
  rw [e3] at k25
  have hS : (sqE p m = 0 ∧ ∃ g Q s, Q.length ≤ 100 ∧ CallV vt1 18 [.agg [L a, L b], .agg [.int p, .int m]] (.tup [.agg [.int g, L Q], .int s, .int 0]) ∧ CallV vt1 27 [.agg [L a, L b], RW (Rat.divInt p m)] (.tup [.agg [.int g, L Q], .int s]) ∧ CallV vt1 28 [.agg [.int p, .int m]] (RW (Rat.divInt p m))) ∨ (¬ sqE p m = 0 ∧ CallV vt1 18 [.agg [L a, L b], .agg [.int p, .int m]] (.tup [noShp, .int 0, .int (sqE p m)])) := by
    by_cases h : sqE p m = 0
    · obtain ⟨s1, s2, s3⟩ := sqE_zero h
      rw [if_pos h] at k18
      have k27 := c27 F s2 ⟨s1.1, s3⟩
      have n4 := F.n4
      have pos := F.pos
      obtain ⟨g, Q, q1, q2⟩ := shp_abs (P := (shU a b p m (a.length - 1)).1) (D := (shU a b p m (a.length - 1)).2) (by have := (shU_bd F s2 ⟨s1.1, s3⟩ (a.length - 1) (by omega)).1; omega)
      unfold shpT at k18
      rw [q1] at k18 k27
      exact .inl ⟨h, g, Q, _, q2, k18, k27, c28 (by omega) (by omega) (by omega) (by omega) hm⟩
    · rw [if_neg h] at k18
      exact .inr ⟨h, k18⟩
  have hL : (ldE a.length l = 0 ∧ ∃ g Q, Q.length ≤ 100 ∧ CallV vt1 16 [.agg [L a, L b], L l] (.tup [.agg [.int g, L Q], .int 0]) ∧ CallV vt1 24 [.agg [LT a, LT b], LT l] (.agg [.int g, L Q])) ∨ (¬ ldE a.length l = 0 ∧ CallV vt1 16 [.agg [L a, L b], L l] (.tup [noShp, .int (ldE a.length l)])) := by
    by_cases h : ldE a.length l = 0
    · obtain ⟨l1, l2⟩ := ldE_zero h
      rw [if_pos h] at k16
      have k24 := c24 F l1 l2 (E := prd b 1) rfl
      obtain ⟨g, Q, q1, q2⟩ := shp_abs (P := swP (prd b 1) b l a.length) (D := prd b 1) (swP_bd F l1 l2 rfl F.n4).1
      rw [q1] at k16 k24
      exact .inl ⟨h, g, Q, q2, k16, k24⟩
    · rw [if_neg h] at k16
      exact .inr ⟨h, k16⟩
  clear k16 k18 e1 e2 e3
  rcases hL with ⟨hd, g1, Q1, n1, k16, k24⟩ | ⟨hd, k16⟩
  · have k23a := c23s (g := g1) (Q := Q1) (by omega)
    rw [hd] at k22
    rcases hS with ⟨hs, g2, Q2, s2, n2, k18, k27, k28⟩ | ⟨hs, k18⟩
    · have k23b := c23s (g := g2) (Q := Q2) (by omega)
      rw [hs] at k25 k26
      clear hE hd hs
      rcases hxy with ⟨h60, rfl, rfl⟩ | ⟨h60, k20, rfl⟩
      all_goals
        refine CallV.by (fun ih => e4 ih _ _ _ _ _ _) ?_
        repeat (first
          | exact EvR.ret' rfl
          | refine EvR.call c6 ?_ | refine EvR.call k7 ?_ | refine EvR.call k9 ?_ | refine EvR.call k17 ?_ | refine EvR.call k17u ?_ | refine EvR.call k16 ?_ | refine EvR.call k18 ?_ | refine EvR.call k19 ?_ | refine EvR.call k20 ?_ | refine EvR.call k21 ?_ | refine EvR.call k22 ?_ | refine EvR.call k24 ?_ | refine EvR.call k25 ?_ | refine EvR.call k26 ?_ | refine EvR.call k28 ?_ | refine EvR.call k27 ?_ | refine EvR.call k23a ?_ | refine EvR.call k23b ?_
          | refine EvR.no hl6 ?_ | refine EvR.no hu62 ?_ | refine EvR.yes h60 ?_ | refine EvR.no h60 ?_
          | refine EvR.yes rfl ?_ | refine EvR.no rfl ?_
          | refine EvR.no not_decT ?_ | refine EvR.yes (decide_eq_true rfl) ?_)
    · clear hE hd
      generalize sqE p m = s at *
      rcases hxy with ⟨h60, rfl, rfl⟩ | ⟨h60, k20, rfl⟩
      all_goals
        refine CallV.by (fun ih => e4 ih _ _ _ _ _ _) ?_
        repeat (first
          | exact EvR.ret' rfl
          | refine EvR.call c6 ?_ | refine EvR.call k7 ?_ | refine EvR.call k9 ?_ | refine EvR.call k17 ?_ | refine EvR.call k17u ?_ | refine EvR.call k16 ?_ | refine EvR.call k18 ?_ | refine EvR.call k19 ?_ | refine EvR.call k20 ?_ | refine EvR.call k21 ?_ | refine EvR.call k22 ?_ | refine EvR.call k24 ?_ | refine EvR.call k25 ?_ | refine EvR.call k26 ?_ | refine EvR.call k23a ?_ | refine EvR.call k23e ?_
          | refine EvR.no hl6 ?_ | refine EvR.no hu62 ?_ | refine EvR.yes h60 ?_ | refine EvR.no h60 ?_
          | refine EvR.yes rfl ?_ | refine EvR.no rfl ?_
          | refine EvR.no (decide_eq_false hs) ?_ | refine EvR.yes (not_dec hs) ?_
          | refine EvR.no not_decT ?_ | refine EvR.yes (decide_eq_true rfl) ?_)
  · generalize ldE a.length l = d at *
    rcases hS with ⟨hs, g2, Q2, s2, n2, k18, k27, k28⟩ | ⟨hs, k18⟩
    · have k23b := c23s (g := g2) (Q := Q2) (by omega)
      rw [hs] at k25 k26
      clear hE hs
      rcases hxy with ⟨h60, rfl, rfl⟩ | ⟨h60, k20, rfl⟩
      all_goals
        refine CallV.by (fun ih => e4 ih _ _ _ _ _ _) ?_
        repeat (first
          | exact EvR.ret' rfl
          | refine EvR.call c6 ?_ | refine EvR.call k7 ?_ | refine EvR.call k9 ?_ | refine EvR.call k17 ?_ | refine EvR.call k17u ?_ | refine EvR.call k16 ?_ | refine EvR.call k18 ?_ | refine EvR.call k19 ?_ | refine EvR.call k20 ?_ | refine EvR.call k21 ?_ | refine EvR.call k22 ?_ | refine EvR.call k25 ?_ | refine EvR.call k26 ?_ | refine EvR.call k28 ?_ | refine EvR.call k27 ?_ | refine EvR.call k23e ?_ | refine EvR.call k23b ?_
          | refine EvR.no hl6 ?_ | refine EvR.no hu62 ?_ | refine EvR.yes h60 ?_ | refine EvR.no h60 ?_
          | refine EvR.yes rfl ?_ | refine EvR.no rfl ?_
          | refine EvR.no (decide_eq_false hd) ?_ | refine EvR.yes (not_dec hd) ?_
          | refine EvR.no not_decT ?_ | refine EvR.yes (decide_eq_true rfl) ?_)
    · clear hE
      generalize sqE p m = s at *
      rcases hxy with ⟨h60, rfl, rfl⟩ | ⟨h60, k20, rfl⟩
      all_goals
        refine CallV.by (fun ih => e4 ih _ _ _ _ _ _) ?_
        repeat (first
          | exact EvR.ret' rfl
          | refine EvR.call c6 ?_ | refine EvR.call k7 ?_ | refine EvR.call k9 ?_ | refine EvR.call k17 ?_ | refine EvR.call k17u ?_ | refine EvR.call k16 ?_ | refine EvR.call k18 ?_ | refine EvR.call k19 ?_ | refine EvR.call k20 ?_ | refine EvR.call k21 ?_ | refine EvR.call k22 ?_ | refine EvR.call k25 ?_ | refine EvR.call k26 ?_ | refine EvR.call k23e ?_
          | refine EvR.no hl6 ?_ | refine EvR.no hu62 ?_ | refine EvR.yes h60 ?_ | refine EvR.no h60 ?_
          | refine EvR.yes rfl ?_ | refine EvR.no rfl ?_
          | refine EvR.no (decide_eq_false hd) ?_ | refine EvR.yes (not_dec hd) ?_
          | refine EvR.no (decide_eq_false hs) ?_ | refine EvR.yes (not_dec hs) ?_
          | refine EvR.no not_decT ?_ | refine EvR.yes (decide_eq_true rfl) ?_)
end Go.Proofs
/- Seat 1: the copy of a slice of ints. -/
namespace Go.Proofs
open Go Go.Sx Go.Vx Go.RowKit
set_option maxRecDepth 100000
noncomputable def c102 : Code := bodyOf Try.f102
noncomputable def r102 : Code := sq1 (sq2 (sq2 c102))
def T102 (a : AV) : Tbl AV := putT (putT (putT (argsT [a] 0 .leaf) .nils (some 2)) a (some 3)) (.bool false) (some 4)
def U102 (a : AV) (E : Env) : Tbl AV := putT (putT (T102 a) (.slice (E.m0 + 0) 0 0 0 0) (some 5)) a (some 6)
noncomputable def tyI : TyI := ⟨1, 8, .int .i64 0, .other, false⟩
noncomputable def o4 (n : Nat) : Oper := (regOps r102).getD n default
theorem cl1 (big : Nat) (ih : Ih) (E : Env) (b o n c q : Nat) : Go.Sx.callF (stab vt1 big) ih E 102 [.slice b o n c q] Mem.nil =
    call2 (stab vt1 big) E Try.f102.results.toList (thenR (codeF (stab vt1 big) ih E (sq2 (sq2 (sq2 c102)))) (normalR (opsNext (U102 (.slice b o n c q) E) (some 7) (opsRun (stab vt1 big) ih E (regOps r102) [o4 3]) (append2 E M1 tyI (.slice (E.m0 + 0) 0 0 0 0) (srcOf E M1 (.slice b o n c q) tyI))))) := by kernel_rfl
theorem clone102 : CloneFn vt1 102 where
  nils := fun big ih E => by kernel_rfl
  emp := fun big ih E z => by kernel_rfl
  sl := fun big ih E b o n c q => ⟨tyI, rfl, rfl, fun v M' h => by
    rw [cl1, h]
    kernel_rfl⟩
theorem vok1 : VOK vt1 := ⟨rfl, fun f hf => by
  have : f = 102 := beqT hf
  subst this
  exact clone102⟩
end Go.Proofs
