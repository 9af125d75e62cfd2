/- SensorImages: for every pair of images the law returns true, and both read behind the call as before; no conditions. Part 4 of 10. -/
import Derived.ChangeOld
import Derived.Carry
import Derived.ChangeArms
import Derived.OpenShut
import Derived.Test.YteolnmnikcobcaaSi3
/- SensorImages: the plain law of sums. -/
namespace Go.Proofs
open Go Go.Sx Go.Vx
set_option maxRecDepth 100000
def tot : List Int → Int
  | [] => 0
  | x :: l => x + tot l
def wsm : Int → List Int → Int
  | _, [] => 0
  | k, x :: l => k * x + wsm (k + 1) l
/-- Ten numbers up to M: their sum, and the sum of them times their places. -/
def Ten (M A X : Int) : Prop := ∃ c0 c1 c2 c3 c4 c5 c6 c7 c8 c9 : Int, ((0 ≤ c0 ∧ c0 ≤ M) ∧ (0 ≤ c1 ∧ c1 ≤ M) ∧ (0 ≤ c2 ∧ c2 ≤ M) ∧ (0 ≤ c3 ∧ c3 ≤ M) ∧ (0 ≤ c4 ∧ c4 ≤ M) ∧ (0 ≤ c5 ∧ c5 ≤ M) ∧ (0 ≤ c6 ∧ c6 ≤ M) ∧ (0 ≤ c7 ∧ c7 ≤ M) ∧ (0 ≤ c8 ∧ c8 ≤ M) ∧ (0 ≤ c9 ∧ c9 ≤ M)) ∧
  A = c0 + c1 + c2 + c3 + c4 + c5 + c6 + c7 + c8 + c9 ∧ X = c1 + 2 * c2 + 3 * c3 + 4 * c4 + 5 * c5 + 6 * c6 + 7 * c7 + 8 * c8 + 9 * c9
theorem Ten.zero {M : Int} (h : 0 ≤ M) : Ten M 0 0 := ⟨0, 0, 0, 0, 0, 0, 0, 0, 0, 0, by omega, by omega, by omega⟩
theorem Ten.add {M N A X B Y : Int} (h : Ten M A X) (k : Ten N B Y) : Ten (M + N) (A + B) (X + Y) := by
  obtain ⟨c0, c1, c2, c3, c4, c5, c6, c7, c8, c9, hb, h1, h2⟩ := h
  obtain ⟨d0, d1, d2, d3, d4, d5, d6, d7, d8, d9, kb, k1, k2⟩ := k
  exact ⟨c0 + d0, c1 + d1, c2 + d2, c3 + d3, c4 + d4, c5 + d5, c6 + d6, c7 + d7, c8 + d8, c9 + d9, by omega, by omega, by omega⟩
theorem Ten.mono {M N A X : Int} (h : Ten M A X) (hm : M ≤ N) : Ten N A X := by
  obtain ⟨c0, c1, c2, c3, c4, c5, c6, c7, c8, c9, hb, h1, h2⟩ := h
  exact ⟨c0, c1, c2, c3, c4, c5, c6, c7, c8, c9, by omega, h1, h2⟩
theorem Ten.le {M A X : Int} (h : Ten M A X) : 0 ≤ A ∧ A ≤ 10 * M ∧ 0 ≤ X ∧ X ≤ 45 * M := by
  obtain ⟨c0, c1, c2, c3, c4, c5, c6, c7, c8, c9, hb, h1, h2⟩ := h
  omega
theorem Ten.list {M : Int} (hM : 0 ≤ M) {l : List Int} (hl : l.length ≤ 10) (hb : ∀ x ∈ l, 0 ≤ x ∧ x ≤ M) : Ten M (tot l) (wsm 0 l) := by
  have z : 0 ≤ (0 : Int) ∧ (0 : Int) ≤ M := ⟨by omega, hM⟩
  rcases l with _ | ⟨a, _ | ⟨b, _ | ⟨c, _ | ⟨d, _ | ⟨e, _ | ⟨f, _ | ⟨g, _ | ⟨h, _ | ⟨i, _ | ⟨j, _ | ⟨k, l⟩⟩⟩⟩⟩⟩⟩⟩⟩⟩⟩
  · exact Ten.zero hM
  · simp only [List.mem_cons, List.not_mem_nil, or_false, forall_eq_or_imp, forall_eq] at hb
    exact ⟨a, 0, 0, 0, 0, 0, 0, 0, 0, 0, ⟨hb, z, z, z, z, z, z, z, z, z⟩, by simp only [tot]; omega, by simp only [wsm]; omega⟩
  · simp only [List.mem_cons, List.not_mem_nil, or_false, forall_eq_or_imp, forall_eq] at hb
    exact ⟨a, b, 0, 0, 0, 0, 0, 0, 0, 0, ⟨hb.1, hb.2, z, z, z, z, z, z, z, z⟩, by simp only [tot]; omega, by simp only [wsm]; omega⟩
  · simp only [List.mem_cons, List.not_mem_nil, or_false, forall_eq_or_imp, forall_eq] at hb
    obtain ⟨x0, x1, x2⟩ := hb
    exact ⟨a, b, c, 0, 0, 0, 0, 0, 0, 0, ⟨x0, x1, x2, z, z, z, z, z, z, z⟩, by simp only [tot]; omega, by simp only [wsm]; omega⟩
  · simp only [List.mem_cons, List.not_mem_nil, or_false, forall_eq_or_imp, forall_eq] at hb
    obtain ⟨x0, x1, x2, x3⟩ := hb
    exact ⟨a, b, c, d, 0, 0, 0, 0, 0, 0, ⟨x0, x1, x2, x3, z, z, z, z, z, z⟩, by simp only [tot]; omega, by simp only [wsm]; omega⟩
  · simp only [List.mem_cons, List.not_mem_nil, or_false, forall_eq_or_imp, forall_eq] at hb
    obtain ⟨x0, x1, x2, x3, x4⟩ := hb
    exact ⟨a, b, c, d, e, 0, 0, 0, 0, 0, ⟨x0, x1, x2, x3, x4, z, z, z, z, z⟩, by simp only [tot]; omega, by simp only [wsm]; omega⟩
  · simp only [List.mem_cons, List.not_mem_nil, or_false, forall_eq_or_imp, forall_eq] at hb
    obtain ⟨x0, x1, x2, x3, x4, x5⟩ := hb
    exact ⟨a, b, c, d, e, f, 0, 0, 0, 0, ⟨x0, x1, x2, x3, x4, x5, z, z, z, z⟩, by simp only [tot]; omega, by simp only [wsm]; omega⟩
  · simp only [List.mem_cons, List.not_mem_nil, or_false, forall_eq_or_imp, forall_eq] at hb
    obtain ⟨x0, x1, x2, x3, x4, x5, x6⟩ := hb
    exact ⟨a, b, c, d, e, f, g, 0, 0, 0, ⟨x0, x1, x2, x3, x4, x5, x6, z, z, z⟩, by simp only [tot]; omega, by simp only [wsm]; omega⟩
  · simp only [List.mem_cons, List.not_mem_nil, or_false, forall_eq_or_imp, forall_eq] at hb
    obtain ⟨x0, x1, x2, x3, x4, x5, x6, x7⟩ := hb
    exact ⟨a, b, c, d, e, f, g, h, 0, 0, ⟨x0, x1, x2, x3, x4, x5, x6, x7, z, z⟩, by simp only [tot]; omega, by simp only [wsm]; omega⟩
  · simp only [List.mem_cons, List.not_mem_nil, or_false, forall_eq_or_imp, forall_eq] at hb
    obtain ⟨x0, x1, x2, x3, x4, x5, x6, x7, x8⟩ := hb
    exact ⟨a, b, c, d, e, f, g, h, i, 0, ⟨x0, x1, x2, x3, x4, x5, x6, x7, x8, z⟩, by simp only [tot]; omega, by simp only [wsm]; omega⟩
  · simp only [List.mem_cons, List.not_mem_nil, or_false, forall_eq_or_imp, forall_eq] at hb
    obtain ⟨x0, x1, x2, x3, x4, x5, x6, x7, x8, x9⟩ := hb
    exact ⟨a, b, c, d, e, f, g, h, i, j, ⟨x0, x1, x2, x3, x4, x5, x6, x7, x8, x9⟩, by simp only [tot]; omega, by simp only [wsm]; omega⟩
  · simp at hl
theorem mulM {b y M m : Int} (hb : 0 ≤ b ∧ b ≤ M) (h1 : y ≤ m) (h0 : 0 ≤ m) : b * y ≤ M * m := by
  have e1 := Int.mul_le_mul_of_nonneg_left h1 hb.1
  have e2 := Int.mul_le_mul_of_nonneg_right hb.2 h0
  omega
theorem Ten.far {A X B Y : Int} (h : Ten 2550 A X) (k : Ten 2550 B Y) : Y * A - X * B ≤ 1000000000 := by
  obtain ⟨c0, c1, c2, c3, c4, c5, c6, c7, c8, c9, hb, h1, h2⟩ := h
  obtain ⟨d0, d1, d2, d3, d4, d5, d6, d7, d8, d9, ⟨k0, k1, k2, k3, k4, k5, k6, k7, k8, k9⟩, e1, e2⟩ := k
  have e : Y * A - X * B = d0 * (0 - X) + d1 * (A - X) + d2 * (2 * A - X) + d3 * (3 * A - X) + d4 * (4 * A - X) + d5 * (5 * A - X) + d6 * (6 * A - X) + d7 * (7 * A - X) + d8 * (8 * A - X) + d9 * (9 * A - X) := by
    rw [e1, e2]; grind
  have hA : 0 ≤ A := by omega
  have hX : 0 ≤ X := by omega
  have main : ∀ m0 m1 m2 m3 m4 m5 m6 m7 m8 m9 : Int, (0 ≤ m0 ∧ 0 - X ≤ m0) → (0 ≤ m1 ∧ A - X ≤ m1) → (0 ≤ m2 ∧ 2 * A - X ≤ m2) → (0 ≤ m3 ∧ 3 * A - X ≤ m3) → (0 ≤ m4 ∧ 4 * A - X ≤ m4) → (0 ≤ m5 ∧ 5 * A - X ≤ m5) → (0 ≤ m6 ∧ 6 * A - X ≤ m6) → (0 ≤ m7 ∧ 7 * A - X ≤ m7) → (0 ≤ m8 ∧ 8 * A - X ≤ m8) → (0 ≤ m9 ∧ 9 * A - X ≤ m9) →
      m0 + m1 + m2 + m3 + m4 + m5 + m6 + m7 + m8 + m9 ≤ 374850 → Y * A - X * B ≤ 1000000000 := by
    intro m0 m1 m2 m3 m4 m5 m6 m7 m8 m9 q0 q1 q2 q3 q4 q5 q6 q7 q8 q9 hm
    have := mulM k0 q0.2 q0.1
    have := mulM k1 q1.2 q1.1
    have := mulM k2 q2.2 q2.1
    have := mulM k3 q3.2 q3.1
    have := mulM k4 q4.2 q4.1
    have := mulM k5 q5.2 q5.1
    have := mulM k6 q6.2 q6.1
    have := mulM k7 q7.2 q7.1
    have := mulM k8 q8.2 q8.1
    have := mulM k9 q9.2 q9.1
    rw [e]; omega
  clear e
  by_cases g1 : 0 ≤ A - X
  · exact main 0 (A - X) (2 * A - X) (3 * A - X) (4 * A - X) (5 * A - X) (6 * A - X) (7 * A - X) (8 * A - X) (9 * A - X) (by omega) (by omega) (by omega) (by omega) (by omega) (by omega) (by omega) (by omega) (by omega) (by omega) (by omega)
  by_cases g2 : 0 ≤ 2 * A - X
  · exact main 0 0 (2 * A - X) (3 * A - X) (4 * A - X) (5 * A - X) (6 * A - X) (7 * A - X) (8 * A - X) (9 * A - X) (by omega) (by omega) (by omega) (by omega) (by omega) (by omega) (by omega) (by omega) (by omega) (by omega) (by omega)
  by_cases g3 : 0 ≤ 3 * A - X
  · exact main 0 0 0 (3 * A - X) (4 * A - X) (5 * A - X) (6 * A - X) (7 * A - X) (8 * A - X) (9 * A - X) (by omega) (by omega) (by omega) (by omega) (by omega) (by omega) (by omega) (by omega) (by omega) (by omega) (by omega)
  by_cases g4 : 0 ≤ 4 * A - X
  · exact main 0 0 0 0 (4 * A - X) (5 * A - X) (6 * A - X) (7 * A - X) (8 * A - X) (9 * A - X) (by omega) (by omega) (by omega) (by omega) (by omega) (by omega) (by omega) (by omega) (by omega) (by omega) (by omega)
  by_cases g5 : 0 ≤ 5 * A - X
  · exact main 0 0 0 0 0 (5 * A - X) (6 * A - X) (7 * A - X) (8 * A - X) (9 * A - X) (by omega) (by omega) (by omega) (by omega) (by omega) (by omega) (by omega) (by omega) (by omega) (by omega) (by omega)
  by_cases g6 : 0 ≤ 6 * A - X
  · exact main 0 0 0 0 0 0 (6 * A - X) (7 * A - X) (8 * A - X) (9 * A - X) (by omega) (by omega) (by omega) (by omega) (by omega) (by omega) (by omega) (by omega) (by omega) (by omega) (by omega)
  by_cases g7 : 0 ≤ 7 * A - X
  · exact main 0 0 0 0 0 0 0 (7 * A - X) (8 * A - X) (9 * A - X) (by omega) (by omega) (by omega) (by omega) (by omega) (by omega) (by omega) (by omega) (by omega) (by omega) (by omega)
  by_cases g8 : 0 ≤ 8 * A - X
  · exact main 0 0 0 0 0 0 0 0 (8 * A - X) (9 * A - X) (by omega) (by omega) (by omega) (by omega) (by omega) (by omega) (by omega) (by omega) (by omega) (by omega) (by omega)
  · have : 0 ≤ 9 * A - X := by omega
    exact main 0 0 0 0 0 0 0 0 0 (9 * A - X) (by omega) (by omega) (by omega) (by omega) (by omega) (by omega) (by omega) (by omega) (by omega) (by omega) (by omega)
theorem tot_nonneg : ∀ {l : List Int}, (∀ x ∈ l, 0 ≤ x) → 0 ≤ tot l
  | [], _ => by simp [tot]
  | x :: l, h => by have := h x (by simp); have := tot_nonneg (l := l) (fun y hy => h y (by simp [hy])); simp only [tot]; omega
theorem tot_pos : ∀ {l : List Int}, (∀ x ∈ l, 0 ≤ x) → (∃ x ∈ l, x ≠ 0) → 0 < tot l
  | [], _, h => by obtain ⟨x, hx, _⟩ := h; simp at hx
  | x :: l, h, ⟨y, hy, h0⟩ => by
    have h1 := h x (by simp)
    have h2 := tot_nonneg (l := l) (fun y hy => h y (by simp [hy]))
    simp only [tot]
    rcases List.mem_cons.1 hy with rfl | hy
    · omega
    · have := tot_pos (l := l) (fun y hy => h y (by simp [hy])) ⟨y, hy, h0⟩; omega
theorem tot_le {M : Int} : ∀ {l : List Int}, (∀ x ∈ l, x ≤ M) → tot l ≤ M * l.length
  | [], _ => by simp [tot]
  | x :: l, h => by
    have h1 := h x (by simp)
    have h2 := tot_le (l := l) (fun y hy => h y (by simp [hy]))
    simp only [tot, List.length_cons]
    rw [Int.natCast_add, Int.mul_add]; omega
def sumX : List (List Int) → Int
  | [] => 0
  | r :: l => wsm 0 r + sumX l
theorem Ten.cols : ∀ {im : List (List Int)}, (∀ r ∈ im, r.length ≤ 10 ∧ ∀ x ∈ r, 0 ≤ x ∧ x ≤ 255) → Ten (255 * im.length) (tot (im.map tot)) (sumX im)
  | [], _ => Ten.zero (by simp)
  | r :: im, h => by
    have h1 := h r (by simp)
    have h2 := Ten.cols (im := im) (fun y hy => h y (by simp [hy]))
    have h3 := Ten.add (Ten.list (by omega) h1.1 h1.2) h2
    simp only [List.map_cons, tot, sumX, List.length_cons]
    have e : (255 : Int) + 255 * (im.length : Int) = 255 * ((im.length + 1 : Nat) : Int) := by omega
    rw [← e]; exact h3
/-- Sums of an image: of places times pixels, of rows' places times pixels, of pixels. -/
structure Sums (im : List (List Int)) (X Y A : Int) : Prop where
  x : Ten 2550 A X
  y : Ten 2550 A Y
  pos : 0 < A
theorem sums_ok {im : List (List Int)} (hl : im.length ≤ 10) (h : ∀ r ∈ im, r.length ≤ 10 ∧ ∀ x ∈ r, 0 ≤ x ∧ x ≤ 255) (hp : ∃ r ∈ im, ∃ x ∈ r, x ≠ 0) : Sums im (sumX im) (wsm 0 (im.map tot)) (tot (im.map tot)) := by
  refine ⟨(Ten.cols h).mono (by omega), Ten.list (by omega) (by simpa using hl) (fun x hx => ?_), tot_pos (fun x hx => ?_) ?_⟩
  · obtain ⟨r, hr, rfl⟩ := List.mem_map.1 hx
    have h1 := h r hr
    have h2 := tot_le (l := r) (M := 255) (fun x hx => (h1.2 x hx).2)
    have h3 := tot_nonneg (l := r) (fun x hx => (h1.2 x hx).1)
    omega
  · obtain ⟨r, hr, rfl⟩ := List.mem_map.1 hx
    exact tot_nonneg (fun x hx => ((h r hr).2 x hx).1)
  · obtain ⟨r, hr, x, hx, h0⟩ := hp
    refine ⟨tot r, List.mem_map.2 ⟨r, hr, rfl⟩, ?_⟩
    have := tot_pos (l := r) (fun x hx => ((h r hr).2 x hx).1) ⟨x, hx, h0⟩
    omega
/-! ### As the program adds -/
abbrev S3 := Int × Int × Int
def wr1 (y : Int) (r : List Int) : Nat → Nat → S3 → S3
  | 0, _, s => s
  | n + 1, j, s => wr1 y r n (j + 1) (w64 (s.1 + w64 ((j : Int) * r.getD j 0)), w64 (s.2.1 + w64 (y * r.getD j 0)), w64 (s.2.2 + r.getD j 0))
def wim (im : List (List Int)) : Nat → Nat → S3 → S3
  | 0, _, s => s
  | n + 1, i, s => wim im n (i + 1) (wr1 i (im.getD i []) (im.getD i []).length 0 s)
theorem dropJ {α : Type} (d : α) {l : List α} {i : Nat} (h : i < l.length) : l.drop i = l.getD i d :: l.drop (i + 1) := by
  rw [List.drop_eq_getElem_cons h, List.getD_eq_getElem?_getD, List.getElem?_eq_getElem h]; rfl
theorem mem_getD {α : Type} {d : α} {l : List α} {i : Nat} (h : i < l.length) : l.getD i d ∈ l := by
  rw [List.getD_eq_getElem?_getD, List.getElem?_eq_getElem h]; exact List.getElem_mem h
theorem mul9 {y x : Int} (hy : 0 ≤ y ∧ y ≤ 9) (hx : 0 ≤ x ∧ x ≤ 255) : 0 ≤ y * x ∧ y * x ≤ 2295 := by
  have h1 := Int.mul_nonneg hy.1 hx.1
  have h2 := mulM (b := y) (y := x) (M := 9) (m := 255) hy hx.2 (by omega)
  omega
theorem wr1_eq {y M : Int} (hy : 0 ≤ y ∧ y ≤ 9) (hM : 0 ≤ M ∧ M ≤ 1000000000) {r : List Int} (hl : r.length ≤ 10) (hb : ∀ x ∈ r, 0 ≤ x ∧ x ≤ 255) : ∀ (n j : Nat) (s : S3), r.length = j + n → (0 ≤ s.1 ∧ s.1 ≤ M + 2295 * j) → (0 ≤ s.2.1 ∧ s.2.1 ≤ M + 2295 * j) → (0 ≤ s.2.2 ∧ s.2.2 ≤ M + 2295 * j) →
    wr1 y r n j s = (s.1 + wsm j (r.drop j), s.2.1 + y * tot (r.drop j), s.2.2 + tot (r.drop j))
  | 0, j, s, h, _, _, _ => by rw [List.drop_eq_nil_of_le (by omega)]; simp [wr1, wsm, tot]
  | n + 1, j, s, h, h1, h2, h3 => by
    have hx := hb _ (mem_getD (d := 0) (l := r) (i := j) (by omega))
    have m1 := mul9 (y := (j : Int)) (x := r.getD j 0) (by omega) hx
    have m2 := mul9 (y := y) (x := r.getD j 0) hy hx
    rw [wr1, dropJ 0 (by omega)]
    simp only [wsm, tot]
    generalize r.getD j 0 = p at *
    rw [w64_id (n := (j : Int) * p) (by omega) (by omega), w64_id (n := y * p) (by omega) (by omega), w64_id (n := s.1 + j * p) (by omega) (by omega), w64_id (n := s.2.1 + y * p) (by omega) (by omega), w64_id (n := s.2.2 + p) (by omega) (by omega)]
    rw [wr1_eq hy hM hl hb n (j + 1) _ (by omega) (by simp only []; omega) (by simp only []; omega) (by simp only []; omega)]
    simp only [Prod.mk.injEq]
    refine ⟨by rw [Int.natCast_add]; simp only [Int.natCast_one]; omega, by rw [Int.mul_add]; omega, by omega⟩
theorem wim_eq {im : List (List Int)} (hl : im.length ≤ 10) (h : ∀ r ∈ im, r.length ≤ 10 ∧ ∀ x ∈ r, 0 ≤ x ∧ x ≤ 255) : ∀ (n i : Nat) (s : S3), im.length = i + n → (0 ≤ s.1 ∧ s.1 ≤ 25000 * i) → (0 ≤ s.2.1 ∧ s.2.1 ≤ 25000 * i) → (0 ≤ s.2.2 ∧ s.2.2 ≤ 25000 * i) →
    wim im n i s = (s.1 + sumX (im.drop i), s.2.1 + wsm i ((im.drop i).map tot), s.2.2 + tot ((im.drop i).map tot))
  | 0, i, s, hn, _, _, _ => by rw [List.drop_eq_nil_of_le (by omega)]; simp [wim, sumX, wsm, tot]
  | n + 1, i, s, hn, h1, h2, h3 => by
    have hr := h _ (mem_getD (d := []) (l := im) (i := i) (by omega))
    have T := Ten.list (M := 255) (by omega) hr.1 hr.2
    have Tl := T.le
    rw [wim, wr1_eq (y := (i : Int)) (M := 25000 * i) (by omega) (by omega) hr.1 hr.2 _ 0 s (by omega) (by omega) (by omega) (by omega), List.drop_zero, dropJ [] (by omega)]
    simp only [sumX, List.map_cons, wsm, tot]
    generalize hR : im.getD i [] = r at *
    have ht : 0 ≤ (i : Int) * tot r ∧ (i : Int) * tot r ≤ 22950 := by
      have e1 := Int.mul_nonneg (show (0 : Int) ≤ i by omega) Tl.1
      have e2 := mulM (b := (i : Int)) (y := tot r) (M := 9) (m := 2550) (by omega) (by omega) (by omega)
      omega
    rw [wim_eq hl h n (i + 1) _ (by omega) (by simp only [Int.natCast_zero]; omega) (by simp only []; omega) (by simp only []; omega)]
    simp only [Prod.mk.injEq, Int.natCast_zero]
    exact ⟨by omega, by rw [Int.natCast_add]; simp only [Int.natCast_one]; omega, by omega⟩
end Go.Proofs
/- V: the arguments of a law, out of whatever memory: deep values, abstract blocks. -/
namespace Go.Vx
open Go.Sx Go.RowKit
/-! ### Shapes of arguments -/
inductive Sh where
  | int
  | bool
  | slice (ag : Bool) (row : List Sh)
mutual
/-- A deep value of a shape. -/
def Sh.ok : Bool → Sh → DV → Prop
  | _, .int, d => ∃ n : Int, d = .int n ∧ -9223372036854775808 ≤ n ∧ n ≤ 9223372036854775807
  | _, .bool, d => ∃ b, d = .bool b
  | tg, .slice ag row, d => ∃ rows, d = .list tg false row.length rows ∧ rows.length ≤ 9223372036854775807 ∧ ∀ r ∈ rows, (ag = true ∧ ∃ cs, r = .agg cs ∧ Sh.okL false row cs) ∨ (ag = false ∧ Sh.okL false row [r])
def Sh.okL : Bool → List Sh → List DV → Prop
  | _, [], ds => ds = []
  | tg, s :: l, ds => ∃ d r, ds = d :: r ∧ Sh.ok tg s d ∧ Sh.okL tg l r
end
theorem Sh.okL_append {tg : Bool} : ∀ {s : List Sh} {ds : List DV} {s' : List Sh} {ds' : List DV}, Sh.okL tg s ds → Sh.okL tg s' ds' → Sh.okL tg (s ++ s') (ds ++ ds')
  | [], ds, s', ds', h, h' => by simp only [Sh.okL] at h; subst h; exact h'
  | x :: s, ds, s', ds', h, h' => by
    simp only [Sh.okL] at h
    obtain ⟨d, r, rfl, h1, h2⟩ := h
    simp only [List.cons_append, Sh.okL]
    exact ⟨d, _, rfl, h1, Sh.okL_append h2 h'⟩
theorem Sh.okL_length {tg : Bool} : ∀ {s : List Sh} {ds : List DV}, Sh.okL tg s ds → ds.length = s.length
  | [], ds, h => by simp only [Sh.okL] at h; subst h; rfl
  | x :: s, ds, h => by
    simp only [Sh.okL] at h
    obtain ⟨d, r, rfl, _, h2⟩ := h
    simp [Sh.okL_length h2]
theorem Sh.ok_notAgg {tg : Bool} {s : Sh} {d : DV} (h : Sh.ok tg s d) : d.isAgg = false := by
  cases s <;> simp only [Sh.ok] at h
  · obtain ⟨n, rfl, _⟩ := h; rfl
  · obtain ⟨n, rfl⟩ := h; rfl
  · obtain ⟨n, rfl, _⟩ := h; rfl
/-! ### Blocks -/
abbrev BS := List (List AV × (Nat × Nat × Nat))
def envB (bs : BS) : Env := { ro := fun b => (bs[b]?).map (·.1), m0 := bs.length, rnd := false }
def phiB (bs : BS) : Phi := fun b => (bs[b]?).map (·.2)
def ctxB (bs : BS) : Ctx := cx (envB bs) Mem.nil (fun _ => False) (fun b => b < bs.length)
structure OKB (w : World) (bs : BS) : Prop where
  blk : ∀ (b : Nat) x, bs[b]? = some x → BlkAt (phiB bs) x.1 w x.2.1 x.2.2.1 x.2.2.2 false
  cell : ∀ (b : Nat) x, bs[b]? = some x → x.1.all AV.isCell = true
  ids : ∀ (b : Nat) x, bs[b]? = some x → ∀ i ∈ AV.idsL x.1, i < bs.length
theorem getB {bs t : BS} {b : Nat} {x} (h : bs[b]? = some x) : (bs ++ t)[b]? = some x := by
  rw [List.getElem?_append_left (List.getElem?_eq_some_iff.1 h).1]; exact h
theorem phiB_le (bs t : BS) : (phiB bs).Le (phiB (bs ++ t)) := fun b x h => by
  simp only [phiB, Option.map_eq_some_iff] at h ⊢
  obtain ⟨y, h1, h2⟩ := h
  exact ⟨y, getB h1, h2⟩
theorem cellsB {bs : BS} {b : Nat} {cs : List AV} : cellsOf (envB bs) Mem.nil b = some cs ↔ ∃ x, bs[b]? = some x ∧ x.1 = cs := by
  unfold cellsOf
  by_cases h : b < bs.length
  · rw [show Nat.blt b (envB bs).m0 = true from bltOf h, cond_true]
    simp [envB]
  · rw [show Nat.blt b (envB bs).m0 = false from bltOfN (by exact Nat.le_of_not_lt h), cond_false, Mem.get_nil]
    simp only [objCells]
    constructor
    · intro e; cases e
    · rintro ⟨x, h1, _⟩
      exact absurd (List.getElem?_eq_some_iff.1 h1).1 h
theorem sta_B {bs : BS} {m : Nat} {tg : Bool} {b : Nat} : Sta (ctxB bs) m tg b := ⟨cx_mut, fun _ h => h, fun j h => by cases h⟩
theorem extB (bs t : BS) : Ext (ctxB bs) (ctxB (bs ++ t)) 0 0 := by
  refine ⟨fun tg b cs _ hc => ⟨sta_B, ?_⟩, fun k a h => ?_, fun k o a h => ?_, fun k i o a h => ?_, fun k _ h => ?_⟩
  · obtain ⟨x, h1, h2⟩ := cellsB.1 hc
    exact cellsB.2 ⟨x, getB h1, h2⟩
  · obtain ⟨x, hx⟩ := h.some; simp [ctxB, cx, nthB] at hx
  · obtain ⟨x, hx⟩ := h.some; simp [ctxB, cx, nthB] at hx
  · obtain ⟨x, hx⟩ := h.some; simp [ctxB, cx, nthB] at hx
  · obtain ⟨x, hx⟩ := h; simp [ctxB, cx, nthB] at hx
theorem OKB.push {w : World} {bs : BS} (h : OKB w bs) {x : List AV × (Nat × Nat × Nat)} (h1 : BlkAt (phiB bs) x.1 w x.2.1 x.2.2.1 x.2.2.2 false) (h2 : x.1.all AV.isCell = true) (h3 : ∀ i ∈ AV.idsL x.1, i < bs.length) : OKB w (bs ++ [x]) := by
  have hc : ∀ (b : Nat) y, (bs ++ [x])[b]? = some y → bs[b]? = some y ∨ y = x := fun b y hy => by
    by_cases hb : b < bs.length
    · rw [List.getElem?_append_left hb] at hy; exact .inl hy
    · rw [List.getElem?_append_right (by omega)] at hy
      have := List.mem_of_getElem? hy
      exact .inr (by simpa using this)
  refine ⟨fun b y hy => ?_, fun b y hy => ?_, fun b y hy i hi => ?_⟩
  · rcases hc b y hy with e | rfl
    · exact (h.blk b y e).mono (phiB_le _ _)
    · exact h1.mono (phiB_le _ _)
  · rcases hc b y hy with e | rfl
    · exact h.cell b y e
    · exact h2
  · rw [List.length_append]
    rcases hc b y hy with e | rfl
    · have := h.ids b y e i hi; omega
    · have := h3 i hi; omega
theorem ntL_append : ∀ {a b : List DV}, ntL a → ntL b → ntL (a ++ b)
  | [], _, _, h => h
  | _ :: _, _, h, h' => by simp only [List.cons_append, ntL] at h ⊢; exact ⟨h.1, ntL_append h.2 h'⟩
/-- Cells that are opened: behind whatever blocks there are already. -/
def OpnA (w : World) (tg : Bool) (shs : List Sh) (cs : List Value) : Prop := ∀ bs, OKB w bs → ∃ t as ds, OKB w (bs ++ t) ∧ VRL (phiB (bs ++ t)) as cs ∧ RL (ctxB (bs ++ t)) 0 true ds as ∧ Sh.okL tg shs ds ∧ as.all AV.isCell = true ∧ (∀ i ∈ AV.idsL as, i < (bs ++ t).length) ∧ (tg = false → ntL ds)
variable {w : World}
theorem OpnA.nil {tg : Bool} : OpnA w tg [] [] := fun bs h => ⟨[], [], [], by simpa using h, VRL.nil, by simp [RL], by simp [Sh.okL], rfl, by simp [AV.idsL], fun _ => by simp [ntL]⟩
theorem OpnA.append {tg : Bool} {s s' : List Sh} {cs cs' : List Value} (h : OpnA w tg s cs) (h' : OpnA w tg s' cs') : OpnA w tg (s ++ s') (cs ++ cs') := fun bs hb => by
  obtain ⟨t, as, ds, a1, a2, a3, a4, a5, a6, a7⟩ := h bs hb
  obtain ⟨t', as', ds', b1, b2, b3, b4, b5, b6, b7⟩ := h' _ a1
  rw [List.append_assoc] at b1 b2 b3 b6
  refine ⟨t ++ t', as ++ as', ds ++ ds', b1, VRL.append ?_ b2, RL.append ?_ b3, Sh.okL_append a4 b4, by rw [List.all_append, a5, b5]; rfl, fun i hi => ?_, fun e => ntL_append (a7 e) (b7 e)⟩
  · have := VRL.mono (phiB_le (bs ++ t) t') _ _ a2
    rwa [List.append_assoc] at this
  · have := RL.mono (extB (bs ++ t) t') _ _ _ a3
    rwa [List.append_assoc] at this
  · rw [idsL_append] at hi
    rcases List.mem_append.1 hi with hi | hi
    · have := a6 i hi; simp only [List.length_append] at this ⊢; omega
    · exact b6 i hi
theorem OpnA.int {tg : Bool} {n : Int} (h : (Lit.int .i64 n).wf = true) : OpnA w tg [.int] [.int .i64 n] := fun bs hb => by
  refine ⟨[], [.int .i64 n], [.int n], by simpa using hb, VRL.one (by simp [VR]), by simp [RL, R], by
    simp only [Sh.okL, Sh.ok]
    refine ⟨_, _, rfl, ⟨n, rfl, ?_⟩, rfl⟩
    simpa [Lit.wf, IntKind.min, IntKind.max, IntKind.signed, IntKind.bits] using h, rfl, by simp [AV.idsL, AV.ids], fun _ => by simp [ntL, nt]⟩
theorem OpnA.bool {tg b : Bool} : OpnA w tg [.bool] [.bool b] := fun bs hb => by
  refine ⟨[], [.bool b], [.bool b], by simpa using hb, VRL.one (by simp [VR]), by simp [RL, R], by simp [Sh.okL, Sh.ok], rfl, by simp [AV.idsL, AV.ids], fun _ => by simp [ntL, nt]⟩
/-- Rows of a slice, one after the other. -/
theorem OpnA.rows {ag : Bool} {row : List Sh} {g off len : Nat} (hag : ag = false → row.length = 1) (hrow : ∀ i, i < len → ∃ cells, cells.length = row.length ∧ (∀ j, j < row.length → w.cell? ⟨g, off + (i * row.length + j), none⟩ = cells[j]?) ∧ OpnA w false row cells) {bs : BS} (hb : OKB w bs) :
    ∀ k, k ≤ len → ∃ t rcs rows, OKB w (bs ++ t) ∧ rows.length = k ∧ RRows (ctxB (bs ++ t)) 0 rows rcs ∧ (∀ l ∈ rcs, l.length = row.length) ∧ (∀ r ∈ rows, (ag = true ∧ ∃ cs, r = .agg cs ∧ Sh.okL false row cs) ∨ (ag = false ∧ Sh.okL false row [r])) ∧ ntL rows ∧
      (∀ (j : Nat) a, rcs.flatten[j]? = some a → ∃ v, w.cell? ⟨g, off + j, none⟩ = some v ∧ VR (phiB (bs ++ t)) a v) ∧ rcs.flatten.all AV.isCell = true ∧ (∀ i ∈ AV.idsL rcs.flatten, i < (bs ++ t).length)
  | 0, _ => ⟨[], [], [], by simpa using hb, rfl, by simp [RRows], by simp, by simp, by simp [ntL], by simp, rfl, by simp [AV.idsL]⟩
  | k + 1, hk => by
    obtain ⟨t, rcs, rows, a1, a2, a3, a4, a5, a6, a7, a8, a9⟩ := OpnA.rows hag hrow hb k (by omega)
    obtain ⟨cells, c1, c2, c3⟩ := hrow k (by omega)
    obtain ⟨t', as, ds, b1, b2, b3, b4, b5, b6, b7⟩ := c3 _ a1
    rw [List.append_assoc] at b1 b2 b3 b6
    have hal : as.length = row.length := by rw [← c1]; exact (b2.length).symm
    have hdl : ds.length = row.length := Sh.okL_length b4
    have hfl : rcs.flatten.length = k * row.length := by rw [flat_length a4, a3.length, a2]
    have a3' := RRows.mono (extB (bs ++ t) t') _ _ a3
    rw [List.append_assoc] at a3'
    have hd : ∃ d, RRows (ctxB (bs ++ (t ++ t'))) 0 [d] [as] ∧ ((ag = true ∧ ∃ cs, d = .agg cs ∧ Sh.okL false row cs) ∨ (ag = false ∧ Sh.okL false row [d])) ∧ nt d := by
      cases ag with
      | true =>
        refine ⟨.agg ds, ?_, .inl ⟨rfl, ds, rfl, b4⟩, by simp only [nt]; exact b7 rfl⟩
        simp only [RRows]
        exact ⟨as, [], rfl, .inl ⟨rfl, by simp only [R]; exact ⟨as, rfl, b3⟩⟩, by simp only [nt]; exact b7 rfl, rfl⟩
      | false =>
        have h1 := hag rfl
        obtain ⟨d, rfl⟩ : ∃ d, ds = [d] := by
          match ds, hdl with
          | [d], _ => exact ⟨d, rfl⟩
          | [], h => rw [h1] at h; simp at h
          | _ :: _ :: _, h => rw [h1] at h; simp at h
        simp only [RL] at b3
        obtain ⟨a, r, rfl, b3, rfl⟩ := b3
        have hnt : nt d := by have := b7 rfl; simp only [ntL] at this; exact this.1
        refine ⟨d, ?_, .inr ⟨rfl, b4⟩, hnt⟩
        simp only [RRows]
        refine ⟨[a], [], rfl, .inr ⟨?_, a, rfl, b3⟩, hnt, rfl⟩
        have hr : ∃ s, row = [s] := by
          match row, h1 with
          | [s], _ => exact ⟨s, rfl⟩
        obtain ⟨s, rfl⟩ := hr
        simp only [Sh.okL] at b4
        obtain ⟨d', r', e, b4, _⟩ := b4
        cases e
        exact Sh.ok_notAgg b4
    obtain ⟨d, d1, d2, d3⟩ := hd
    refine ⟨t ++ t', rcs ++ [as], rows ++ [d], b1, by simp [a2], RRows.append a3' d1, fun l hl => ?_, fun r hr => ?_, ntL_append a6 (by simp only [ntL]; exact ⟨d3, trivial⟩), fun j a hj => ?_, ?_, fun i hi => ?_⟩
    · rcases List.mem_append.1 hl with hl | hl
      · exact a4 l hl
      · rw [List.mem_singleton.1 hl]; exact hal
    · rcases List.mem_append.1 hr with hr | hr
      · exact a5 r hr
      · rw [List.mem_singleton.1 hr]; exact d2
    · rw [List.flatten_append, List.flatten_singleton] at hj
      by_cases hjl : j < rcs.flatten.length
      · rw [List.getElem?_append_left hjl] at hj
        obtain ⟨v, v1, v2⟩ := a7 j a hj
        refine ⟨v, v1, ?_⟩
        have := VR.mono (phiB_le (bs ++ t) t') _ _ v2
        rwa [List.append_assoc] at this
      · rw [List.getElem?_append_right (by omega), hfl] at hj
        have hja := (List.getElem?_eq_some_iff.1 hj).1
        obtain ⟨v, v1, v2⟩ := b2.get hj
        refine ⟨v, ?_, v2⟩
        have := c2 (j - k * row.length) (by omega)
        rw [show off + j = off + (k * row.length + (j - k * row.length)) by omega, this]
        exact v1
    · rw [List.flatten_append, List.flatten_singleton, List.all_append, a8, b5]; rfl
    · rw [List.flatten_append, List.flatten_singleton, idsL_append] at hi
      rcases List.mem_append.1 hi with hi | hi
      · have := a9 i hi; simp only [List.length_append] at this ⊢; omega
      · exact b6 i hi
/-- A slice. -/
theorem OpnA.slice {tg ag : Bool} {row : List Sh} {a : Addr} {len cap : Nat} (h0 : 0 < row.length) (hlc : len ≤ cap) (hcap : cap ≤ 9223372036854775807) (hag : ag = false → row.length = 1) (hrow : ∀ i, i < len → ∃ cells, cells.length = row.length ∧ (∀ j, j < row.length → w.cell? ((a.add (i * row.length)).add j) = cells[j]?) ∧ OpnA w false row cells) :
    OpnA w tg [.slice ag row] [.slice (some a) len cap] := fun bs hb => by
  by_cases hl : len = 0
  · subst hl
    refine ⟨[], [.emp (decide (cap = 0))], [.list tg false row.length []], by simpa using hb, VRL.one ?_, ?_, ?_, rfl, by simp [AV.idsL, AV.ids], fun e => ?_⟩
    · simp only [VR]; exact ⟨a, cap, rfl, by simp⟩
    · simp only [RL, R]
      exact ⟨_, _, rfl, ⟨[], by simp [RRows], by simp, .inl ⟨rfl, .inr ⟨_, rfl, by simp⟩⟩⟩, rfl⟩
    · simp only [Sh.okL, Sh.ok]
      exact ⟨_, _, rfl, ⟨[], rfl, by simp, by simp⟩, rfl⟩
    · subst e; simp [ntL, nt]
  · obtain ⟨g, off, rfl⟩ : ∃ g off, a = ⟨g, off, none⟩ := by
      obtain ⟨cells, c1, c2, _⟩ := hrow 0 (by omega)
      have h := c2 0 h0
      rw [Nat.zero_mul] at h
      have hx : cells[0]? = some cells[0] := by simp
      rw [hx] at h
      have := World.cell?_spot h
      obtain ⟨g, off, spot⟩ := a
      simp only [Addr.add, if_true] at this
      exact ⟨g, off, by simp_all⟩
    have hrow' : ∀ i, i < len → ∃ cells, cells.length = row.length ∧ (∀ j, j < row.length → w.cell? ⟨g, off + (i * row.length + j), none⟩ = cells[j]?) ∧ OpnA w false row cells := fun i hi => by
      obtain ⟨cells, c1, c2, c3⟩ := hrow i hi
      refine ⟨cells, c1, fun j hj => ?_, c3⟩
      rw [← c2 j hj, add_at, add_at, Nat.add_assoc]
    obtain ⟨t, rcs, rows, a1, a2, a3, a4, a5, a6, a7, a8, a9⟩ := OpnA.rows hag hrow' hb len (Nat.le_refl _)
    have hfl : rcs.flatten.length = len * row.length := by rw [flat_length a4, a3.length, a2]
    have hpos : 0 < len * row.length := Nat.mul_pos (by omega) h0
    have hget : ∀ j, j < len * row.length → ∃ v, w.cell? ⟨g, off + j, none⟩ = some v := fun j hj => by
      obtain ⟨v, v1, _⟩ := a7 j rcs.flatten[j] (by rw [List.getElem?_eq_getElem])
      exact ⟨v, v1⟩
    have hblk : ∃ c e fr, w.heap[g]? = some (.cells c e fr) := by
      obtain ⟨v, hv⟩ := hget 0 hpos
      unfold World.cell? at hv
      split at hv
      · rename_i c e fr he; exact ⟨c, e, fr, he⟩
      · cases hv
    obtain ⟨c, e, fr, he⟩ := hblk
    have hB : BlkAt (phiB (bs ++ t)) rcs.flatten w g off (len * row.length) false := by
      refine ⟨c, e, fr, he, ?_, by omega, fun j x hj => ?_, by simp⟩
      · obtain ⟨v, hv⟩ := hget (len * row.length - 1) (by omega)
        rw [cell_at he] at hv
        have := (Array.getElem?_eq_some_iff.1 hv).1
        omega
      · obtain ⟨v, v1, v2⟩ := a7 j x hj
        rw [cell_at he] at v1
        exact ⟨v, v1, v2⟩
    have hP := a1.push (x := (rcs.flatten, (g, off, len * row.length))) hB a8 a9
    rw [List.append_assoc] at hP
    have hn : (bs ++ (t ++ [(rcs.flatten, (g, off, len * row.length))]))[(bs ++ t).length]? = some (rcs.flatten, (g, off, len * row.length)) := by
      rw [← List.append_assoc, List.getElem?_append_right (Nat.le_refl _)]; simp
    refine ⟨t ++ [(rcs.flatten, (g, off, len * row.length))], [.slice (bs ++ t).length 0 len cap 0], [.list tg false row.length rows], hP, VRL.one ?_, ?_, ?_, rfl, fun i hi => ?_, fun et => ?_⟩
    · simp only [VR]
      exact ⟨g, off, len * row.length, cap, by simp only [phiB, hn]; rfl, rfl, hlc, Nat.le_refl _, fun _ => rfl, fun h => absurd h (by omega)⟩
    · simp only [RL, R]
      have a3' := RRows.mono (extB (bs ++ t) [(rcs.flatten, (g, off, len * row.length))]) _ _ a3
      rw [List.append_assoc] at a3'
      refine ⟨_, _, rfl, ⟨rcs, a3', a4, .inr ⟨_, 0, cap, 0, by rw [a2], .inl rfl, ⟨by rw [a2]; exact hlc, fun _ => rfl, by simp⟩, sta_B, ?_⟩⟩, rfl⟩
      unfold rd
      have : cellsOf (envB (bs ++ (t ++ [(rcs.flatten, (g, off, len * row.length))]))) Mem.nil (bs ++ t).length = some rcs.flatten := cellsB.2 ⟨_, hn, rfl⟩
      show rdIn 0 (rows.length * row.length) (cellsOf (envB _) Mem.nil _) = _
      rw [this, a2]
      simp only [rdIn]
      rw [show Nat.ble (0 + len * row.length) rcs.flatten.length = true from Nat.ble_eq_true_of_le (by omega), cond_true, List.drop_zero, ← hfl, List.take_length]
    · simp only [Sh.okL, Sh.ok]
      exact ⟨_, _, rfl, ⟨rows, rfl, by omega, a5⟩, rfl⟩
    · simp only [AV.idsL, AV.ids, List.append_nil, List.mem_singleton] at hi
      subst hi
      rw [← List.append_assoc, List.length_append]
      simp
    · subst et; simp only [ntL, nt]; exact ⟨⟨trivial, a6⟩, trivial⟩
theorem OpnA.nilSlice {tg ag : Bool} {row : List Sh} : OpnA w tg [.slice ag row] [.slice none 0 0] := fun bs hb => by
  refine ⟨[], [.nils], [.list tg false row.length []], by simpa using hb, VRL.one (by simp [VR]), ?_, ?_, rfl, by simp [AV.idsL, AV.ids], fun e => ?_⟩
  · simp only [RL, R]
    exact ⟨_, _, rfl, ⟨[], by simp [RRows], by simp, .inl ⟨rfl, .inl rfl⟩⟩, rfl⟩
  · simp only [Sh.okL, Sh.ok]
    exact ⟨_, _, rfl, ⟨[], rfl, by simp, by simp⟩, rfl⟩
  · subst e; simp [ntL, nt]
end Go.Vx
/- V: the arguments of a law by their types; from a law's V-run to its call in the world. -/
namespace Go.Vx
open Go.Sx Go.RowKit
def isAggT (P : Program) (t : Nat) : Bool := match P.underlying t with
  | some (.struct _) => true
  | some (.array _ _) => true
  | _ => false
def slSh (ag : Bool) (s : Nat) : Option (List Sh) → Option (List Sh)
  | some r => bif Nat.beq r.length s && (Nat.blt 0 s && (ag || Nat.beq s 1)) then some [.slice ag r] else none
  | none => none
def fldsSh (P : Program) (sh : Nat → Option (List Sh)) (total : Nat) : Nat → List Field → Option (List Sh)
  | off, [] => bif Nat.beq off total then some [] else none
  | off, f :: l => match sh f.type with
    | some r => bif Nat.beq f.offset off && Nat.beq r.length (P.cellsOf f.type) then (match fldsSh P sh total (off + r.length) l with
      | some q => some (r ++ q)
      | none => none) else none
    | none => none
def repSh (r : List Sh) : Nat → List Sh
  | 0 => []
  | n + 1 => r ++ repSh r n
def arrSh (total s n : Nat) : Option (List Sh) → Option (List Sh)
  | some r => bif Nat.beq r.length s && Nat.beq total (n * s) then some (repSh r n) else none
  | none => none
/-- The shapes of the cells of a type. -/
def shOf (P : Program) : Nat → Nat → Option (List Sh)
  | 0, _ => none
  | n + 1, t => match P.underlying t with
    | some .bool => some [.bool]
    | some (.int .i64) => some [.int]
    | some (.slice e) => slSh (isAggT P e) (P.cellsOf e) (shOf P n e)
    | some (.struct fs) => fldsSh P (shOf P n) (P.cellsOf t) 0 fs.toList
    | some (.array k e) => arrSh (P.cellsOf t) (P.cellsOf e) k (shOf P n e)
    | _ => none
theorem mapM_each {α β : Type} {f : α → Option β} : ∀ {l : List α} {r : List β}, l.mapM f = some r → ∀ x ∈ l, ∃ y, f x = some y := by
  intro l
  induction l with
  | nil => intro r _ x hx; simp at hx
  | cons a l ih =>
    intro r h x hx
    rw [List.mapM_cons] at h
    cases ha : f a with
    | none => simp [ha] at h
    | some y => cases hl : l.mapM f with
      | none => simp [ha, hl] at h
      | some ys =>
        rcases List.mem_cons.1 hx with rfl | hx
        · exact ⟨y, ha⟩
        · exact ih hl x hx
theorem mapM_get {α β : Type} {f : α → Option β} : ∀ {l : List α} {r : List β}, l.mapM f = some r → r.length = l.length ∧ ∀ (i : Nat) a, l[i]? = some a → f a = r[i]? := by
  intro l
  induction l with
  | nil => intro r h; simp at h; subst h; simp
  | cons a l ih =>
    intro r h
    rw [List.mapM_cons] at h
    cases ha : f a with
    | none => simp [ha] at h
    | some y => cases hl : l.mapM f with
      | none => simp [ha, hl] at h
      | some ys =>
        simp [ha, hl] at h
        subst h
        obtain ⟨h1, h2⟩ := ih hl
        refine ⟨by simp [h1], fun i b hb => ?_⟩
        cases i with
        | zero => simp at hb; subst hb; simpa using ha
        | succ i => simp at hb; simpa using h2 i b hb
theorem cells?_get {w : World} {base : Nat} {a : Addr} {n : Nat} {cs : List Value} (h : w.cells? base a n = some cs) : cs.length = n ∧ ∀ j, j < n → w.cell? (a.add j) = cs[j]? := by
  unfold World.cells? at h
  split at h
  · obtain ⟨h1, h2⟩ := mapM_get h
    refine ⟨by simpa using h1, fun j hj => h2 j j (by simp [hj])⟩
  · cases h
section
variable {H : Type} {enc : TypeId × Value → H} {P : Program} {w : World} {base : Nat} {spare : Nat → Bool} {held : Bool}
theorem OpnA.flds {tg : Bool} {sh : Nat → Option (List Sh)} {cs : List Value} {total : Nat} (hl : cs.length = total) : ∀ (l : List Field) (off : Nat) (shs : List Sh), (∀ f ∈ l, ∀ r, sh f.type = some r → OpnA w tg r ((cs.drop f.offset).take (P.cellsOf f.type))) → fldsSh P sh total off l = some shs → OpnA w tg shs (cs.drop off)
  | [], off, shs, _, h => by
    simp only [fldsSh] at h
    cases hb : Nat.beq off total with
    | false => rw [hb] at h; cases h
    | true =>
      rw [hb] at h; cases h
      have := beqT hb
      rw [List.drop_eq_nil_of_le (by omega)]
      exact OpnA.nil
  | f :: l, off, shs, hf, h => by
    simp only [fldsSh] at h
    cases hs : sh f.type with
    | none => rw [hs] at h; cases h
    | some r =>
      rw [hs] at h
      simp only [] at h
      cases hb : (Nat.beq f.offset off && Nat.beq r.length (P.cellsOf f.type)) with
      | false => rw [hb] at h; cases h
      | true =>
        rw [hb, cond_true] at h
        simp only [Bool.and_eq_true] at hb
        have e1 := beqT hb.1
        have e2 := beqT hb.2
        cases hq : fldsSh P sh total (off + r.length) l with
        | none => rw [hq] at h; cases h
        | some q =>
          rw [hq] at h; cases h
          have h1 := hf f (by simp) r hs
          have h2 := OpnA.flds hl l (off + r.length) q (fun g hg => hf g (by simp [hg])) hq
          have := h1.append h2
          rw [e1, ← e2, ← List.drop_drop, List.take_append_drop] at this
          exact this
theorem OpnA.rep {tg : Bool} {r : List Sh} {s : Nat} : ∀ (n : Nat) (cs : List Value), cs.length = n * s → (∀ i, i < n → OpnA w tg r ((cs.drop (i * s)).take s)) → OpnA w tg (repSh r n) cs
  | 0, cs, hl, _ => by
    rw [Nat.zero_mul] at hl
    rw [List.eq_nil_of_length_eq_zero hl]
    exact OpnA.nil
  | n + 1, cs, hl, h => by
    have h0 := h 0 (by omega)
    rw [Nat.zero_mul, List.drop_zero] at h0
    have hs : (n + 1) * s = n * s + s := Nat.succ_mul n s
    have h1 := OpnA.rep (tg := tg) (r := r) (s := s) n (cs.drop s) (by rw [List.length_drop, hl]; omega) (fun i hi => by
      have := h (i + 1) (by omega)
      rw [show (i + 1) * s = s + i * s by rw [Nat.succ_mul]; omega, ← List.drop_drop] at this
      exact this)
    have := h0.append h1
    rwa [List.take_append_drop] at this
/-- Whatever reads as data of a type of known shape can be opened. -/
theorem open_trod : ∀ (m : Nat) (t : TypeId) (shs : List Sh), shOf P m t = some shs → ∀ (n : Nat) (cs : List Value) (x : DataW H × List MemPlace) (tg : Bool), DataW.trod enc P w base spare held n t cs = some x → OpnA w tg shs cs
  | 0, _, _, hs => by simp [shOf] at hs
  | m + 1, t, shs, hs => by
    simp only [shOf] at hs
    intro n cs x tg h
    split at hs
    · rename_i hu
      cases hs
      obtain ⟨b, rfl, _⟩ := DataW.trod_bool hu h
      exact OpnA.bool
    · rename_i hu
      cases hs
      obtain ⟨k, rfl, _, hw⟩ := DataW.trod_int hu h
      exact OpnA.int hw
    · rename_i e hu
      cases hr : shOf P m e with
      | none => rw [hr] at hs; simp [slSh] at hs
      | some r =>
        rw [hr] at hs
        simp only [slSh] at hs
        cases hb : (Nat.beq r.length (P.cellsOf e) && (Nat.blt 0 (P.cellsOf e) && (isAggT P e || Nat.beq (P.cellsOf e) 1))) with
        | false => rw [hb] at hs; cases hs
        | true =>
          rw [hb] at hs
          cases hs
          simp only [Bool.and_eq_true, Bool.or_eq_true] at hb
          obtain ⟨b1, b2, b3⟩ := hb
          have b1 := beqT b1
          have b2 := bltT b2
          rcases DataW.trod_slice hu h with ⟨rfl, _⟩ | ⟨a, len, cap, elems, rest, n', rfl, rfl, _, _, c1, c2, c3, c4, _⟩
          · exact OpnA.nilSlice
          · refine OpnA.slice (by omega) c1 (Nat.le_trans c2 (by decide)) (fun hag => ?_) (fun i hi => ?_)
            · rcases b3 with b3 | b3
              · rw [b3] at hag; cases hag
              · rw [b1]; exact beqT b3
            · have := c4 i hi
              rw [List.getElem?_eq_getElem (by omega)] at this
              simp only [Option.bind_eq_some_iff] at this
              obtain ⟨cells, d1, d2⟩ := this
              obtain ⟨d3, d4⟩ := cells?_get d1
              rw [b1]
              exact ⟨cells, d3, d4, open_trod m e r hr n' cells _ false d2⟩
    · rename_i fs hu
      obtain ⟨xs, n', rfl, _, h1, h2, h3⟩ := DataW.trod_struct hu h
      have := OpnA.flds (w := w) (tg := tg) h1 fs.toList 0 shs (fun f hf r hr => ?_) hs
      · simpa using this
      · obtain ⟨i, hi, rfl⟩ := List.mem_iff_getElem.1 hf
        have hx := h3 i fs.toList[i] (by simp)
        have hi' : i < xs.length := by rw [h2]; simpa using hi
        rw [List.getElem?_eq_getElem hi'] at hx
        exact open_trod m _ r hr n' _ _ tg hx
    · rename_i k e hu
      cases hr : shOf P m e with
      | none => rw [hr] at hs; simp [arrSh] at hs
      | some r =>
        rw [hr] at hs
        simp only [arrSh] at hs
        cases hb : (Nat.beq r.length (P.cellsOf e) && Nat.beq (P.cellsOf t) (k * P.cellsOf e)) with
        | false => rw [hb] at hs; cases hs
        | true =>
          rw [hb] at hs
          cases hs
          simp only [Bool.and_eq_true] at hb
          have b1 := beqT hb.1
          have b2 := beqT hb.2
          obtain ⟨xs, n', rfl, _, h1, h2, h3⟩ := DataW.trod_array hu h
          refine OpnA.rep k cs (by rw [h1, b2]) (fun i hi => ?_)
          have hx := h3 i hi
          rw [List.getElem?_eq_getElem (by omega)] at hx
          exact open_trod m e r hr n' _ _ tg hx
    · cases hs
/-- An argument's shape. -/
structure ASh where
  ag : Bool
  row : List Sh
def aShO (ag : Bool) : Option (List Sh) → Option ASh
  | some r => bif ag || Nat.beq r.length 1 then some ⟨ag, r⟩ else none
  | none => none
def consA : Option ASh → Option (List ASh) → Option (List ASh)
  | some a, some r => some (a :: r)
  | _, _ => none
def argsSh (P : Program) : List TypeId → Option (List ASh)
  | [] => some []
  | t :: l => consA (aShO (isAggT P t) (shOf P 12 t)) (argsSh P l)
def argOk (s : ASh) (d : DV) : Prop := (s.ag = true ∧ ∃ cs, d = .agg cs ∧ Sh.okL true s.row cs) ∨ (s.ag = false ∧ Sh.okL true s.row [d])
def argsOk : List ASh → List DV → Prop
  | [], ds => ds = []
  | s :: l, ds => ∃ d r, ds = d :: r ∧ argOk s d ∧ argsOk l r
theorem isAggT_form {r : Reach} {b : Nat} {t : TypeId} {v : Value} (hv : Value.okWide P w r b t v) (h : isAggT P t = true) : ∃ cs, v = .agg cs := by
  unfold isAggT at h
  unfold Value.okWide at hv
  split at h
  · rename_i hu; rw [hu] at hv; obtain ⟨cs, rfl, _⟩ := hv; exact ⟨cs, rfl⟩
  · rename_i hu; rw [hu] at hv; obtain ⟨cs, rfl, _⟩ := hv; exact ⟨cs, rfl⟩
  · cases h
theorem notAgg_form {r : Reach} {b : Nat} {t : TypeId} {v : Value} (hv : Value.okWide P w r b t v) {m : Nat} {shs : List Sh} (hs : shOf P m t = some shs) (h : isAggT P t = false) : v.cells.toList = [v] := by
  unfold isAggT at h
  unfold Value.okWide at hv
  cases m with
  | zero => simp [shOf] at hs
  | succ m =>
    simp only [shOf] at hs
    split at hs
    · rename_i hu
      rw [hu] at hv
      unfold Cell.okWide at hv; rw [hu] at hv
      simp only [] at hv
      unfold Cell.ok at hv; rw [hu] at hv
      cases v <;> simp at hv <;> rfl
    · rename_i hu
      rw [hu] at hv
      unfold Cell.okWide at hv; rw [hu] at hv
      simp only [] at hv
      unfold Cell.ok at hv; rw [hu] at hv
      cases v <;> simp at hv <;> rfl
    · rename_i hu
      rw [hu] at hv
      unfold Cell.okWide at hv; rw [hu] at hv
      simp only [] at hv
      unfold Cell.ok at hv; rw [hu] at hv
      cases v <;> simp at hv <;> rfl
    · rename_i hu; rw [hu] at h; simp at h
    · rename_i hu; rw [hu] at h; simp at h
    · cases hs
theorem open_arg {r : Reach} {b : Nat} {t : TypeId} {v : Value} {d : DataW H} {ps : List MemPlace} {s : ASh} (hv : Value.okWide P w r b t v) (ht : DataW.Trod enc P w base spare held t v d ps) (hs : aShO (isAggT P t) (shOf P 12 t) = some s) {bs : BS} (hb : OKB w bs) :
    ∃ t' a dv, OKB w (bs ++ t') ∧ VR (phiB (bs ++ t')) a v ∧ R (ctxB (bs ++ t')) 0 true dv a ∧ argOk s dv := by
  obtain ⟨n, hn⟩ := ht
  cases hr : shOf P 12 t with
  | none => rw [hr] at hs; simp [aShO] at hs
  | some row =>
    rw [hr] at hs
    simp only [aShO] at hs
    have hO := open_trod 12 t row hr n _ _ true hn
    obtain ⟨t', as, ds, a1, a2, a3, a4, _⟩ := hO bs hb
    cases hag : isAggT P t with
    | true =>
      rw [hag, Bool.true_or, cond_true] at hs
      cases hs
      obtain ⟨cs, rfl⟩ := isAggT_form hv hag
      refine ⟨t', .agg as, .agg ds, a1, ?_, ?_, .inl ⟨rfl, ds, rfl, a4⟩⟩
      · simp only [VR]
        exact ⟨cs.toList, rfl, a2⟩
      · simp only [R]; exact ⟨as, rfl, a3⟩
    | false =>
      rw [hag, Bool.false_or] at hs
      cases hl : Nat.beq row.length 1 with
      | false => rw [hl] at hs; cases hs
      | true =>
        rw [hl] at hs
        cases hs
        have hl := beqT hl
        rw [notAgg_form hv hr hag] at a2
        have hdl := Sh.okL_length a4
        obtain ⟨dv, rfl⟩ : ∃ dv, ds = [dv] := by
          match ds, hdl with
          | [d], _ => exact ⟨d, rfl⟩
          | [], h => rw [hl] at h; simp at h
          | _ :: _ :: _, h => rw [hl] at h; simp at h
        simp only [RL] at a3
        obtain ⟨a, q, rfl, a3, rfl⟩ := a3
        simp only [VRL] at a2
        obtain ⟨v', q', e, a2, _⟩ := a2
        cases e
        exact ⟨t', a, dv, a1, a2, a3, .inr ⟨rfl, a4⟩⟩
theorem open_all {r : Reach} {b : Nat} : ∀ {ts : List TypeId} {vs : List Value} {ds : List (DataW H)} {ps : List MemPlace} {l : List ASh}, (∀ (j : Nat) t v, ts[j]? = some t → vs[j]? = some v → Value.okWide P w r b t v) → DataW.TrodAll enc P w base spare held ts vs ds ps → argsSh P ts = some l → ∀ {bs : BS}, OKB w bs →
    ∃ t' as dvs, OKB w (bs ++ t') ∧ VRL (phiB (bs ++ t')) as vs ∧ RL (ctxB (bs ++ t')) 0 true dvs as ∧ argsOk l dvs
  | [], [], [], ps, l, _, _, hs, bs, hb => by
    simp only [argsSh, Option.some.injEq] at hs; subst hs
    exact ⟨[], [], [], by simpa using hb, VRL.nil, by simp [RL], by simp [argsOk]⟩
  | t :: ts, v :: vs, d :: ds, ps, l, hv, ht, hs, bs, hb => by
    obtain ⟨p, q, h1, h2, _⟩ := ht
    simp only [argsSh] at hs
    cases ha : aShO (isAggT P t) (shOf P 12 t) with
    | none => rw [ha] at hs; simp [consA] at hs
    | some s => cases hq : argsSh P ts with
      | none => rw [ha, hq] at hs; simp [consA] at hs
      | some l' =>
        rw [ha, hq] at hs
        simp only [consA, Option.some.injEq] at hs; subst hs
        obtain ⟨t1, a, dv, a1, a2, a3, a4⟩ := open_arg (hv 0 t v rfl rfl) h1 ha hb
        obtain ⟨t2, as, dvs, b1, b2, b3, b4⟩ := open_all (fun j t v h h' => hv (j + 1) t v h h') h2 hq a1
        rw [List.append_assoc] at b1 b2 b3
        refine ⟨t1 ++ t2, a :: as, dv :: dvs, b1, ?_, ?_, by simp only [argsOk]; exact ⟨dv, dvs, rfl, a4, b4⟩⟩
        · simp only [VRL]
          have := VR.mono (phiB_le (bs ++ t1) t2) _ _ a2
          rw [List.append_assoc] at this
          exact ⟨v, vs, rfl, this, b2⟩
        · simp only [RL]
          have := R.mono (extB (bs ++ t1) t2) _ _ _ a3
          rw [List.append_assoc] at this
          exact ⟨a, as, rfl, this, b3⟩
  | [], _ :: _, _, _, _, _, h, _, _, _ => h.elim
  | [], [], _ :: _, _, _, _, h, _, _, _ => h.elim
  | _ :: _, [], _, _, _, _, h, _, _, _ => h.elim
  | _ :: _, _ :: _, [], _, _, _, h, _, _, _ => h.elim
/-- **A law whose V-run answers true is true in the world.** -/
theorem law_calls {vt : VTab} (hkeep : vt.tab.keep = true) (hM : MarksOK vt) (hT : ∀ big, TabOK P (stab vt big)) {f : Nat} {ts : List TypeId} {l : List ASh} (hP : argsSh P ts = some l) (hlaw : ∀ dvs, argsOk l dvs → CallV vt f dvs (.bool true))
    {r : Reach} {b : Nat} {args : Array Value} {ds : List (DataW H)} {ps : List MemPlace} (hv : ∀ (j : Nat) t v, ts[j]? = some t → args[j]? = some v → Value.okWide P w r b t v) (ht : DataW.TrodAll enc P w base spare held ts args.toList ds ps) :
    Calls P f args w (fun e w' => e = .returned (.bool true) ∧ Below w.heap.size w w') := by
  obtain ⟨bs, as, dvs, a1, a2, a3, a4⟩ := open_all (bs := []) (fun j t v h h' => hv j t v h (by simpa using h')) ht hP ⟨fun b x h => by simp at h, fun b x h => by simp at h, fun b x h => by simp at h⟩
  rw [List.nil_append] at a1 a2 a3
  obtain ⟨n, hn⟩ := hlaw dvs a4
  have hcall := hn n (Nat.le_refl _)
  obtain ⟨n0, hC⟩ := (soundV hkeep hM n).1 f dvs (.bool true) hcall
  have hp : Hp (ctxB bs) 0 := by
    refine cx_hp (fun b h => h.elim) (fun i h => h) (fun b cs h => ?_) (fun b cs hb h => ?_) (fun b cs hb h => ?_)
    · obtain ⟨x, h1, rfl⟩ := cellsB.1 h; exact a1.cell b x h1
    · simp only [envB, Option.map_eq_some_iff] at h
      obtain ⟨x, h1, rfl⟩ := h
      exact ⟨hb, a1.ids b x h1⟩
    · obtain ⟨x, h1, _⟩ := cellsB.1 h
      exact absurd (List.getElem?_eq_some_iff.1 h1).1 (by exact Nat.not_lt.2 hb)
  obtain ⟨a, Mc, c1, c2, c3, c4⟩ := hC n0 (Nat.le_refl _) n0 (Nat.le_refl _) (envB bs) _ _ as rfl hp a3
  simp only [R] at c3
  subst c3
  have hnil : ∀ k, heapOf (envB bs) Mem.nil k = none := fun k => by
    simp only [heapOf]
    split
    · rfl
    · exact Mem.get_nil _
  have hs := (sound (hT n0) n0 _ _ _ _ _ _ c1 rfl).2 (phiB bs) w w args.toList (fun b cs hb h => by
      simp only [envB, Option.map_eq_some_iff] at h
      obtain ⟨x, h1, rfl⟩ := h
      exact ⟨x.2.1, x.2.2.1, x.2.2.2, by simp only [phiB, h1]; rfl, a1.blk b x h1⟩)
    ⟨Below.refl _ _, fun k o hk => (by rw [hnil] at hk; cases hk), fun k k' o o' x x' _ hk => (by rw [hnil] at hk; cases hk)⟩ a2 (fun k hk => by
      have hk' : bs.length ≤ k := hk
      simp only [phiB, List.getElem?_eq_none hk']; rfl)
  refine (callsIn_wide.1 (hs.mono ?_))
  rintro e w' ⟨vC, rfl, φ', k1, _, _, k4, _⟩
  simp only [VR] at k1
  subst k1
  exact ⟨rfl, k4.below⟩
theorem trodAll_below (hl : laidOutB P = true) {w' : World} (hb : Below w.heap.size w w') : ∀ {ts : List TypeId} {vs : List Value} {ds : List (DataW H)} {ps : List MemPlace}, (ts.all fun t => P.readableRec t && decide (t < P.types.size)) = true → DataW.TrodAll enc P w 0 (fun _ => true) true ts vs ds ps → (∀ x ∈ ps, x.block < w.heap.size) →
    DataW.TrodAll enc P w' 0 (fun b => decide (b < w.heap.size)) true ts vs ds ps
  | [], [], [], _, _, h, _ => h
  | t :: ts, v :: vs, d :: ds, ps, hr, ⟨p, q, h1, h2, e⟩, hlt => by
    subst e
    simp only [List.all_cons, Bool.and_eq_true, decide_eq_true_eq] at hr
    exact ⟨p, q, Below.trod hl hr.1.1 hr.1.2 h1 hb (fun x hx => hlt x (by simp [hx])), trodAll_below hl hb hr.2 h2 (fun x hx => hlt x (by simp [hx])), rfl⟩
  | [], _ :: _, _, _, _, h, _ => h.elim
  | [], [], _ :: _, _, _, h, _ => h.elim
  | _ :: _, [], _, _, _, h, _ => h.elim
  | _ :: _, _ :: _, [], _, _, h, _ => h.elim
end
theorem rows_ints : ∀ {rows : List DV}, (∀ r ∈ rows, (false = true ∧ ∃ cs, r = DV.agg cs ∧ Sh.okL false [.int] cs) ∨ (false = false ∧ Sh.okL false [.int] [r])) → ∃ l : List Int, rows = l.map DV.int ∧ ∀ n ∈ l, -9223372036854775808 ≤ n ∧ n ≤ 9223372036854775807
  | [], _ => ⟨[], rfl, by simp⟩
  | r :: rows, h => by
    obtain ⟨l, rfl, hl⟩ := rows_ints (fun x hx => h x (List.mem_cons_of_mem _ hx))
    rcases h r (by simp) with ⟨e, _⟩ | ⟨_, h⟩
    · cases e
    · simp only [Sh.okL, Sh.ok] at h
      obtain ⟨d, q, e, ⟨n, rfl, hn⟩, rfl⟩ := h
      cases e
      refine ⟨n :: l, rfl, fun x hx => ?_⟩
      rcases List.mem_cons.1 hx with rfl | hx
      · exact hn
      · exact hl x hx
/-- A slice of ints. -/
theorem Sh.ok_ints {tg : Bool} {d : DV} (h : Sh.ok tg (.slice false [.int]) d) : ∃ l : List Int, d = .list tg false 1 (l.map DV.int) ∧ l.length ≤ 9223372036854775807 ∧ ∀ n ∈ l, -9223372036854775808 ≤ n ∧ n ≤ 9223372036854775807 := by
  unfold Sh.ok at h
  obtain ⟨rows, rfl, h1, h2⟩ := h
  obtain ⟨l, rfl, h3⟩ := rows_ints h2
  exact ⟨l, rfl, by simpa using h1, h3⟩
theorem rows_lists : ∀ {rows : List DV}, (∀ r ∈ rows, (false = true ∧ ∃ cs, r = DV.agg cs ∧ Sh.okL false [.slice false [.int]] cs) ∨ (false = false ∧ Sh.okL false [.slice false [.int]] [r])) → ∃ im : List (List Int), rows = im.map (fun l => .list false false 1 (l.map DV.int))
  | [], _ => ⟨[], rfl⟩
  | r :: rows, h => by
    obtain ⟨im, rfl⟩ := rows_lists (fun x hx => h x (List.mem_cons_of_mem _ hx))
    rcases h r (by simp) with ⟨e, _⟩ | ⟨_, h⟩
    · cases e
    · simp only [Sh.okL] at h
      obtain ⟨d, q, e, h, rfl⟩ := h
      cases e
      obtain ⟨l, rfl, _⟩ := Sh.ok_ints h
      exact ⟨l :: im, rfl⟩
/-- A slice of slices of ints. -/
theorem Sh.ok_lists {tg : Bool} {d : DV} (h : Sh.ok tg (.slice false [.slice false [.int]]) d) : ∃ im : List (List Int), d = .list tg false 1 (im.map (fun l => .list false false 1 (l.map DV.int))) ∧ im.length ≤ 9223372036854775807 := by
  unfold Sh.ok at h
  obtain ⟨rows, rfl, h1, h2⟩ := h
  obtain ⟨im, rfl⟩ := rows_lists h2
  exact ⟨im, rfl, by simpa using h1⟩
theorem Sh.ok_int {tg : Bool} {d : DV} (h : Sh.ok tg .int d) : ∃ n : Int, d = .int n ∧ -9223372036854775808 ≤ n ∧ n ≤ 9223372036854775807 := by
  unfold Sh.ok at h; exact h
theorem Sh.ok_bool {tg : Bool} {d : DV} (h : Sh.ok tg .bool d) : ∃ b, d = .bool b := by
  unfold Sh.ok at h; exact h
end Go.Vx
