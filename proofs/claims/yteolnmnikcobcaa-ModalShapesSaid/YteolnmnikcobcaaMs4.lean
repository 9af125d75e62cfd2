/- ModalShapes of the given program answers true Part 4 of 10. -/
import Derived.ChangeOld
import Derived.Carry
import Derived.ChangeArms
import Derived.OpenShut
import Derived.Test.YteolnmnikcobcaaMs3
/- V, text I: code, functions: V is sound. -/
namespace Go.Vx
open Go.Sx

/-- The loops of a function have names of their own. -/
def nodupB : List Nat → Bool
  | [] => true
  | i :: l => !memN i l && nodupB l
theorem findLp_of {L : List (Nat × Lp)} (h : nodupB (L.map (·.1)) = true) {i : Nat} {p : Lp} (hp : (i, p) ∈ L) : findLp L i = some p := by
  induction L with
  | nil => simp at hp
  | cons x L ih =>
    obtain ⟨j, q⟩ := x
    simp only [List.map_cons, nodupB, Bool.and_eq_true, Bool.not_eq_true'] at h
    simp only [findLp]
    rcases List.mem_cons.1 hp with e | hp
    · cases e; rw [Nat.beq_refl, cond_true]
    · have hne : j ≠ i := by
        intro e
        subst e
        have : memN j (L.map (·.1)) = true := memN_mem.2 (List.mem_map.2 ⟨(j, p), hp, rfl⟩)
        rw [this] at h; simp at h
      rw [beqF hne, cond_false]
      exact ih h.2 hp
theorem lpMap_mem {fr : Fr} {l : List (Nat × Lp)} {i : Nat} {p : Lp} (h : (i, p) ∈ l) : (i, p.push fr) ∈ lpMap fr l := by
  induction l with
  | nil => simp at h
  | cons x l ih =>
    obtain ⟨j, q⟩ := x
    simp only [lpMap]
    rcases List.mem_cons.1 h with e | h
    · cases e; simp
    · exact List.mem_cons_of_mem _ (ih h)
/-- The places of a piece of code, under a stack. -/
def Pl (L : List (Nat × Lp)) (c : Code) (an : An) (ks : List Fr) : Prop := ∀ i p, (i, p) ∈ lps c an → findLp L i = some { p with ks := p.ks ++ ks }
theorem Pl.push {L l : List (Nat × Lp)} {ks : List Fr} {fr : Fr} (h : ∀ i p, (i, p) ∈ lpMap fr l → findLp L i = some { p with ks := p.ks ++ ks }) : ∀ i p, (i, p) ∈ l → findLp L i = some { p with ks := p.ks ++ (fr :: ks) } := fun i p hp => by
  have := h i _ (lpMap_mem hp)
  simp only [Lp.push, List.append_assoc, List.singleton_append] at this
  exact this
/-- What S does of code that V has run up to an exit. -/
def CDone (vt : VTab) (c : Code) (T : VT) (H : VH) (x : Ex) (T' : VT) (H' : VH) (n0 : Nat) : Prop :=
  ∀ n, n0 ≤ n → ∀ big, n0 ≤ big → ∀ (cc : Ctx) (TS : Tbl AV), cc.H = H → FS cc T TS → ∃ TS' c', codeF (stab vt big) (ev (stab vt big) n) cc.E c TS cc.M = some (x, TS', c'.M) ∧ c'.H = H' ∧ FS c' T' TS' ∧ Ste cc c' n0
theorem CDone.up {vt : VTab} {c : Code} {T : VT} {H : VH} {x : Ex} {T' : VT} {H' : VH} {n0 n1 : Nat} (h : CDone vt c T H x T' H' n0) (hle : n0 ≤ n1) : CDone vt c T H x T' H' n1 := fun n hn big hb cc TS hH hF => by
  obtain ⟨TS', c', q1, q2, q3, q4⟩ := h n (by omega) big (by omega) cc TS hH hF
  exact ⟨TS', c', q1, q2, q3, q4.up hle⟩
section
variable {vt : VTab} {f : Nat} {fn : Func} {L : List (Nat × Lp)}
def AtS (vt : VTab) (f : Nat) (fn : Func) (L : List (Nat × Lp)) (j : Nat) : Prop := ∀ id p T H r, findLp L id = some p → (evV vt j).at_ f id T H = some r →
  ∃ x T' H' n0 j', j' ≤ j ∧ x ≠ .normal ∧ kOf vt (evV vt j') f (finK vt fn) p.ks x T' H' = some r ∧ CDone vt (.loop p.b) T H x T' H' n0
def CodeS (vt : VTab) (f : Nat) (fn : Func) (L : List (Nat × Lp)) (j : Nat) (c : Code) : Prop := ∀ an ks T H r, Pl L c an ks → codeK vt (evV vt j) f c an T H (kOf vt (evV vt j) f (finK vt fn) ks) = some r →
  ∃ x T' H' n0 j', j' ≤ j ∧ kOf vt (evV vt j') f (finK vt fn) ks x T' H' = some r ∧ CDone vt c T H x T' H' n0
theorem condK_ok {T : VT} {c : Operand} {a b : VT → Res} {x : Option DV} {r : DV} (h : condK T c a b x = some r) (hx : x = opdV T c) : ∃ v T1, x = some (.bool v) ∧ (bif v then a T1 else b T1) = some r ∧ ∀ (cc : Ctx) (pv : Nat → Nat) (TS : Tbl AV), TRel cc pv T TS → TRel cc pv T1 TS := by
  unfold condK at h
  split at h
  · rename_i v
    have h' := splitB_ok h
    cases c with
    | tmp t =>
      refine ⟨v, T.set t (.bool v), rfl, ?_, fun cc pv TS hr => hr.bool hx.symm⟩
      cases v <;> exact h'
    | const _ => refine ⟨v, T, rfl, ?_, fun cc pv TS hr => hr⟩; cases v <;> exact h'
    | global _ => refine ⟨v, T, rfl, ?_, fun cc pv TS hr => hr⟩; cases v <;> exact h'
    | func _ => refine ⟨v, T, rfl, ?_, fun cc pv TS hr => hr⟩; cases v <;> exact h'
  · cases h
theorem FS.T {c : Ctx} {T T1 : VT} {TS : Tbl AV} (h : FS c T TS) (h1 : TRel c (fun _ => 0) T1 TS) : FS c T1 TS := ⟨h.hp, h1, h.lay, h.ck⟩
theorem Pl.nil {L : List (Nat × Lp)} {c : Code} {an : An} {ks : List Fr} (h : lps c an = []) : Pl L c an ks := fun i p hp => by rw [h] at hp; simp at hp
theorem code_ok (hkeep : VOK vt) {j : Nat} (hCall : ∀ j', j' ≤ j → CallS vt (evV vt j').call) (hAt : ∀ j', j' ≤ j → AtS vt f fn L j') : ∀ (c : Code) (j' : Nat), j' ≤ j → CodeS vt f fn L j' c := by
  intro c
  induction c with
  | skip =>
    intro j' hj an ks T H r hP h
    refine ⟨.normal, T, H, 0, j', Nat.le_refl _, h, fun n _ big _ cc TS hH hF => ⟨TS, cc, rfl, hH, hF, Ste.refl cc 0⟩⟩
  | region id ops draw =>
    intro j' hj an ks T H r hP h
    simp only [codeK] at h
    obtain ⟨T', H', n0, h1, h2⟩ := region_ok (hCall j' hj) hkeep h
    refine ⟨.normal, T', H', n0, j', Nat.le_refl _, h1, fun n hn big hb cc TS hH hF => ?_⟩
    obtain ⟨TS', c', q1, q2, q3, q4⟩ := h2 n hn big hb cc TS hH hF
    exact ⟨TS', c', by simp only [codeF, q1, normalR], q2, q3, q4⟩
  | seq a b iha ihb =>
    intro j' hj an ks T H r hP h
    have hPa : Pl L a an.l (.seq b an.r :: ks) := Pl.push (fun i p hp => hP i p (by simp only [lps]; exact List.mem_append_left _ hp))
    have hPb : Pl L b an.r ks := fun i p hp => hP i p (by simp only [lps]; exact List.mem_append_right _ hp)
    have h' : codeK vt (evV vt j') f a an.l T H (kOf vt (evV vt j') f (finK vt fn) (.seq b an.r :: ks)) = some r := h
    obtain ⟨x, T1, H1, n1, j1, k1, k2, k3⟩ := iha j' hj an.l _ T H r hPa h'
    have stop : x ≠ .normal → kOf vt (evV vt j1) f (finK vt fn) ks x T1 H1 = some r → ∃ x T' H' n0 j'', j'' ≤ j' ∧ kOf vt (evV vt j'') f (finK vt fn) ks x T' H' = some r ∧ CDone vt (.seq a b) T H x T' H' n0 := by
      intro hx hk
      refine ⟨x, T1, H1, n1, j1, k1, hk, fun n hn big hb cc TS hH hF => ?_⟩
      obtain ⟨TS', c', q1, q2, q3, q4⟩ := k3 n hn big hb cc TS hH hF
      refine ⟨TS', c', ?_, q2, q3, q4⟩
      simp only [codeF, q1, thenR]
      all_goals (cases x <;> first | exact absurd rfl hx | rfl)
    cases x with
    | normal =>
      have k2' : codeK vt (evV vt j1) f b an.r T1 H1 (kOf vt (evV vt j1) f (finK vt fn) ks) = some r := k2
      obtain ⟨x, T2, H2, n2, j2, l1, l2, l3⟩ := ihb j1 (by omega) an.r ks T1 H1 r hPb k2'
      refine ⟨x, T2, H2, n1 + n2, j2, by omega, l2, fun n hn big hb cc TS hH hF => ?_⟩
      obtain ⟨TS1, c1, q1, q2, q3, q4⟩ := k3 n (by omega) big (by omega) cc TS hH hF
      obtain ⟨TS2, c2, p1, p2, p3, p4⟩ := l3 n (by omega) big (by omega) c1 TS1 q2 q3
      refine ⟨TS2, c2, ?_, p2, p3, q4.trans p4⟩
      simp only [codeF, q1, thenR]
      rw [← q4.E]; exact p1
    | exit id => exact stop (by simp) k2
    | ret => exact stop (by simp) k2
  | cond q a b iha ihb =>
    intro j' hj an ks T H r hP h
    simp only [codeK] at h
    obtain ⟨v, T1, h1, h2, h3⟩ := condK_ok h rfl
    have hq : ∀ (cc : Ctx) (TS : Tbl AV), FS cc T TS → boolO (opd TS q) = some v := by
      intro cc TS hF
      obtain ⟨a', k1, k2⟩ := opn_zero hF.tr [q] q (by simp) _ h1
      simp only [R] at k2
      subst k2
      rw [k1]; rfl
    cases v with
    | true =>
      rw [cond_true] at h2
      obtain ⟨x, T', H', n0, j1, k1, k2, k3⟩ := iha j' hj an.l ks T1 H r (fun i p hp => hP i p (by simp only [lps]; exact List.mem_append_left _ hp)) h2
      refine ⟨x, T', H', n0, j1, k1, k2, fun n hn big hb cc TS hH hF => ?_⟩
      obtain ⟨TS', c', q1, q2⟩ := k3 n hn big hb cc TS hH (hF.T (h3 cc _ TS hF.tr))
      refine ⟨TS', c', ?_, q2⟩
      simp only [codeF, hq cc TS hF, cond_true]
      exact q1
    | false =>
      rw [cond_false] at h2
      obtain ⟨x, T', H', n0, j1, k1, k2, k3⟩ := ihb j' hj an.r ks T1 H r (fun i p hp => hP i p (by simp only [lps]; exact List.mem_append_right _ hp)) h2
      refine ⟨x, T', H', n0, j1, k1, k2, fun n hn big hb cc TS hH hF => ?_⟩
      obtain ⟨TS', c', q1, q2⟩ := k3 n hn big hb cc TS hH (hF.T (h3 cc _ TS hF.tr))
      refine ⟨TS', c', ?_, q2⟩
      simp only [codeF, hq cc TS hF, cond_false]
      exact q1
  | block id b ihb =>
    intro j' hj an ks T H r hP h
    have h' : codeK vt (evV vt j') f b an.l T H (kOf vt (evV vt j') f (finK vt fn) (.block id :: ks)) = some r := h
    obtain ⟨x, T1, H1, n1, j1, k1, k2, k3⟩ := ihb j' hj an.l _ T H r (Pl.push (fun i p hp => hP i p (by simp only [lps]; exact hp))) h'
    refine ⟨inBlockA id x, T1, H1, n1, j1, k1, k2, fun n hn big hb cc TS hH hF => ?_⟩
    obtain ⟨TS', c', q1, q2⟩ := k3 n hn big hb cc TS hH hF
    exact ⟨TS', c', by simp only [codeF, q1, blockR], q2⟩
  | loop b ihb =>
    intro j' hj an ks T H r hP h
    simp only [codeK] at h
    split at h
    · rename_i id co live a
      obtain ⟨T1, H1, h1, h2⟩ := headK_ok h
      have hf := hP id ⟨b, a, co, live, []⟩ (by simp only [lps]; exact List.mem_cons_self)
      simp only [List.nil_append] at hf
      obtain ⟨x, T', H', n0, j1, k1, k2, k3, k4⟩ := hAt j' hj id _ T1 H1 r hf h1
      refine ⟨x, T', H', n0, j1, k1, k3, fun n hn big hb cc TS hH hF => ?_⟩
      obtain ⟨c1, p1, p2, p3, p4⟩ := h2 cc TS hH hF
      obtain ⟨TS', c', q1, q2, q3, q4⟩ := k4 n hn big hb c1 TS p2 p3
      refine ⟨TS', c', ?_, q2, q3, (p4.trans q4).up (by omega)⟩
      rw [← p1, ← p4.E]; exact q1
    · rename_i m a
      cases hn : noLps b a with
      | false => rw [hn] at h; cases h
      | true =>
        rw [hn, cond_true] at h
        have hl : lps b a = [] := by
          unfold noLps at hn
          cases hlp : lps b a with
          | nil => rfl
          | cons _ _ => rw [hlp] at hn; simp [isNilL] at hn
        -- the body's contract below j alone
        have hbody : ∀ (m : Nat) (j2 : Nat), j2 ≤ j → ∀ (ks : List Fr) (T : VT) (H : VH) (r : DV), unrK (codeK vt (evV vt j2) f b a) m T H (kOf vt (evV vt j2) f (finK vt fn) ks) = some r →
            ∃ x T' H' n0 j3, j3 ≤ j2 ∧ x ≠ .normal ∧ kOf vt (evV vt j3) f (finK vt fn) ks x T' H' = some r ∧ CDone vt (.loop b) T H x T' H' n0 := by
          intro m
          induction m with
          | zero => intro j2 _ ks T H r h; simp [unrK] at h
          | succ m ihm =>
            intro j2 hj2 ks T H r h
            have h' : codeK vt (evV vt j2) f b a T H (kOf vt (evV vt j2) f (finK vt fn) (.unr m b a :: ks)) = some r := h
            obtain ⟨x, T1, H1, n1, j1, k1, k2, k3⟩ := ihb j2 hj2 a _ T H r (Pl.nil hl) h'
            have stop : x ≠ .normal → kOf vt (evV vt j1) f (finK vt fn) ks x T1 H1 = some r → ∃ x T' H' n0 j3, j3 ≤ j2 ∧ x ≠ .normal ∧ kOf vt (evV vt j3) f (finK vt fn) ks x T' H' = some r ∧ CDone vt (.loop b) T H x T' H' n0 := by
              intro hx hk
              refine ⟨x, T1, H1, n1, j1, k1, hx, hk, fun n hn big hb' cc TS hH hF => ?_⟩
              obtain ⟨TS', c', q1, q2, q3, q4⟩ := k3 n hn big hb' cc TS hH hF
              refine ⟨TS', c', ?_, q2, q3, q4⟩
              simp only [codeF, q1, thenR]
              all_goals (cases x <;> first | exact absurd rfl hx | rfl)
            cases x with
            | normal =>
              have k2' : unrK (codeK vt (evV vt j1) f b a) m T1 H1 (kOf vt (evV vt j1) f (finK vt fn) ks) = some r := k2
              obtain ⟨x, T2, H2, n2, j3, l1, l2, l3, l4⟩ := ihm j1 (by omega) ks T1 H1 r k2'
              refine ⟨x, T2, H2, n1 + n2 + 1, j3, by omega, l2, l3, fun n hn big hb' cc TS hH hF => ?_⟩
              obtain ⟨TS1, c1, q1, q2, q3, q4⟩ := k3 n (by omega) big (by omega) cc TS hH hF
              obtain ⟨n', rfl⟩ : ∃ n', n = n' + 1 := ⟨n - 1, by omega⟩
              obtain ⟨TS2, c2, p1, p2, p3, p4⟩ := l4 n' (by omega) big (by omega) c1 TS1 q2 q3
              refine ⟨TS2, c2, ?_, p2, p3, (q4.trans p4).up (by omega)⟩
              simp only [codeF, q1, thenR]
              show codeF (stab vt big) (ev (stab vt big) n') cc.E (.loop b) TS1 c1.M = _
              rw [← q4.E]
              exact p1
            | exit id => exact stop (by simp) k2
            | ret => exact stop (by simp) k2
        obtain ⟨x, T', H', n0, j1, k1, _, k3, k4⟩ := hbody m j' hj ks T H r h
        exact ⟨x, T', H', n0, j1, k1, k3, k4⟩
    · cases h
  | exit id =>
    intro j' hj an ks T H r hP h
    exact ⟨.exit id, T, H, 0, j', Nat.le_refl _, h, fun n _ big _ cc TS hH hF => ⟨TS, cc, rfl, hH, hF, Ste.refl cc 0⟩⟩
  | label l =>
    intro j' hj an ks T H r hP h
    exact ⟨.normal, T, H, 0, j', Nat.le_refl _, h, fun n _ big _ cc TS hH hF => ⟨TS, cc, rfl, hH, hF, Ste.refl cc 0⟩⟩
  | ret =>
    intro j' hj an ks T H r hP h
    exact ⟨.ret, T, H, 0, j', Nat.le_refl _, h, fun n _ big _ cc TS hH hF => ⟨TS, cc, rfl, hH, hF, Ste.refl cc 0⟩⟩
  | rangeFunc g ps a b _ _ => intro j' hj an ks T H r hP h; simp [codeK] at h
  | scope b _ => intro j' hj an ks T H r hP h; simp [codeK] at h
  | goto l => intro j' hj an ks T H r hP h; simp [codeK] at h
  | refuse w => intro j' hj an ks T H r hP h; simp [codeK] at h
end
/-- A loop's own loops have their places under it. -/
theorem lps_nest : ∀ (c : Code) (an : An) (id : Nat) (p : Lp), (id, p) ∈ lps c an → ∀ i q, (i, q) ∈ lps p.b p.a → (i, ({ q with ks := q.ks ++ (.loop id p.co p.live :: p.ks) } : Lp)) ∈ lps c an := by
  have hmap : ∀ (fr : Fr) (l : List (Nat × Lp)), (∀ (id : Nat) (p : Lp), (id, p) ∈ l → ∀ i q, (i, q) ∈ lps p.b p.a → (i, ({ q with ks := q.ks ++ (.loop id p.co p.live :: p.ks) } : Lp)) ∈ l) →
      ∀ (id : Nat) (p : Lp), (id, p) ∈ lpMap fr l → ∀ i q, (i, q) ∈ lps p.b p.a → (i, ({ q with ks := q.ks ++ (.loop id p.co p.live :: p.ks) } : Lp)) ∈ lpMap fr l := by
    intro fr l hl id p hp i q hq
    have hex : ∃ p0, (id, p0) ∈ l ∧ p = p0.push fr := by
      clear hl
      induction l with
      | nil => simp [lpMap] at hp
      | cons x l ih =>
        obtain ⟨j, r⟩ := x
        simp only [lpMap] at hp
        rcases List.mem_cons.1 hp with e | hp
        · cases e; exact ⟨r, by simp, rfl⟩
        · obtain ⟨p0, h1, h2⟩ := ih hp
          exact ⟨p0, by simp [h1], h2⟩
    obtain ⟨p0, h1, rfl⟩ := hex
    have := lpMap_mem (fr := fr) (hl id p0 h1 i q hq)
    simp only [Lp.push, List.append_assoc, List.cons_append] at this ⊢
    exact this
  intro c
  induction c with
  | seq a b iha ihb =>
    intro an id p hp i q hq
    simp only [lps] at hp ⊢
    rcases List.mem_append.1 hp with hp | hp
    · exact List.mem_append_left _ (hmap _ _ (iha an.l) id p hp i q hq)
    · exact List.mem_append_right _ (ihb an.r id p hp i q hq)
  | cond x a b iha ihb =>
    intro an id p hp i q hq
    simp only [lps] at hp ⊢
    rcases List.mem_append.1 hp with hp | hp
    · exact List.mem_append_left _ (iha an.l id p hp i q hq)
    · exact List.mem_append_right _ (ihb an.r id p hp i q hq)
  | block k b ihb =>
    intro an id p hp i q hq
    simp only [lps] at hp ⊢
    exact hmap _ _ (ihb an.l) id p hp i q hq
  | loop b ihb =>
    intro an id p hp i q hq
    cases an with
    | loop id0 co live a =>
      simp only [lps] at hp ⊢
      rcases List.mem_cons.1 hp with e | hp
      · cases e
        have := lpMap_mem (fr := .loop id co live) hq
        simp only [Lp.push] at this
        exact List.mem_cons_of_mem _ this
      · exact List.mem_cons_of_mem _ (hmap _ _ (ihb a) id p hp i q hq)
    | unr m a => simp only [lps] at hp ⊢; exact ihb a id p hp i q hq
    | nil => simp [lps] at hp
    | seq _ _ => simp [lps] at hp
    | cond _ _ => simp [lps] at hp
    | block _ => simp [lps] at hp
  | _ => intro an id p hp; simp [lps] at hp
theorem findLp_mem {L : List (Nat × Lp)} {i : Nat} {p : Lp} (h : findLp L i = some p) : (i, p) ∈ L := by
  induction L with
  | nil => simp [findLp] at h
  | cons x L ih =>
    obtain ⟨j, q⟩ := x
    simp only [findLp] at h
    cases hb : Nat.beq j i with
    | true =>
      rw [hb, cond_true, Option.some.injEq] at h
      have := Nat.eq_of_beq_eq_true hb
      subst this; subst h; simp
    | false => rw [hb, cond_false] at h; exact List.mem_cons_of_mem _ (ih h)
/-- What is asked of the marks: a function's loops have different names. -/
def MarksOK (vt : VTab) : Prop := ∀ f fn, vt.tab.fn f = some fn → nodupB ((bodyLps (vt.an f) fn.body).map (·.1)) = true
theorem Pl_under {L : List (Nat × Lp)} {c : Code} {an : An} (hL : L = lps c an) (hu : nodupB (L.map (·.1)) = true) {id : Nat} {p : Lp} (hf : findLp L id = some p) : Pl L p.b p.a (.loop id p.co p.live :: p.ks) := fun i q hq => by
  have h1 := findLp_mem hf
  rw [hL] at h1
  have h2 := lps_nest c an id p h1 i q hq
  rw [← hL] at h2
  exact findLp_of hu h2
theorem Pl_top {L : List (Nat × Lp)} {c : Code} {an : An} (hL : L = lps c an) (hu : nodupB (L.map (·.1)) = true) : Pl L c an [] := fun i p hp => by
  rw [← hL] at hp
  rw [List.append_nil]
  exact findLp_of hu hp
theorem argsV_ok {c : Ctx} : ∀ {ds : List DV} {l : List AV} {k : Nat} {T : VT} {TS : Tbl AV}, RL c 0 true ds l → TRel c (fun _ => 0) T TS → TRel c (fun _ => 0) (argsV ds k T) (argsT l k TS)
  | [], l, k, T, TS, h, ht => by simp only [RL] at h; subst h; exact ht
  | d :: ds, l, k, T, TS, h, ht => by
    rw [RL] at h
    obtain ⟨a, r, rfl, h1, h2⟩ := h
    simp only [argsV, argsT]
    refine argsV_ok h2 (fun t v hv => ?_)
    rw [Tbl.get_set] at hv ⊢
    by_cases e : t = k
    · rw [if_pos e] at hv ⊢; cases hv; exact ⟨a, rfl, h1.thaw⟩
    · rw [if_neg e] at hv ⊢; exact ht t v hv
theorem end_hand {c : Ctx} (hp : Hp c 0) (hlay : ∀ b, c.lay b = none) (ids : List Nat) : Hand c (cx c.E c.M c.Ta c.B) 0 0 false ids := by
  refine ⟨⟨fun tg b cs h1 h2 => ⟨⟨cx_mut, h1.2.1, fun j hj => by cases hj⟩, h2⟩⟩, fun k _ l B hB hne hl _ => ⟨⟨cx_mut, fun _ e => ?_, fun j hj => by cases hj⟩, hl.cells⟩⟩
  have h1 := hp.ta _ e
  have h2 := hl.lo
  omega
theorem res_ok {vt : VTab} {c : Ctx} {T : VT} {TS : Tbl AV} {n big : Nat} (hF : FS c T TS) : ∀ {rs : List RS} {l : List ResultVar} {ds : List DV}, resAllV vt.tab.ty T c.H rs l = some ds → ∃ as, resAll (stab vt big) c.E TS c.M l = some as ∧ RL (cx c.E c.M c.Ta c.B) 0 true ds as
  | [], [], ds, h => by simp only [resAllV, Option.some.injEq] at h; subst h; exact ⟨[], rfl, by simp [RL]⟩
  | r :: rs, v :: l, ds, h => by
    simp only [resAllV] at h
    cases h1 : nrmO c.H r (resV1 vt.tab.ty T c.H v) with
    | none => rw [h1] at h; simp [consD] at h
    | some w => cases h2 : resAllV vt.tab.ty T c.H rs l with
      | none => rw [h1, h2] at h; simp [consD] at h
      | some q =>
        rw [h1, h2] at h
        simp only [consD, Option.some.injEq] at h
        subst h
        obtain ⟨as, k1, k2⟩ := res_ok (n := n) (big := big) hF h2
        unfold nrmO at h1
        split at h1
        · rename_i d hd
          have hR : ∃ a, resOne (stab vt big) c.E TS c.M v = some a ∧ R c 0 false d a := by
            cases v with
            | tmp t =>
              obtain ⟨a, j1, j2⟩ := hF.tr t d hd
              exact ⟨a, by simp only [resOne, j1, orUndef], j2⟩
            | cell t ty =>
              simp only [resV1] at hd
              obtain ⟨d0, v0, e1, e2, e3⟩ := loadK_ok hd
              obtain ⟨a, j1, j2⟩ := hF.tr t d0 e1
              obtain ⟨a', j3, j4⟩ := e3 c 0 0 a rfl hF.hp (fun _ => Sub.refl 0) j2
              cases e2
              refine ⟨a', ?_, j4⟩
              simp only [resOne, j1, orUndef]
              have : (stab vt big).ty ty = vt.tab.ty ty := rfl
              rw [this, j3]; rfl
          obtain ⟨a, j1, j2⟩ := hR
          have := (nrmV_ok hF.hp (end_hand hF.hp hF.lay (owns d)) (fun k hk => hk) (fun _ => Sub.refl 0) h1 j2).1
          refine ⟨a :: as, by simp only [resAll, j1, k1, cons?], ?_⟩
          rw [RL]
          exact ⟨a, as, rfl, this, k2⟩
        · cases h1
  | [], _ :: _, _, h => by simp [resAllV] at h
  | _ :: _, [], _, h => by simp [resAllV] at h
theorem end_hp {c : Ctx} (hp : Hp c 0) : Hp (cx c.E c.M c.Ta c.B) 0 := cx_hp hp.ta hp.bm hp.cell hp.ro hp.ids
/-- V is sound. -/
theorem soundV {vt : VTab} (hkeep : VOK vt) (hM : MarksOK vt) : ∀ j, CallS vt (evV vt j).call ∧ ∀ f fn, vt.tab.fn f = some fn → AtS vt f fn (bodyLps (vt.an f) fn.body) j := by
  intro j
  induction j using Nat.strongRecOn with
  | ind j IH =>
    cases j with
    | zero => exact ⟨fun f args r h => by simp [evV] at h, fun f fn _ id p T H r _ h => by simp [evV] at h⟩
    | succ j =>
      have hcode : ∀ f fn, vt.tab.fn f = some fn → ∀ c, CodeS vt f fn (bodyLps (vt.an f) fn.body) j c := fun f fn hfn c =>
        code_ok hkeep (j := j) (fun j' hj => (IH j' (by omega)).1) (fun j' hj => (IH j' (by omega)).2 f fn hfn) c j (Nat.le_refl _)
      refine ⟨fun f args r h => ?_, fun f fn hfn id p T H r hf h => ?_⟩
      · have h' : callF vt (evV vt j) f args = some r := h
        unfold callF callF1 at h'
        split at h'
        · rename_i fn hfn
          cases hpr : vt.tab.prim f with
          | true =>
            rw [hpr, cond_true] at h'
            unfold primV at h'
            split at h'
            · cases h'
              refine ⟨1, fun n hn big _ E Ta B as hr hp ha => ?_⟩
              simp only [RL] at ha
              subst ha
              obtain ⟨n', rfl⟩ : ∃ n', n = n' + 1 := ⟨n - 1, by omega⟩
              refine ⟨.bool true, Mem.nil, ?_, by simp [Mem.nil], by simp only [R], hp⟩
              show Go.Sx.callF (stab vt big) (ev (stab vt big) n') E f [] Mem.nil = _
              unfold Go.Sx.callF
              have e1 : (stab vt big).fn f = some fn := hfn
              have e2 : (stab vt big).prim f = true := hpr
              rw [e1]
              simp only [e2, cond_true, primA]
            · cases h'
          | false =>
            rw [hpr, cond_false] at h'
            cases hle : Nat.ble args.length fn.ntmps with
            | false => rw [hle] at h'; cases h'
            | true =>
              rw [hle, cond_true] at h'
              unfold callB at h'
              split at h'
              · rename_i c hc
                have hL : bodyLps (vt.an f) fn.body = lps c (vt.an f) := by unfold bodyLps; rw [hc]
                obtain ⟨x, T', H', n0, j1, k1, k2, k3⟩ := hcode f fn hfn c (vt.an f) [] (argsV args 0 .leaf) [] r (Pl_top hL (hM f fn hfn)) h'
                refine ⟨n0 + 1, fun n hn big hb E Ta B as hrnd hp ha => ?_⟩
                obtain ⟨n', rfl⟩ : ∃ n', n = n' + 1 := ⟨n - 1, by omega⟩
                have hF : FS (cx E Mem.nil Ta B) (argsV args 0 .leaf) (argsT as 0 .leaf) := ⟨hp, argsV_ok ha (fun t v hv => by simp [Tbl.get] at hv), fun _ => rfl, fun _ => rfl⟩
                obtain ⟨TS', c', q1, q2, q3, q4⟩ := k3 n' (by omega) big (by omega) (cx E Mem.nil Ta B) (argsT as 0 .leaf) rfl hF
                have k2' : finK vt fn x T' H' = some r := k2
                have hres : (∀ id, x ≠ .exit id) ∧ finRs vt.tab.ty T' H' fn.results.toList (allO (rsL vt.tab.ty fn.resultTypes.toList)) = some r := by
                  unfold finK at k2'
                  cases x with
                  | exit id => cases k2'
                  | normal => exact ⟨fun id e => (by cases e), k2'⟩
                  | ret => exact ⟨fun id e => (by cases e), k2'⟩
                obtain ⟨hx, hfin⟩ := hres
                unfold finRs at hfin
                split at hfin
                · rename_i rs hrs
                  cases hds : resAllV vt.tab.ty T' H' rs fn.results.toList with
                  | none => rw [hds] at hfin; simp [tupV] at hfin
                  | some ds =>
                    rw [hds] at hfin
                    rw [← q2] at hds
                    obtain ⟨bs, r1, r2⟩ := res_ok (n := 0) (big := big) q3 hds
                    have eE : c'.E = E := q4.E
                    have eT : c'.Ta = Ta := q4.Ta
                    have eB : c'.B = B := q4.Bq
                    have hcall : (ev (stab vt big) (n' + 1)).call E f as Mem.nil = tupOf c'.M (some bs) := by
                      show Go.Sx.callF (stab vt big) (ev (stab vt big) n') E f as Mem.nil = _
                      unfold Go.Sx.callF
                      have e1 : (stab vt big).fn f = some fn := hfn
                      have e2 : (stab vt big).prim f = false := hpr
                      have e3 : as.length = args.length := ha.length
                      rw [e1]
                      simp only [e2, cond_false]
                      rw [e3, hle, cond_true, hc]
                      simp only [call1]
                      have q1' : codeF (stab vt big) (ev (stab vt big) n') E c (argsT as 0 .leaf) Mem.nil = some (x, TS', c'.M) := q1
                      rw [q1', ← r1, eE]
                      cases x with
                      | exit id => exact absurd rfl (hx id)
                      | normal => rfl
                      | ret => rfl
                    have hn0 : c'.M.n ≤ n0 + 1 := by have := q4.n2; have : (cx E Mem.nil Ta B).M.n = 0 := rfl; omega
                    have hp' := end_hp q3.hp
                    rw [eE, eT, eB] at hp' r2
                    unfold tupV at hfin
                    split at hfin
                    · rename_i v e
                      cases e
                      cases hfin
                      rw [RL] at r2
                      obtain ⟨a, _, rfl, r3, r4⟩ := r2
                      simp only [RL] at r4
                      subst r4
                      exact ⟨a, c'.M, by rw [hcall]; rfl, hn0, r3, hp'⟩
                    · rename_i vs hne e
                      cases e
                      cases hfin
                      refine ⟨.tup bs, c'.M, ?_, hn0, by simp only [R]; exact ⟨bs, rfl, r2⟩, hp'⟩
                      rw [hcall]
                      unfold tupOf
                      split
                      · rename_i v e
                        cases e
                        have := r2.length
                        cases ds with
                        | nil => simp at this
                        | cons d ds' => cases ds' with
                          | nil => exact absurd rfl (hne d)
                          | cons _ _ => simp at this
                      · rename_i e; cases e; rfl
                      · rename_i e; cases e
                    · rename_i e; cases e
                · cases hfin
              · cases h'
        · cases h'
      · have h' : atF vt (evV vt j) f id T H = some r := h
        unfold atF atF1 at h'
        rw [hfn] at h'
        simp only [] at h'
        rw [hf] at h'
        simp only [atL] at h'
        have hbody : ∃ c, fn.body = some c := by
          cases hb : fn.body with
          | none => rw [hb] at hf; simp [bodyLps, findLp] at hf
          | some c => exact ⟨c, rfl⟩
        obtain ⟨c, hb⟩ := hbody
        have hL : bodyLps (vt.an f) fn.body = lps c (vt.an f) := by unfold bodyLps; rw [hb]
        obtain ⟨x, T1, H1, n1, j1, k1, k2, k3⟩ := hcode f fn hfn p.b p.a _ T H r (Pl_under hL (hM f fn hfn) hf) h'
        have stop : x ≠ .normal → kOf vt (evV vt j1) f (finK vt fn) p.ks x T1 H1 = some r → ∃ x T' H' n0 j', j' ≤ j + 1 ∧ x ≠ .normal ∧ kOf vt (evV vt j') f (finK vt fn) p.ks x T' H' = some r ∧ CDone vt (.loop p.b) T H x T' H' n0 := by
          intro hx hk
          refine ⟨x, T1, H1, n1, j1, by omega, hx, hk, fun n hn big hb' cc TS hH hF => ?_⟩
          obtain ⟨TS', c', q1, q2, q3, q4⟩ := k3 n hn big hb' cc TS hH hF
          refine ⟨TS', c', ?_, q2, q3, q4⟩
          simp only [codeF, q1, thenR]
          all_goals (cases x <;> first | exact absurd rfl hx | rfl)
        cases x with
        | normal =>
          have k2' : headK p.co p.live T1 H1 ((evV vt j1).at_ f id) = some r := k2
          obtain ⟨T2, H2, h1, h2⟩ := headK_ok k2'
          obtain ⟨x, T3, H3, n2, j2, l1, l2, l3, l4⟩ := (IH j1 (by omega)).2 f fn hfn id p T2 H2 r hf h1
          refine ⟨x, T3, H3, n1 + n2 + 1, j2, by omega, l2, l3, fun n hn big hb' cc TS hH hF => ?_⟩
          obtain ⟨TS1, c1, q1, q2, q3, q4⟩ := k3 n (by omega) big (by omega) cc TS hH hF
          obtain ⟨n', rfl⟩ : ∃ n', n = n' + 1 := ⟨n - 1, by omega⟩
          obtain ⟨c2, p1, p2, p3, p4⟩ := h2 c1 TS1 q2 q3
          obtain ⟨TS2, c3, s1, s2, s3, s4⟩ := l4 n' (by omega) big (by omega) c2 TS1 p2 p3
          refine ⟨TS2, c3, ?_, s2, s3, ((q4.trans p4).trans s4).up (by omega)⟩
          simp only [codeF, q1, thenR]
          show codeF (stab vt big) (ev (stab vt big) n') cc.E (.loop p.b) TS1 c1.M = _
          rw [← q4.E, ← p4.E, ← p1]
          exact s1
        | exit id => exact stop (by simp) k2
        | ret => exact stop (by simp) k2
end Go.Vx
/- V: contracts: what holds of V's runs from some depth on. -/
namespace Go.Vx
open Go.Sx
def tblA : List (Nat × DV) → VT → VT
  | [], T => T
  | (t, v) :: l, T => tblA l (T.set t v)
/-- A table from a list. -/
def tblL (l : List (Nat × DV)) : VT := tblA l .leaf
variable {vt : VTab}
/-- From some depth on the run has this answer. -/
def EvR (vt : VTab) (F : VIh → Res) (v : DV) : Prop := ∃ n, ∀ m, n ≤ m → F (evV vt m) = some v
/-- A call's contract. -/
def CallV (vt : VTab) (f : Nat) (args : List DV) (v : DV) : Prop := EvR vt (fun ih => ih.call f args) v
/-- A contract of the rest from a loop's head on. -/
def AtV (vt : VTab) (f id : Nat) (T : VT) (H : VH) (v : DV) : Prop := EvR vt (fun ih => ih.at_ f id T H) v
theorem CallV.intro {f : Nat} {args : List DV} {v : DV} (h : EvR vt (fun ih => callF vt ih f args) v) : CallV vt f args v := by
  obtain ⟨n, h⟩ := h
  refine ⟨n + 1, fun m hm => ?_⟩
  obtain ⟨m', rfl⟩ : ∃ m', m = m' + 1 := ⟨m - 1, by omega⟩
  exact h m' (by omega)
theorem AtV.intro {f id : Nat} {T : VT} {H : VH} {v : DV} (h : EvR vt (fun ih => atF vt ih f id T H) v) : AtV vt f id T H v := by
  obtain ⟨n, h⟩ := h
  refine ⟨n + 1, fun m hm => ?_⟩
  obtain ⟨m', rfl⟩ : ∃ m', m = m' + 1 := ⟨m - 1, by omega⟩
  exact h m' (by omega)
/-- By an equation for every answer below. -/
theorem CallV.by {f : Nat} {args : List DV} {v : DV} {F : VIh → Res} (e : ∀ ih, callF vt ih f args = F ih) (h : EvR vt F v) : CallV vt f args v :=
  CallV.intro (by simpa only [e] using h)
theorem AtV.by {f id : Nat} {T : VT} {H : VH} {v : DV} {F : VIh → Res} (e : ∀ ih, atF vt ih f id T H = F ih) (h : EvR vt F v) : AtV vt f id T H v :=
  AtV.intro (by simpa only [e] using h)
theorem EvR.ret {v : DV} : EvR vt (fun _ => some v) v := ⟨0, fun _ _ => rfl⟩
theorem EvR.ret' {v w : DV} (h : w = v) : EvR vt (fun _ => some w) v := h ▸ EvR.ret
theorem EvR.call {g : Nat} {a : List DV} {r v : DV} {k : DV → VIh → Res} (h : CallV vt g a r) (hk : EvR vt (k r) v) : EvR vt (fun ih => bindC (ih.call g a) (fun x => k x ih)) v := by
  obtain ⟨n, h⟩ := h
  obtain ⟨n', hk⟩ := hk
  refine ⟨n + n', fun m hm => ?_⟩
  have h1 := h m (by omega)
  have h2 := hk m (by omega)
  simp only [] at h1 ⊢
  rw [h1]
  exact h2
theorem EvR.at {f id : Nat} {T : VT} {H : VH} {v : DV} (h : AtV vt f id T H v) : EvR vt (fun ih => ih.at_ f id T H) v := h
theorem EvR.cond {b : Bool} {v : DV} {A B : VIh → Res} (h1 : b = true → EvR vt A v) (h2 : b = false → EvR vt B v) : EvR vt (fun ih => bif b then A ih else B ih) v := by
  cases b
  · exact h2 rfl
  · exact h1 rfl
theorem EvR.yes {b : Bool} {v : DV} {A B : VIh → Res} (hb : b = true) (h1 : EvR vt A v) : EvR vt (fun ih => bif b then A ih else B ih) v := by
  subst hb; exact h1
theorem EvR.no {b : Bool} {v : DV} {A B : VIh → Res} (hb : b = false) (h1 : EvR vt B v) : EvR vt (fun ih => bif b then A ih else B ih) v := by
  subst hb; exact h1
end Go.Vx
/- V: the arguments of a law, out of whatever memory: deep values, abstract blocks. -/
namespace Go.Vx
open Go.Sx Go.RowKit
/-! ### Shapes of arguments -/
inductive Sh where
  | int
  | bool
  | slice (ag : Bool) (row : List Sh)
mutual
/-- A deep value of a shape. -/
def Sh.ok : Bool → Sh → DV → Prop
  | _, .int, d => ∃ n : Int, d = .int n ∧ -9223372036854775808 ≤ n ∧ n ≤ 9223372036854775807
  | _, .bool, d => ∃ b, d = .bool b
  | tg, .slice ag row, d => ∃ rows, d = .list tg false row.length rows ∧ rows.length ≤ 9223372036854775807 ∧ ∀ r ∈ rows, (ag = true ∧ ∃ cs, r = .agg cs ∧ Sh.okL false row cs) ∨ (ag = false ∧ Sh.okL false row [r])
def Sh.okL : Bool → List Sh → List DV → Prop
  | _, [], ds => ds = []
  | tg, s :: l, ds => ∃ d r, ds = d :: r ∧ Sh.ok tg s d ∧ Sh.okL tg l r
end
theorem Sh.okL_append {tg : Bool} : ∀ {s : List Sh} {ds : List DV} {s' : List Sh} {ds' : List DV}, Sh.okL tg s ds → Sh.okL tg s' ds' → Sh.okL tg (s ++ s') (ds ++ ds')
  | [], ds, s', ds', h, h' => by simp only [Sh.okL] at h; subst h; exact h'
  | x :: s, ds, s', ds', h, h' => by
    simp only [Sh.okL] at h
    obtain ⟨d, r, rfl, h1, h2⟩ := h
    simp only [List.cons_append, Sh.okL]
    exact ⟨d, _, rfl, h1, Sh.okL_append h2 h'⟩
theorem Sh.okL_length {tg : Bool} : ∀ {s : List Sh} {ds : List DV}, Sh.okL tg s ds → ds.length = s.length
  | [], ds, h => by simp only [Sh.okL] at h; subst h; rfl
  | x :: s, ds, h => by
    simp only [Sh.okL] at h
    obtain ⟨d, r, rfl, _, h2⟩ := h
    simp [Sh.okL_length h2]
theorem Sh.ok_notAgg {tg : Bool} {s : Sh} {d : DV} (h : Sh.ok tg s d) : d.isAgg = false := by
  cases s <;> simp only [Sh.ok] at h
  · obtain ⟨n, rfl, _⟩ := h; rfl
  · obtain ⟨n, rfl⟩ := h; rfl
  · obtain ⟨n, rfl, _⟩ := h; rfl
/-! ### Blocks -/
abbrev BS := List (List AV × (Nat × Nat × Nat))
def envB (bs : BS) : Env := { ro := fun b => (bs[b]?).map (·.1), m0 := bs.length, rnd := false }
def phiB (bs : BS) : Phi := fun b => (bs[b]?).map (·.2)
def ctxB (bs : BS) : Ctx := cx (envB bs) Mem.nil (fun _ => False) (fun b => b < bs.length)
structure OKB (w : World) (bs : BS) : Prop where
  blk : ∀ (b : Nat) x, bs[b]? = some x → BlkAt (phiB bs) x.1 w x.2.1 x.2.2.1 x.2.2.2 false
  cell : ∀ (b : Nat) x, bs[b]? = some x → x.1.all AV.isCell = true
  ids : ∀ (b : Nat) x, bs[b]? = some x → ∀ i ∈ AV.idsL x.1, i < bs.length
theorem getB {bs t : BS} {b : Nat} {x} (h : bs[b]? = some x) : (bs ++ t)[b]? = some x := by
  rw [List.getElem?_append_left (List.getElem?_eq_some_iff.1 h).1]; exact h
theorem phiB_le (bs t : BS) : (phiB bs).Le (phiB (bs ++ t)) := fun b x h => by
  simp only [phiB, Option.map_eq_some_iff] at h ⊢
  obtain ⟨y, h1, h2⟩ := h
  exact ⟨y, getB h1, h2⟩
theorem cellsB {bs : BS} {b : Nat} {cs : List AV} : cellsOf (envB bs) Mem.nil b = some cs ↔ ∃ x, bs[b]? = some x ∧ x.1 = cs := by
  unfold cellsOf
  by_cases h : b < bs.length
  · rw [show Nat.blt b (envB bs).m0 = true from bltOf h, cond_true]
    simp [envB]
  · rw [show Nat.blt b (envB bs).m0 = false from bltOfN (by exact Nat.le_of_not_lt h), cond_false, Mem.get_nil]
    simp only [objCells]
    constructor
    · intro e; cases e
    · rintro ⟨x, h1, _⟩
      exact absurd (List.getElem?_eq_some_iff.1 h1).1 h
theorem sta_B {bs : BS} {m : Nat} {tg : Bool} {b : Nat} : Sta (ctxB bs) m tg b := ⟨cx_mut, fun _ h => h, fun j h => by cases h⟩
theorem extB (bs t : BS) : Ext (ctxB bs) (ctxB (bs ++ t)) 0 0 := by
  refine ⟨fun tg b cs _ hc => ⟨sta_B, ?_⟩, fun k a h => ?_, fun k o a h => ?_, fun k i o a h => ?_, fun k _ h => ?_⟩
  · obtain ⟨x, h1, h2⟩ := cellsB.1 hc
    exact cellsB.2 ⟨x, getB h1, h2⟩
  · obtain ⟨x, hx⟩ := h.some; simp [ctxB, cx, nthB] at hx
  · obtain ⟨x, hx⟩ := h.some; simp [ctxB, cx, nthB] at hx
  · obtain ⟨x, hx⟩ := h.some; simp [ctxB, cx, nthB] at hx
  · obtain ⟨x, hx⟩ := h; simp [ctxB, cx, nthB] at hx
theorem OKB.push {w : World} {bs : BS} (h : OKB w bs) {x : List AV × (Nat × Nat × Nat)} (h1 : BlkAt (phiB bs) x.1 w x.2.1 x.2.2.1 x.2.2.2 false) (h2 : x.1.all AV.isCell = true) (h3 : ∀ i ∈ AV.idsL x.1, i < bs.length) : OKB w (bs ++ [x]) := by
  have hc : ∀ (b : Nat) y, (bs ++ [x])[b]? = some y → bs[b]? = some y ∨ y = x := fun b y hy => by
    by_cases hb : b < bs.length
    · rw [List.getElem?_append_left hb] at hy; exact .inl hy
    · rw [List.getElem?_append_right (by omega)] at hy
      have := List.mem_of_getElem? hy
      exact .inr (by simpa using this)
  refine ⟨fun b y hy => ?_, fun b y hy => ?_, fun b y hy i hi => ?_⟩
  · rcases hc b y hy with e | rfl
    · exact (h.blk b y e).mono (phiB_le _ _)
    · exact h1.mono (phiB_le _ _)
  · rcases hc b y hy with e | rfl
    · exact h.cell b y e
    · exact h2
  · rw [List.length_append]
    rcases hc b y hy with e | rfl
    · have := h.ids b y e i hi; omega
    · have := h3 i hi; omega
theorem ntL_append : ∀ {a b : List DV}, ntL a → ntL b → ntL (a ++ b)
  | [], _, _, h => h
  | _ :: _, _, h, h' => by simp only [List.cons_append, ntL] at h ⊢; exact ⟨h.1, ntL_append h.2 h'⟩
/-- Cells that are opened: behind whatever blocks there are already. -/
def OpnA (w : World) (tg : Bool) (shs : List Sh) (cs : List Value) : Prop := ∀ bs, OKB w bs → ∃ t as ds, OKB w (bs ++ t) ∧ VRL (phiB (bs ++ t)) as cs ∧ RL (ctxB (bs ++ t)) 0 true ds as ∧ Sh.okL tg shs ds ∧ as.all AV.isCell = true ∧ (∀ i ∈ AV.idsL as, i < (bs ++ t).length) ∧ (tg = false → ntL ds)
variable {w : World}
theorem OpnA.nil {tg : Bool} : OpnA w tg [] [] := fun bs h => ⟨[], [], [], by simpa using h, VRL.nil, by simp [RL], by simp [Sh.okL], rfl, by simp [AV.idsL], fun _ => by simp [ntL]⟩
theorem OpnA.append {tg : Bool} {s s' : List Sh} {cs cs' : List Value} (h : OpnA w tg s cs) (h' : OpnA w tg s' cs') : OpnA w tg (s ++ s') (cs ++ cs') := fun bs hb => by
  obtain ⟨t, as, ds, a1, a2, a3, a4, a5, a6, a7⟩ := h bs hb
  obtain ⟨t', as', ds', b1, b2, b3, b4, b5, b6, b7⟩ := h' _ a1
  rw [List.append_assoc] at b1 b2 b3 b6
  refine ⟨t ++ t', as ++ as', ds ++ ds', b1, VRL.append ?_ b2, RL.append ?_ b3, Sh.okL_append a4 b4, by rw [List.all_append, a5, b5]; rfl, fun i hi => ?_, fun e => ntL_append (a7 e) (b7 e)⟩
  · have := VRL.mono (phiB_le (bs ++ t) t') _ _ a2
    rwa [List.append_assoc] at this
  · have := RL.mono (extB (bs ++ t) t') _ _ _ a3
    rwa [List.append_assoc] at this
  · rw [idsL_append] at hi
    rcases List.mem_append.1 hi with hi | hi
    · have := a6 i hi; simp only [List.length_append] at this ⊢; omega
    · exact b6 i hi
theorem OpnA.int {tg : Bool} {n : Int} (h : (Lit.int .i64 n).wf = true) : OpnA w tg [.int] [.int .i64 n] := fun bs hb => by
  refine ⟨[], [.int .i64 n], [.int n], by simpa using hb, VRL.one (by simp [VR]), by simp [RL, R], by
    simp only [Sh.okL, Sh.ok]
    refine ⟨_, _, rfl, ⟨n, rfl, ?_⟩, rfl⟩
    simpa [Lit.wf, IntKind.min, IntKind.max, IntKind.signed, IntKind.bits] using h, rfl, by simp [AV.idsL, AV.ids], fun _ => by simp [ntL, nt]⟩
theorem OpnA.bool {tg b : Bool} : OpnA w tg [.bool] [.bool b] := fun bs hb => by
  refine ⟨[], [.bool b], [.bool b], by simpa using hb, VRL.one (by simp [VR]), by simp [RL, R], by simp [Sh.okL, Sh.ok], rfl, by simp [AV.idsL, AV.ids], fun _ => by simp [ntL, nt]⟩
/-- Rows of a slice, one after the other. -/
theorem OpnA.rows {ag : Bool} {row : List Sh} {g off len : Nat} (hag : ag = false → row.length = 1) (hrow : ∀ i, i < len → ∃ cells, cells.length = row.length ∧ (∀ j, j < row.length → w.cell? ⟨g, off + (i * row.length + j), none⟩ = cells[j]?) ∧ OpnA w false row cells) {bs : BS} (hb : OKB w bs) :
    ∀ k, k ≤ len → ∃ t rcs rows, OKB w (bs ++ t) ∧ rows.length = k ∧ RRows (ctxB (bs ++ t)) 0 rows rcs ∧ (∀ l ∈ rcs, l.length = row.length) ∧ (∀ r ∈ rows, (ag = true ∧ ∃ cs, r = .agg cs ∧ Sh.okL false row cs) ∨ (ag = false ∧ Sh.okL false row [r])) ∧ ntL rows ∧
      (∀ (j : Nat) a, rcs.flatten[j]? = some a → ∃ v, w.cell? ⟨g, off + j, none⟩ = some v ∧ VR (phiB (bs ++ t)) a v) ∧ rcs.flatten.all AV.isCell = true ∧ (∀ i ∈ AV.idsL rcs.flatten, i < (bs ++ t).length)
  | 0, _ => ⟨[], [], [], by simpa using hb, rfl, by simp [RRows], by simp, by simp, by simp [ntL], by simp, rfl, by simp [AV.idsL]⟩
  | k + 1, hk => by
    obtain ⟨t, rcs, rows, a1, a2, a3, a4, a5, a6, a7, a8, a9⟩ := OpnA.rows hag hrow hb k (by omega)
    obtain ⟨cells, c1, c2, c3⟩ := hrow k (by omega)
    obtain ⟨t', as, ds, b1, b2, b3, b4, b5, b6, b7⟩ := c3 _ a1
    rw [List.append_assoc] at b1 b2 b3 b6
    have hal : as.length = row.length := by rw [← c1]; exact (b2.length).symm
    have hdl : ds.length = row.length := Sh.okL_length b4
    have hfl : rcs.flatten.length = k * row.length := by rw [flat_length a4, a3.length, a2]
    have a3' := RRows.mono (extB (bs ++ t) t') _ _ a3
    rw [List.append_assoc] at a3'
    have hd : ∃ d, RRows (ctxB (bs ++ (t ++ t'))) 0 [d] [as] ∧ ((ag = true ∧ ∃ cs, d = .agg cs ∧ Sh.okL false row cs) ∨ (ag = false ∧ Sh.okL false row [d])) ∧ nt d := by
      cases ag with
      | true =>
        refine ⟨.agg ds, ?_, .inl ⟨rfl, ds, rfl, b4⟩, by simp only [nt]; exact b7 rfl⟩
        simp only [RRows]
        exact ⟨as, [], rfl, .inl ⟨rfl, by simp only [R]; exact ⟨as, rfl, b3⟩⟩, by simp only [nt]; exact b7 rfl, rfl⟩
      | false =>
        have h1 := hag rfl
        obtain ⟨d, rfl⟩ : ∃ d, ds = [d] := by
          match ds, hdl with
          | [d], _ => exact ⟨d, rfl⟩
          | [], h => rw [h1] at h; simp at h
          | _ :: _ :: _, h => rw [h1] at h; simp at h
        simp only [RL] at b3
        obtain ⟨a, r, rfl, b3, rfl⟩ := b3
        have hnt : nt d := by have := b7 rfl; simp only [ntL] at this; exact this.1
        refine ⟨d, ?_, .inr ⟨rfl, b4⟩, hnt⟩
        simp only [RRows]
        refine ⟨[a], [], rfl, .inr ⟨?_, a, rfl, b3⟩, hnt, rfl⟩
        have hr : ∃ s, row = [s] := by
          match row, h1 with
          | [s], _ => exact ⟨s, rfl⟩
        obtain ⟨s, rfl⟩ := hr
        simp only [Sh.okL] at b4
        obtain ⟨d', r', e, b4, _⟩ := b4
        cases e
        exact Sh.ok_notAgg b4
    obtain ⟨d, d1, d2, d3⟩ := hd
    refine ⟨t ++ t', rcs ++ [as], rows ++ [d], b1, by simp [a2], RRows.append a3' d1, fun l hl => ?_, fun r hr => ?_, ntL_append a6 (by simp only [ntL]; exact ⟨d3, trivial⟩), fun j a hj => ?_, ?_, fun i hi => ?_⟩
    · rcases List.mem_append.1 hl with hl | hl
      · exact a4 l hl
      · rw [List.mem_singleton.1 hl]; exact hal
    · rcases List.mem_append.1 hr with hr | hr
      · exact a5 r hr
      · rw [List.mem_singleton.1 hr]; exact d2
    · rw [List.flatten_append, List.flatten_singleton] at hj
      by_cases hjl : j < rcs.flatten.length
      · rw [List.getElem?_append_left hjl] at hj
        obtain ⟨v, v1, v2⟩ := a7 j a hj
        refine ⟨v, v1, ?_⟩
        have := VR.mono (phiB_le (bs ++ t) t') _ _ v2
        rwa [List.append_assoc] at this
      · rw [List.getElem?_append_right (by omega), hfl] at hj
        have hja := (List.getElem?_eq_some_iff.1 hj).1
        obtain ⟨v, v1, v2⟩ := b2.get hj
        refine ⟨v, ?_, v2⟩
        have := c2 (j - k * row.length) (by omega)
        rw [show off + j = off + (k * row.length + (j - k * row.length)) by omega, this]
        exact v1
    · rw [List.flatten_append, List.flatten_singleton, List.all_append, a8, b5]; rfl
    · rw [List.flatten_append, List.flatten_singleton, idsL_append] at hi
      rcases List.mem_append.1 hi with hi | hi
      · have := a9 i hi; simp only [List.length_append] at this ⊢; omega
      · exact b6 i hi
/-- A slice. -/
theorem OpnA.slice {tg ag : Bool} {row : List Sh} {a : Addr} {len cap : Nat} (h0 : 0 < row.length) (hlc : len ≤ cap) (hcap : cap ≤ 9223372036854775807) (hag : ag = false → row.length = 1) (hrow : ∀ i, i < len → ∃ cells, cells.length = row.length ∧ (∀ j, j < row.length → w.cell? ((a.add (i * row.length)).add j) = cells[j]?) ∧ OpnA w false row cells) :
    OpnA w tg [.slice ag row] [.slice (some a) len cap] := fun bs hb => by
  by_cases hl : len = 0
  · subst hl
    refine ⟨[], [.emp (decide (cap = 0))], [.list tg false row.length []], by simpa using hb, VRL.one ?_, ?_, ?_, rfl, by simp [AV.idsL, AV.ids], fun e => ?_⟩
    · simp only [VR]; exact ⟨a, cap, rfl, by simp⟩
    · simp only [RL, R]
      exact ⟨_, _, rfl, ⟨[], by simp [RRows], by simp, .inl ⟨rfl, .inr ⟨_, rfl, by simp⟩⟩⟩, rfl⟩
    · simp only [Sh.okL, Sh.ok]
      exact ⟨_, _, rfl, ⟨[], rfl, by simp, by simp⟩, rfl⟩
    · subst e; simp [ntL, nt]
  · obtain ⟨g, off, rfl⟩ : ∃ g off, a = ⟨g, off, none⟩ := by
      obtain ⟨cells, c1, c2, _⟩ := hrow 0 (by omega)
      have h := c2 0 h0
      rw [Nat.zero_mul] at h
      have hx : cells[0]? = some cells[0] := by simp
      rw [hx] at h
      have := World.cell?_spot h
      obtain ⟨g, off, spot⟩ := a
      simp only [Addr.add, if_true] at this
      exact ⟨g, off, by simp_all⟩
    have hrow' : ∀ i, i < len → ∃ cells, cells.length = row.length ∧ (∀ j, j < row.length → w.cell? ⟨g, off + (i * row.length + j), none⟩ = cells[j]?) ∧ OpnA w false row cells := fun i hi => by
      obtain ⟨cells, c1, c2, c3⟩ := hrow i hi
      refine ⟨cells, c1, fun j hj => ?_, c3⟩
      rw [← c2 j hj, add_at, add_at, Nat.add_assoc]
    obtain ⟨t, rcs, rows, a1, a2, a3, a4, a5, a6, a7, a8, a9⟩ := OpnA.rows hag hrow' hb len (Nat.le_refl _)
    have hfl : rcs.flatten.length = len * row.length := by rw [flat_length a4, a3.length, a2]
    have hpos : 0 < len * row.length := Nat.mul_pos (by omega) h0
    have hget : ∀ j, j < len * row.length → ∃ v, w.cell? ⟨g, off + j, none⟩ = some v := fun j hj => by
      obtain ⟨v, v1, _⟩ := a7 j rcs.flatten[j] (by rw [List.getElem?_eq_getElem])
      exact ⟨v, v1⟩
    have hblk : ∃ c e fr, w.heap[g]? = some (.cells c e fr) := by
      obtain ⟨v, hv⟩ := hget 0 hpos
      unfold World.cell? at hv
      split at hv
      · rename_i c e fr he; exact ⟨c, e, fr, he⟩
      · cases hv
    obtain ⟨c, e, fr, he⟩ := hblk
    have hB : BlkAt (phiB (bs ++ t)) rcs.flatten w g off (len * row.length) false := by
      refine ⟨c, e, fr, he, ?_, by omega, fun j x hj => ?_, by simp⟩
      · obtain ⟨v, hv⟩ := hget (len * row.length - 1) (by omega)
        rw [cell_at he] at hv
        have := (Array.getElem?_eq_some_iff.1 hv).1
        omega
      · obtain ⟨v, v1, v2⟩ := a7 j x hj
        rw [cell_at he] at v1
        exact ⟨v, v1, v2⟩
    have hP := a1.push (x := (rcs.flatten, (g, off, len * row.length))) hB a8 a9
    rw [List.append_assoc] at hP
    have hn : (bs ++ (t ++ [(rcs.flatten, (g, off, len * row.length))]))[(bs ++ t).length]? = some (rcs.flatten, (g, off, len * row.length)) := by
      rw [← List.append_assoc, List.getElem?_append_right (Nat.le_refl _)]; simp
    refine ⟨t ++ [(rcs.flatten, (g, off, len * row.length))], [.slice (bs ++ t).length 0 len cap 0], [.list tg false row.length rows], hP, VRL.one ?_, ?_, ?_, rfl, fun i hi => ?_, fun et => ?_⟩
    · simp only [VR]
      exact ⟨g, off, len * row.length, cap, by simp only [phiB, hn]; rfl, rfl, hlc, Nat.le_refl _, fun _ => rfl, fun h => absurd h (by omega)⟩
    · simp only [RL, R]
      have a3' := RRows.mono (extB (bs ++ t) [(rcs.flatten, (g, off, len * row.length))]) _ _ a3
      rw [List.append_assoc] at a3'
      refine ⟨_, _, rfl, ⟨rcs, a3', a4, .inr ⟨_, 0, cap, 0, by rw [a2], .inl rfl, ⟨by rw [a2]; exact hlc, fun _ => rfl, by simp⟩, sta_B, ?_⟩⟩, rfl⟩
      unfold rd
      have : cellsOf (envB (bs ++ (t ++ [(rcs.flatten, (g, off, len * row.length))]))) Mem.nil (bs ++ t).length = some rcs.flatten := cellsB.2 ⟨_, hn, rfl⟩
      show rdIn 0 (rows.length * row.length) (cellsOf (envB _) Mem.nil _) = _
      rw [this, a2]
      simp only [rdIn]
      rw [show Nat.ble (0 + len * row.length) rcs.flatten.length = true from Nat.ble_eq_true_of_le (by omega), cond_true, List.drop_zero, ← hfl, List.take_length]
    · simp only [Sh.okL, Sh.ok]
      exact ⟨_, _, rfl, ⟨rows, rfl, by omega, a5⟩, rfl⟩
    · simp only [AV.idsL, AV.ids, List.append_nil, List.mem_singleton] at hi
      subst hi
      rw [← List.append_assoc, List.length_append]
      simp
    · subst et; simp only [ntL, nt]; exact ⟨⟨trivial, a6⟩, trivial⟩
theorem OpnA.nilSlice {tg ag : Bool} {row : List Sh} : OpnA w tg [.slice ag row] [.slice none 0 0] := fun bs hb => by
  refine ⟨[], [.nils], [.list tg false row.length []], by simpa using hb, VRL.one (by simp [VR]), ?_, ?_, rfl, by simp [AV.idsL, AV.ids], fun e => ?_⟩
  · simp only [RL, R]
    exact ⟨_, _, rfl, ⟨[], by simp [RRows], by simp, .inl ⟨rfl, .inl rfl⟩⟩, rfl⟩
  · simp only [Sh.okL, Sh.ok]
    exact ⟨_, _, rfl, ⟨[], rfl, by simp, by simp⟩, rfl⟩
  · subst e; simp [ntL, nt]
end Go.Vx
/- V: the arguments of a law by their types; from a law's V-run to its call in the world. -/
namespace Go.Vx
open Go.Sx Go.RowKit
def isAggT (P : Program) (t : Nat) : Bool := match P.underlying t with
  | some (.struct _) => true
  | some (.array _ _) => true
  | _ => false
def slSh (ag : Bool) (s : Nat) : Option (List Sh) → Option (List Sh)
  | some r => bif Nat.beq r.length s && (Nat.blt 0 s && (ag || Nat.beq s 1)) then some [.slice ag r] else none
  | none => none
def fldsSh (P : Program) (sh : Nat → Option (List Sh)) (total : Nat) : Nat → List Field → Option (List Sh)
  | off, [] => bif Nat.beq off total then some [] else none
  | off, f :: l => match sh f.type with
    | some r => bif Nat.beq f.offset off && Nat.beq r.length (P.cellsOf f.type) then (match fldsSh P sh total (off + r.length) l with
      | some q => some (r ++ q)
      | none => none) else none
    | none => none
def repSh (r : List Sh) : Nat → List Sh
  | 0 => []
  | n + 1 => r ++ repSh r n
def arrSh (total s n : Nat) : Option (List Sh) → Option (List Sh)
  | some r => bif Nat.beq r.length s && Nat.beq total (n * s) then some (repSh r n) else none
  | none => none
/-- The shapes of the cells of a type. -/
def shOf (P : Program) : Nat → Nat → Option (List Sh)
  | 0, _ => none
  | n + 1, t => match P.underlying t with
    | some .bool => some [.bool]
    | some (.int .i64) => some [.int]
    | some (.slice e) => slSh (isAggT P e) (P.cellsOf e) (shOf P n e)
    | some (.struct fs) => fldsSh P (shOf P n) (P.cellsOf t) 0 fs.toList
    | some (.array k e) => arrSh (P.cellsOf t) (P.cellsOf e) k (shOf P n e)
    | _ => none
theorem mapM_each {α β : Type} {f : α → Option β} : ∀ {l : List α} {r : List β}, l.mapM f = some r → ∀ x ∈ l, ∃ y, f x = some y := by
  intro l
  induction l with
  | nil => intro r _ x hx; simp at hx
  | cons a l ih =>
    intro r h x hx
    rw [List.mapM_cons] at h
    cases ha : f a with
    | none => simp [ha] at h
    | some y => cases hl : l.mapM f with
      | none => simp [ha, hl] at h
      | some ys =>
        rcases List.mem_cons.1 hx with rfl | hx
        · exact ⟨y, ha⟩
        · exact ih hl x hx
theorem mapM_get {α β : Type} {f : α → Option β} : ∀ {l : List α} {r : List β}, l.mapM f = some r → r.length = l.length ∧ ∀ (i : Nat) a, l[i]? = some a → f a = r[i]? := by
  intro l
  induction l with
  | nil => intro r h; simp at h; subst h; simp
  | cons a l ih =>
    intro r h
    rw [List.mapM_cons] at h
    cases ha : f a with
    | none => simp [ha] at h
    | some y => cases hl : l.mapM f with
      | none => simp [ha, hl] at h
      | some ys =>
        simp [ha, hl] at h
        subst h
        obtain ⟨h1, h2⟩ := ih hl
        refine ⟨by simp [h1], fun i b hb => ?_⟩
        cases i with
        | zero => simp at hb; subst hb; simpa using ha
        | succ i => simp at hb; simpa using h2 i b hb
theorem cells?_get {w : World} {base : Nat} {a : Addr} {n : Nat} {cs : List Value} (h : w.cells? base a n = some cs) : cs.length = n ∧ ∀ j, j < n → w.cell? (a.add j) = cs[j]? := by
  unfold World.cells? at h
  split at h
  · obtain ⟨h1, h2⟩ := mapM_get h
    refine ⟨by simpa using h1, fun j hj => h2 j j (by simp [hj])⟩
  · cases h
section
variable {H : Type} {enc : TypeId × Value → H} {P : Program} {w : World} {base : Nat} {spare : Nat → Bool} {held : Bool}
theorem OpnA.flds {tg : Bool} {sh : Nat → Option (List Sh)} {cs : List Value} {total : Nat} (hl : cs.length = total) : ∀ (l : List Field) (off : Nat) (shs : List Sh), (∀ f ∈ l, ∀ r, sh f.type = some r → OpnA w tg r ((cs.drop f.offset).take (P.cellsOf f.type))) → fldsSh P sh total off l = some shs → OpnA w tg shs (cs.drop off)
  | [], off, shs, _, h => by
    simp only [fldsSh] at h
    cases hb : Nat.beq off total with
    | false => rw [hb] at h; cases h
    | true =>
      rw [hb] at h; cases h
      have := beqT hb
      rw [List.drop_eq_nil_of_le (by omega)]
      exact OpnA.nil
  | f :: l, off, shs, hf, h => by
    simp only [fldsSh] at h
    cases hs : sh f.type with
    | none => rw [hs] at h; cases h
    | some r =>
      rw [hs] at h
      simp only [] at h
      cases hb : (Nat.beq f.offset off && Nat.beq r.length (P.cellsOf f.type)) with
      | false => rw [hb] at h; cases h
      | true =>
        rw [hb, cond_true] at h
        simp only [Bool.and_eq_true] at hb
        have e1 := beqT hb.1
        have e2 := beqT hb.2
        cases hq : fldsSh P sh total (off + r.length) l with
        | none => rw [hq] at h; cases h
        | some q =>
          rw [hq] at h; cases h
          have h1 := hf f (by simp) r hs
          have h2 := OpnA.flds hl l (off + r.length) q (fun g hg => hf g (by simp [hg])) hq
          have := h1.append h2
          rw [e1, ← e2, ← List.drop_drop, List.take_append_drop] at this
          exact this
theorem OpnA.rep {tg : Bool} {r : List Sh} {s : Nat} : ∀ (n : Nat) (cs : List Value), cs.length = n * s → (∀ i, i < n → OpnA w tg r ((cs.drop (i * s)).take s)) → OpnA w tg (repSh r n) cs
  | 0, cs, hl, _ => by
    rw [Nat.zero_mul] at hl
    rw [List.eq_nil_of_length_eq_zero hl]
    exact OpnA.nil
  | n + 1, cs, hl, h => by
    have h0 := h 0 (by omega)
    rw [Nat.zero_mul, List.drop_zero] at h0
    have hs : (n + 1) * s = n * s + s := Nat.succ_mul n s
    have h1 := OpnA.rep (tg := tg) (r := r) (s := s) n (cs.drop s) (by rw [List.length_drop, hl]; omega) (fun i hi => by
      have := h (i + 1) (by omega)
      rw [show (i + 1) * s = s + i * s by rw [Nat.succ_mul]; omega, ← List.drop_drop] at this
      exact this)
    have := h0.append h1
    rwa [List.take_append_drop] at this
/-- Whatever reads as data of a type of known shape can be opened. -/
theorem open_trod : ∀ (m : Nat) (t : TypeId) (shs : List Sh), shOf P m t = some shs → ∀ (n : Nat) (cs : List Value) (x : DataW H × List MemPlace) (tg : Bool), DataW.trod enc P w base spare held n t cs = some x → OpnA w tg shs cs
  | 0, _, _, hs => by simp [shOf] at hs
  | m + 1, t, shs, hs => by
    simp only [shOf] at hs
    intro n cs x tg h
    split at hs
    · rename_i hu
      cases hs
      obtain ⟨b, rfl, _⟩ := DataW.trod_bool hu h
      exact OpnA.bool
    · rename_i hu
      cases hs
      obtain ⟨k, rfl, _, hw⟩ := DataW.trod_int hu h
      exact OpnA.int hw
    · rename_i e hu
      cases hr : shOf P m e with
      | none => rw [hr] at hs; simp [slSh] at hs
      | some r =>
        rw [hr] at hs
        simp only [slSh] at hs
        cases hb : (Nat.beq r.length (P.cellsOf e) && (Nat.blt 0 (P.cellsOf e) && (isAggT P e || Nat.beq (P.cellsOf e) 1))) with
        | false => rw [hb] at hs; cases hs
        | true =>
          rw [hb] at hs
          cases hs
          simp only [Bool.and_eq_true, Bool.or_eq_true] at hb
          obtain ⟨b1, b2, b3⟩ := hb
          have b1 := beqT b1
          have b2 := bltT b2
          rcases DataW.trod_slice hu h with ⟨rfl, _⟩ | ⟨a, len, cap, elems, rest, n', rfl, rfl, _, _, c1, c2, c3, c4, _⟩
          · exact OpnA.nilSlice
          · refine OpnA.slice (by omega) c1 (Nat.le_trans c2 (by decide)) (fun hag => ?_) (fun i hi => ?_)
            · rcases b3 with b3 | b3
              · rw [b3] at hag; cases hag
              · rw [b1]; exact beqT b3
            · have := c4 i hi
              rw [List.getElem?_eq_getElem (by omega)] at this
              simp only [Option.bind_eq_some_iff] at this
              obtain ⟨cells, d1, d2⟩ := this
              obtain ⟨d3, d4⟩ := cells?_get d1
              rw [b1]
              exact ⟨cells, d3, d4, open_trod m e r hr n' cells _ false d2⟩
    · rename_i fs hu
      obtain ⟨xs, n', rfl, _, h1, h2, h3⟩ := DataW.trod_struct hu h
      have := OpnA.flds (w := w) (tg := tg) h1 fs.toList 0 shs (fun f hf r hr => ?_) hs
      · simpa using this
      · obtain ⟨i, hi, rfl⟩ := List.mem_iff_getElem.1 hf
        have hx := h3 i fs.toList[i] (by simp)
        have hi' : i < xs.length := by rw [h2]; simpa using hi
        rw [List.getElem?_eq_getElem hi'] at hx
        exact open_trod m _ r hr n' _ _ tg hx
    · rename_i k e hu
      cases hr : shOf P m e with
      | none => rw [hr] at hs; simp [arrSh] at hs
      | some r =>
        rw [hr] at hs
        simp only [arrSh] at hs
        cases hb : (Nat.beq r.length (P.cellsOf e) && Nat.beq (P.cellsOf t) (k * P.cellsOf e)) with
        | false => rw [hb] at hs; cases hs
        | true =>
          rw [hb] at hs
          cases hs
          simp only [Bool.and_eq_true] at hb
          have b1 := beqT hb.1
          have b2 := beqT hb.2
          obtain ⟨xs, n', rfl, _, h1, h2, h3⟩ := DataW.trod_array hu h
          refine OpnA.rep k cs (by rw [h1, b2]) (fun i hi => ?_)
          have hx := h3 i hi
          rw [List.getElem?_eq_getElem (by omega)] at hx
          exact open_trod m e r hr n' _ _ tg hx
    · cases hs
/-- An argument's shape. -/
structure ASh where
  ag : Bool
  row : List Sh
def aShO (ag : Bool) : Option (List Sh) → Option ASh
  | some r => bif ag || Nat.beq r.length 1 then some ⟨ag, r⟩ else none
  | none => none
def consA : Option ASh → Option (List ASh) → Option (List ASh)
  | some a, some r => some (a :: r)
  | _, _ => none
def argsSh (P : Program) : List TypeId → Option (List ASh)
  | [] => some []
  | t :: l => consA (aShO (isAggT P t) (shOf P 12 t)) (argsSh P l)
def argOk (s : ASh) (d : DV) : Prop := (s.ag = true ∧ ∃ cs, d = .agg cs ∧ Sh.okL true s.row cs) ∨ (s.ag = false ∧ Sh.okL true s.row [d])
def argsOk : List ASh → List DV → Prop
  | [], ds => ds = []
  | s :: l, ds => ∃ d r, ds = d :: r ∧ argOk s d ∧ argsOk l r
theorem isAggT_form {r : Reach} {b : Nat} {t : TypeId} {v : Value} (hv : Value.okWide P w r b t v) (h : isAggT P t = true) : ∃ cs, v = .agg cs := by
  unfold isAggT at h
  unfold Value.okWide at hv
  split at h
  · rename_i hu; rw [hu] at hv; obtain ⟨cs, rfl, _⟩ := hv; exact ⟨cs, rfl⟩
  · rename_i hu; rw [hu] at hv; obtain ⟨cs, rfl, _⟩ := hv; exact ⟨cs, rfl⟩
  · cases h
theorem notAgg_form {r : Reach} {b : Nat} {t : TypeId} {v : Value} (hv : Value.okWide P w r b t v) {m : Nat} {shs : List Sh} (hs : shOf P m t = some shs) (h : isAggT P t = false) : v.cells.toList = [v] := by
  unfold isAggT at h
  unfold Value.okWide at hv
  cases m with
  | zero => simp [shOf] at hs
  | succ m =>
    simp only [shOf] at hs
    split at hs
    · rename_i hu
      rw [hu] at hv
      unfold Cell.okWide at hv; rw [hu] at hv
      simp only [] at hv
      unfold Cell.ok at hv; rw [hu] at hv
      cases v <;> simp at hv <;> rfl
    · rename_i hu
      rw [hu] at hv
      unfold Cell.okWide at hv; rw [hu] at hv
      simp only [] at hv
      unfold Cell.ok at hv; rw [hu] at hv
      cases v <;> simp at hv <;> rfl
    · rename_i hu
      rw [hu] at hv
      unfold Cell.okWide at hv; rw [hu] at hv
      simp only [] at hv
      unfold Cell.ok at hv; rw [hu] at hv
      cases v <;> simp at hv <;> rfl
    · rename_i hu; rw [hu] at h; simp at h
    · rename_i hu; rw [hu] at h; simp at h
    · cases hs
theorem open_arg {r : Reach} {b : Nat} {t : TypeId} {v : Value} {d : DataW H} {ps : List MemPlace} {s : ASh} (hv : Value.okWide P w r b t v) (ht : DataW.Trod enc P w base spare held t v d ps) (hs : aShO (isAggT P t) (shOf P 12 t) = some s) {bs : BS} (hb : OKB w bs) :
    ∃ t' a dv, OKB w (bs ++ t') ∧ VR (phiB (bs ++ t')) a v ∧ R (ctxB (bs ++ t')) 0 true dv a ∧ argOk s dv := by
  obtain ⟨n, hn⟩ := ht
  cases hr : shOf P 12 t with
  | none => rw [hr] at hs; simp [aShO] at hs
  | some row =>
    rw [hr] at hs
    simp only [aShO] at hs
    have hO := open_trod 12 t row hr n _ _ true hn
    obtain ⟨t', as, ds, a1, a2, a3, a4, _⟩ := hO bs hb
    cases hag : isAggT P t with
    | true =>
      rw [hag, Bool.true_or, cond_true] at hs
      cases hs
      obtain ⟨cs, rfl⟩ := isAggT_form hv hag
      refine ⟨t', .agg as, .agg ds, a1, ?_, ?_, .inl ⟨rfl, ds, rfl, a4⟩⟩
      · simp only [VR]
        exact ⟨cs.toList, rfl, a2⟩
      · simp only [R]; exact ⟨as, rfl, a3⟩
    | false =>
      rw [hag, Bool.false_or] at hs
      cases hl : Nat.beq row.length 1 with
      | false => rw [hl] at hs; cases hs
      | true =>
        rw [hl] at hs
        cases hs
        have hl := beqT hl
        rw [notAgg_form hv hr hag] at a2
        have hdl := Sh.okL_length a4
        obtain ⟨dv, rfl⟩ : ∃ dv, ds = [dv] := by
          match ds, hdl with
          | [d], _ => exact ⟨d, rfl⟩
          | [], h => rw [hl] at h; simp at h
          | _ :: _ :: _, h => rw [hl] at h; simp at h
        simp only [RL] at a3
        obtain ⟨a, q, rfl, a3, rfl⟩ := a3
        simp only [VRL] at a2
        obtain ⟨v', q', e, a2, _⟩ := a2
        cases e
        exact ⟨t', a, dv, a1, a2, a3, .inr ⟨rfl, a4⟩⟩
theorem open_all {r : Reach} {b : Nat} : ∀ {ts : List TypeId} {vs : List Value} {ds : List (DataW H)} {ps : List MemPlace} {l : List ASh}, (∀ (j : Nat) t v, ts[j]? = some t → vs[j]? = some v → Value.okWide P w r b t v) → DataW.TrodAll enc P w base spare held ts vs ds ps → argsSh P ts = some l → ∀ {bs : BS}, OKB w bs →
    ∃ t' as dvs, OKB w (bs ++ t') ∧ VRL (phiB (bs ++ t')) as vs ∧ RL (ctxB (bs ++ t')) 0 true dvs as ∧ argsOk l dvs
  | [], [], [], ps, l, _, _, hs, bs, hb => by
    simp only [argsSh, Option.some.injEq] at hs; subst hs
    exact ⟨[], [], [], by simpa using hb, VRL.nil, by simp [RL], by simp [argsOk]⟩
  | t :: ts, v :: vs, d :: ds, ps, l, hv, ht, hs, bs, hb => by
    obtain ⟨p, q, h1, h2, _⟩ := ht
    simp only [argsSh] at hs
    cases ha : aShO (isAggT P t) (shOf P 12 t) with
    | none => rw [ha] at hs; simp [consA] at hs
    | some s => cases hq : argsSh P ts with
      | none => rw [ha, hq] at hs; simp [consA] at hs
      | some l' =>
        rw [ha, hq] at hs
        simp only [consA, Option.some.injEq] at hs; subst hs
        obtain ⟨t1, a, dv, a1, a2, a3, a4⟩ := open_arg (hv 0 t v rfl rfl) h1 ha hb
        obtain ⟨t2, as, dvs, b1, b2, b3, b4⟩ := open_all (fun j t v h h' => hv (j + 1) t v h h') h2 hq a1
        rw [List.append_assoc] at b1 b2 b3
        refine ⟨t1 ++ t2, a :: as, dv :: dvs, b1, ?_, ?_, by simp only [argsOk]; exact ⟨dv, dvs, rfl, a4, b4⟩⟩
        · simp only [VRL]
          have := VR.mono (phiB_le (bs ++ t1) t2) _ _ a2
          rw [List.append_assoc] at this
          exact ⟨v, vs, rfl, this, b2⟩
        · simp only [RL]
          have := R.mono (extB (bs ++ t1) t2) _ _ _ a3
          rw [List.append_assoc] at this
          exact ⟨a, as, rfl, this, b3⟩
  | [], _ :: _, _, _, _, _, h, _, _, _ => h.elim
  | [], [], _ :: _, _, _, _, h, _, _, _ => h.elim
  | _ :: _, [], _, _, _, _, h, _, _, _ => h.elim
  | _ :: _, _ :: _, [], _, _, _, h, _, _, _ => h.elim
/-- **A law whose V-run answers true is true in the world.** -/
theorem law_calls {vt : VTab} (hkeep : VOK vt) (hM : MarksOK vt) (hT : ∀ big, TabOK P (stab vt big)) {f : Nat} {ts : List TypeId} {l : List ASh} (hP : argsSh P ts = some l) (hlaw : ∀ dvs, argsOk l dvs → CallV vt f dvs (.bool true))
    {r : Reach} {b : Nat} {args : Array Value} {ds : List (DataW H)} {ps : List MemPlace} (hv : ∀ (j : Nat) t v, ts[j]? = some t → args[j]? = some v → Value.okWide P w r b t v) (ht : DataW.TrodAll enc P w base spare held ts args.toList ds ps) :
    Calls P f args w (fun e w' => e = .returned (.bool true) ∧ Below w.heap.size w w') := by
  obtain ⟨bs, as, dvs, a1, a2, a3, a4⟩ := open_all (bs := []) (fun j t v h h' => hv j t v h (by simpa using h')) ht hP ⟨fun b x h => by simp at h, fun b x h => by simp at h, fun b x h => by simp at h⟩
  rw [List.nil_append] at a1 a2 a3
  obtain ⟨n, hn⟩ := hlaw dvs a4
  have hcall := hn n (Nat.le_refl _)
  obtain ⟨n0, hC⟩ := (soundV hkeep hM n).1 f dvs (.bool true) hcall
  have hp : Hp (ctxB bs) 0 := by
    refine cx_hp (fun b h => h.elim) (fun i h => h) (fun b cs h => ?_) (fun b cs hb h => ?_) (fun b cs hb h => ?_)
    · obtain ⟨x, h1, rfl⟩ := cellsB.1 h; exact a1.cell b x h1
    · simp only [envB, Option.map_eq_some_iff] at h
      obtain ⟨x, h1, rfl⟩ := h
      exact ⟨hb, a1.ids b x h1⟩
    · obtain ⟨x, h1, _⟩ := cellsB.1 h
      exact absurd (List.getElem?_eq_some_iff.1 h1).1 (by exact Nat.not_lt.2 hb)
  obtain ⟨a, Mc, c1, c2, c3, c4⟩ := hC n0 (Nat.le_refl _) n0 (Nat.le_refl _) (envB bs) _ _ as rfl hp a3
  simp only [R] at c3
  subst c3
  have hnil : ∀ k, heapOf (envB bs) Mem.nil k = none := fun k => by
    simp only [heapOf]
    split
    · rfl
    · exact Mem.get_nil _
  have hs := (sound (hT n0) n0 _ _ _ _ _ _ c1 rfl).2 (phiB bs) w w args.toList (fun b cs hb h => by
      simp only [envB, Option.map_eq_some_iff] at h
      obtain ⟨x, h1, rfl⟩ := h
      exact ⟨x.2.1, x.2.2.1, x.2.2.2, by simp only [phiB, h1]; rfl, a1.blk b x h1⟩)
    ⟨Below.refl _ _, fun k o hk => (by rw [hnil] at hk; cases hk), fun k k' o o' x x' _ hk => (by rw [hnil] at hk; cases hk)⟩ a2 (fun k hk => by
      have hk' : bs.length ≤ k := hk
      simp only [phiB, List.getElem?_eq_none hk']; rfl)
  refine (callsIn_wide.1 (hs.mono ?_))
  rintro e w' ⟨vC, rfl, φ', k1, _, _, k4, _⟩
  simp only [VR] at k1
  subst k1
  exact ⟨rfl, k4.below⟩
theorem trodAll_below (hl : laidOutB P = true) {w' : World} (hb : Below w.heap.size w w') : ∀ {ts : List TypeId} {vs : List Value} {ds : List (DataW H)} {ps : List MemPlace}, (ts.all fun t => P.readableRec t && decide (t < P.types.size)) = true → DataW.TrodAll enc P w 0 (fun _ => true) true ts vs ds ps → (∀ x ∈ ps, x.block < w.heap.size) →
    DataW.TrodAll enc P w' 0 (fun b => decide (b < w.heap.size)) true ts vs ds ps
  | [], [], [], _, _, h, _ => h
  | t :: ts, v :: vs, d :: ds, ps, hr, ⟨p, q, h1, h2, e⟩, hlt => by
    subst e
    simp only [List.all_cons, Bool.and_eq_true, decide_eq_true_eq] at hr
    exact ⟨p, q, Below.trod hl hr.1.1 hr.1.2 h1 hb (fun x hx => hlt x (by simp [hx])), trodAll_below hl hb hr.2 h2 (fun x hx => hlt x (by simp [hx])), rfl⟩
  | [], _ :: _, _, _, _, h, _ => h.elim
  | [], [], _ :: _, _, _, h, _ => h.elim
  | _ :: _, [], _, _, _, h, _ => h.elim
  | _ :: _, _ :: _, [], _, _, h, _ => h.elim
end
theorem rows_ints : ∀ {rows : List DV}, (∀ r ∈ rows, (false = true ∧ ∃ cs, r = DV.agg cs ∧ Sh.okL false [.int] cs) ∨ (false = false ∧ Sh.okL false [.int] [r])) → ∃ l : List Int, rows = l.map DV.int ∧ ∀ n ∈ l, -9223372036854775808 ≤ n ∧ n ≤ 9223372036854775807
  | [], _ => ⟨[], rfl, by simp⟩
  | r :: rows, h => by
    obtain ⟨l, rfl, hl⟩ := rows_ints (fun x hx => h x (List.mem_cons_of_mem _ hx))
    rcases h r (by simp) with ⟨e, _⟩ | ⟨_, h⟩
    · cases e
    · simp only [Sh.okL, Sh.ok] at h
      obtain ⟨d, q, e, ⟨n, rfl, hn⟩, rfl⟩ := h
      cases e
      refine ⟨n :: l, rfl, fun x hx => ?_⟩
      rcases List.mem_cons.1 hx with rfl | hx
      · exact hn
      · exact hl x hx
/-- A slice of ints. -/
theorem Sh.ok_ints {tg : Bool} {d : DV} (h : Sh.ok tg (.slice false [.int]) d) : ∃ l : List Int, d = .list tg false 1 (l.map DV.int) ∧ l.length ≤ 9223372036854775807 ∧ ∀ n ∈ l, -9223372036854775808 ≤ n ∧ n ≤ 9223372036854775807 := by
  unfold Sh.ok at h
  obtain ⟨rows, rfl, h1, h2⟩ := h
  obtain ⟨l, rfl, h3⟩ := rows_ints h2
  exact ⟨l, rfl, by simpa using h1, h3⟩
theorem rows_lists : ∀ {rows : List DV}, (∀ r ∈ rows, (false = true ∧ ∃ cs, r = DV.agg cs ∧ Sh.okL false [.slice false [.int]] cs) ∨ (false = false ∧ Sh.okL false [.slice false [.int]] [r])) → ∃ im : List (List Int), rows = im.map (fun l => .list false false 1 (l.map DV.int))
  | [], _ => ⟨[], rfl⟩
  | r :: rows, h => by
    obtain ⟨im, rfl⟩ := rows_lists (fun x hx => h x (List.mem_cons_of_mem _ hx))
    rcases h r (by simp) with ⟨e, _⟩ | ⟨_, h⟩
    · cases e
    · simp only [Sh.okL] at h
      obtain ⟨d, q, e, h, rfl⟩ := h
      cases e
      obtain ⟨l, rfl, _⟩ := Sh.ok_ints h
      exact ⟨l :: im, rfl⟩
/-- A slice of slices of ints. -/
theorem Sh.ok_lists {tg : Bool} {d : DV} (h : Sh.ok tg (.slice false [.slice false [.int]]) d) : ∃ im : List (List Int), d = .list tg false 1 (im.map (fun l => .list false false 1 (l.map DV.int))) ∧ im.length ≤ 9223372036854775807 := by
  unfold Sh.ok at h
  obtain ⟨rows, rfl, h1, h2⟩ := h
  obtain ⟨im, rfl⟩ := rows_lists h2
  exact ⟨im, rfl, by simpa using h1⟩
theorem Sh.ok_int {tg : Bool} {d : DV} (h : Sh.ok tg .int d) : ∃ n : Int, d = .int n ∧ -9223372036854775808 ≤ n ∧ n ≤ 9223372036854775807 := by
  unfold Sh.ok at h; exact h
theorem Sh.ok_bool {tg : Bool} {d : DV} (h : Sh.ok tg .bool d) : ∃ b, d = .bool b := by
  unfold Sh.ok at h; exact h
end Go.Vx
/- V: copies of slices (slices.Clone), as they are known. -/
namespace Go.Vx
open Go.Sx Go.RowKit
def bodyOf (f : Func) : Code := match f.body with
  | some c => c
  | none => .skip
def sq1 : Code → Code
  | .seq a _ => a
  | c => c
def sq2 : Code → Code
  | .seq _ b => b
  | c => c
def regOps : Code → List Oper
  | .region _ os _ => os.toList
  | _ => []
end Go.Vx
/- V: lists of ints, small facts for contracts. -/
namespace Go.Vx
open Go.Sx
theorem w64_id {n : Int} (h1 : -9223372036854775808 ≤ n) (h2 : n ≤ 9223372036854775807) : w64 n = n := by
  have : in64 n = true := by
    cases n with
    | ofNat m => simp only [in64, Nat.blt_eq]; rw [Int.ofNat_eq_natCast] at h1 h2; omega
    | negSucc m => simp only [in64, Nat.blt_eq]; rw [Int.negSucc_eq] at h1 h2; omega
  simp only [w64, wr, this, cond_true]
/-- A frozen list of ints. -/
abbrev ints (l : List Int) : List DV := l.map DV.int
abbrev L (l : List Int) : DV := .list false false 1 (ints l)
abbrev LT (l : List Int) : DV := .list true false 1 (ints l)
@[simp] theorem asI_int (n : Int) : asI (.int n) = n := rfl
@[simp] theorem asB_bool (b : Bool) : asB (.bool b) = b := rfl
@[simp] theorem asR_list (tg ex : Bool) (s : Nat) (l : List DV) : asR (.list tg ex s l) = l := rfl
@[simp] theorem cellOf_agg (l : List DV) (i : Nat) : cellOf (.agg l) i = l.getD i .undef := rfl
@[simp] theorem tupL_tup (l : List DV) : tupL (.tup l) = l := rfl
theorem asI_ints (l : List Int) (i : Nat) : asI ((ints l).getD i .undef) = l.getD i 0 := by
  simp only [List.getD_eq_getElem?_getD, List.getElem?_map]
  cases l[i]? <;> rfl
theorem inR_ints (l : List Int) (i : Int) : inR i (ints l) = decide (0 ≤ i ∧ i < l.length) := by
  simp [inR]
theorem isRow_int (n : Int) : isRow ⟨false, [.int]⟩ (.int n) = true := rfl
theorem isRow_ints (l : List Int) (i : Nat) (h : i < l.length) : isRow ⟨false, [.int]⟩ ((ints l).getD i .undef) = true := by
  simp [List.getD_eq_getElem?_getD, List.getElem?_map, List.getElem?_eq_getElem h, isRow_int]
theorem okR_ints (l : List Int) (i : Int) : okR (ints l) i ⟨false, [.int]⟩ = decide (0 ≤ i ∧ i < l.length) := by
  unfold okR
  rw [inR_ints]
  by_cases h : 0 ≤ i ∧ i < l.length
  · have : i.toNat < l.length := by omega
    rw [isRow_ints l _ this]; simp [h]
  · simp [h]
theorem okR_ok {l : List Int} {i : Int} (h0 : 0 ≤ i) (h : i < l.length) : okR (ints l) i ⟨false, [.int]⟩ = true := by
  rw [okR_ints]; simp [h0, h]
theorem isRes_L (l : List Int) : isRes [⟨false, [.list 1]⟩] (L l) = true := rfl
theorem isRes_int (n : Int) : isRes [⟨false, [.int]⟩] (.int n) = true := rfl
theorem isRes_bool (b : Bool) : isRes [⟨false, [.bool]⟩] (.bool b) = true := rfl
theorem lenOk_ints {l m : List DV} (h : l.length + m.length < 1048576) : lenOk l m = true := by
  unfold lenOk
  simp
  omega
/-- A wide number as it is read: its sign, its digits. -/
abbrev aggW (s : Int) (l : List Int) : DV := .agg [.int s, L l]
theorem isRes_W (s : Int) (l : List Int) : isRes [⟨true, [.int, .list 1]⟩] (aggW s l) = true := rfl
theorem ints_append (l m : List Int) : ints l ++ ints m = ints (l ++ m) := by simp
theorem ints_snoc (l : List Int) (x : Int) : ints l ++ [DV.int x] = ints (l ++ [x]) := by simp
theorem ints_set (l : List Int) (i : Nat) (x : Int) : (ints l).set i (DV.int x) = ints (l.set i x) := by simp [List.map_set]
theorem ints_take (l : List Int) (i : Nat) : (ints l).take i = ints (l.take i) := by simp
theorem ints_rep (n : Nat) (x : Int) : List.replicate n (DV.int x) = ints (List.replicate n x) := by simp

/-! ### Digits -/
def val : List Int → Int
  | [] => 0
  | d :: l => d + 1000000000 * val l
def Dg (l : List Int) : Prop := ∀ d, d ∈ l → 0 ≤ d ∧ d < 1000000000
def digits (n : Nat) : List Int := if h : n = 0 then [] else ((n % 1000000000 : Nat) : Int) :: digits (n / 1000000000)
termination_by n
decreasing_by omega
theorem digits_zero : digits 0 = [] := by unfold digits; simp
theorem digits_pos {n : Nat} (h : n ≠ 0) : digits n = ((n % 1000000000 : Nat) : Int) :: digits (n / 1000000000) := by
  rw [digits]; simp [h]
theorem Dg_nil : Dg [] := fun _ h => by cases h
theorem Dg_cons {d : Int} {l : List Int} : Dg (d :: l) ↔ (0 ≤ d ∧ d < 1000000000) ∧ Dg l := by simp [Dg]
theorem Dg_append {l m : List Int} : Dg (l ++ m) ↔ Dg l ∧ Dg m := by
  simp only [Dg, List.mem_append]
  exact ⟨fun h => ⟨fun d hd => h d (.inl hd), fun d hd => h d (.inr hd)⟩, fun h d hd => hd.elim (h.1 d) (h.2 d)⟩
theorem val_digits (n : Nat) : val (digits n) = n := by
  induction n using Nat.strongRecOn with
  | ind n ih =>
    by_cases h : n = 0
    · subst h; rw [digits_zero]; rfl
    · rw [digits_pos h, val, ih _ (by omega)]; omega
theorem Dg_digits (n : Nat) : Dg (digits n) := by
  induction n using Nat.strongRecOn with
  | ind n ih =>
    by_cases h : n = 0
    · subst h; rw [digits_zero]; exact Dg_nil
    · rw [digits_pos h, Dg_cons]; exact ⟨by omega, ih _ (by omega)⟩
theorem val_nonneg {l : List Int} (h : Dg l) : 0 ≤ val l := by
  induction l with
  | nil => exact Int.le_refl 0
  | cons d l ih => rw [Dg_cons] at h; have := ih h.2; simp only [val]; omega
theorem val_append (l m : List Int) : val (l ++ m) = val l + 1000000000 ^ l.length * val m := by
  induction l with
  | nil => simp [val]
  | cons d l ih => simp only [List.cons_append, val, ih, List.length_cons, Int.pow_succ]; grind
theorem digits_val_cons {d : Int} {l : List Int} (h : Dg (d :: l)) (h0 : val (d :: l) ≠ 0) : digits (val (d :: l)).toNat = d :: digits (val l).toNat := by
  rw [Dg_cons] at h
  have hv := val_nonneg h.2
  simp only [val] at h0 ⊢
  have e : (d + 1000000000 * val l).toNat ≠ 0 := by omega
  rw [digits_pos e]
  have e1 : (((d + 1000000000 * val l).toNat % 1000000000 : Nat) : Int) = d := by omega
  have e2 : (d + 1000000000 * val l).toNat / 1000000000 = (val l).toNat := by omega
  rw [e1, e2]
/-- Digits without a zero at the end. -/
def Top : List Int → Prop
  | [] => True
  | [d] => d ≠ 0
  | _ :: l => Top l
theorem Top_val {l : List Int} (h : Dg l) (ht : Top l) (hn : l ≠ []) : val l ≠ 0 := by
  induction l with
  | nil => exact absurd rfl hn
  | cons d l ih =>
    rw [Dg_cons] at h
    have hv := val_nonneg h.2
    cases l with
    | nil => simp only [Top] at ht; simp only [val]; omega
    | cons e l => have := ih h.2 ht (by simp); simp only [val] at this ⊢; simp only [val] at hv; omega
theorem digits_val {l : List Int} (h : Dg l) (ht : Top l) : digits (val l).toNat = l := by
  induction l with
  | nil => exact digits_zero
  | cons d l ih =>
    rw [digits_val_cons h (Top_val h ht (by simp))]
    rw [Dg_cons] at h
    rw [ih h.2 (by cases l with | nil => trivial | cons e l => exact ht)]
theorem Top_snoc (l : List Int) {d : Int} (h : d ≠ 0) : Top (l ++ [d]) := by
  induction l with
  | nil => exact h
  | cons e l ih => cases l with
    | nil => exact ih
    | cons f l => exact ih
theorem Top_digits (n : Nat) : Top (digits n) := by
  induction n using Nat.strongRecOn with
  | ind n ih =>
    by_cases h : n = 0
    · subst h; rw [digits_zero]; trivial
    · rw [digits_pos h]
      have := ih (n / 1000000000) (by omega)
      by_cases h' : n / 1000000000 = 0
      · rw [h', digits_zero]; simp only [Top]; omega
      · rw [digits_pos h'] at this ⊢; exact this
theorem val_snoc0 (l : List Int) : val (l ++ [0]) = val l := by rw [val_append]; simp [val]
/-- Length of the digits. -/
def dl (n : Int) : Nat := (digits n.natAbs).length
theorem length_digits_le {n k : Nat} (h : n < 1000000000 ^ k) : (digits n).length ≤ k := by
  induction k generalizing n with
  | zero => have : n = 0 := by simpa using h
            subst this; rw [digits_zero]; simp
  | succ k ih =>
    by_cases h0 : n = 0
    · subst h0; rw [digits_zero]; simp
    · rw [digits_pos h0]
      have := ih (n := n / 1000000000) (by rw [Nat.pow_succ] at h; exact Nat.div_lt_of_lt_mul (by rw [Nat.mul_comm]; exact h))
      simp only [List.length_cons]; omega
theorem lt_of_digits (n : Nat) : n < 1000000000 ^ (digits n).length := by
  induction n using Nat.strongRecOn with
  | ind n ih =>
    by_cases h : n = 0
    · subst h; rw [digits_zero]; simp
    · rw [digits_pos h]
      have := ih (n / 1000000000) (by omega)
      simp only [List.length_cons, Nat.pow_succ]
      omega
/-- A wide number. -/
def W (n : Int) : DV := aggW n.sign (digits n.natAbs)
end Go.Vx
/- SensorImages: the plain law of sums. -/
namespace Go.Proofs
open Go Go.Sx Go.Vx
set_option maxRecDepth 100000
def tot : List Int → Int
  | [] => 0
  | x :: l => x + tot l
def wsm : Int → List Int → Int
  | _, [] => 0
  | k, x :: l => k * x + wsm (k + 1) l
/-- Ten numbers up to M: their sum, and the sum of them times their places. -/
def Ten (M A X : Int) : Prop := ∃ c0 c1 c2 c3 c4 c5 c6 c7 c8 c9 : Int, ((0 ≤ c0 ∧ c0 ≤ M) ∧ (0 ≤ c1 ∧ c1 ≤ M) ∧ (0 ≤ c2 ∧ c2 ≤ M) ∧ (0 ≤ c3 ∧ c3 ≤ M) ∧ (0 ≤ c4 ∧ c4 ≤ M) ∧ (0 ≤ c5 ∧ c5 ≤ M) ∧ (0 ≤ c6 ∧ c6 ≤ M) ∧ (0 ≤ c7 ∧ c7 ≤ M) ∧ (0 ≤ c8 ∧ c8 ≤ M) ∧ (0 ≤ c9 ∧ c9 ≤ M)) ∧
  A = c0 + c1 + c2 + c3 + c4 + c5 + c6 + c7 + c8 + c9 ∧ X = c1 + 2 * c2 + 3 * c3 + 4 * c4 + 5 * c5 + 6 * c6 + 7 * c7 + 8 * c8 + 9 * c9
theorem Ten.zero {M : Int} (h : 0 ≤ M) : Ten M 0 0 := ⟨0, 0, 0, 0, 0, 0, 0, 0, 0, 0, by omega, by omega, by omega⟩
theorem Ten.add {M N A X B Y : Int} (h : Ten M A X) (k : Ten N B Y) : Ten (M + N) (A + B) (X + Y) := by
  obtain ⟨c0, c1, c2, c3, c4, c5, c6, c7, c8, c9, hb, h1, h2⟩ := h
  obtain ⟨d0, d1, d2, d3, d4, d5, d6, d7, d8, d9, kb, k1, k2⟩ := k
  exact ⟨c0 + d0, c1 + d1, c2 + d2, c3 + d3, c4 + d4, c5 + d5, c6 + d6, c7 + d7, c8 + d8, c9 + d9, by omega, by omega, by omega⟩
theorem Ten.mono {M N A X : Int} (h : Ten M A X) (hm : M ≤ N) : Ten N A X := by
  obtain ⟨c0, c1, c2, c3, c4, c5, c6, c7, c8, c9, hb, h1, h2⟩ := h
  exact ⟨c0, c1, c2, c3, c4, c5, c6, c7, c8, c9, by omega, h1, h2⟩
theorem Ten.le {M A X : Int} (h : Ten M A X) : 0 ≤ A ∧ A ≤ 10 * M ∧ 0 ≤ X ∧ X ≤ 45 * M := by
  obtain ⟨c0, c1, c2, c3, c4, c5, c6, c7, c8, c9, hb, h1, h2⟩ := h
  omega
theorem Ten.list {M : Int} (hM : 0 ≤ M) {l : List Int} (hl : l.length ≤ 10) (hb : ∀ x ∈ l, 0 ≤ x ∧ x ≤ M) : Ten M (tot l) (wsm 0 l) := by
  have z : 0 ≤ (0 : Int) ∧ (0 : Int) ≤ M := ⟨by omega, hM⟩
  rcases l with _ | ⟨a, _ | ⟨b, _ | ⟨c, _ | ⟨d, _ | ⟨e, _ | ⟨f, _ | ⟨g, _ | ⟨h, _ | ⟨i, _ | ⟨j, _ | ⟨k, l⟩⟩⟩⟩⟩⟩⟩⟩⟩⟩⟩
  · exact Ten.zero hM
  · simp only [List.mem_cons, List.not_mem_nil, or_false, forall_eq_or_imp, forall_eq] at hb
    exact ⟨a, 0, 0, 0, 0, 0, 0, 0, 0, 0, ⟨hb, z, z, z, z, z, z, z, z, z⟩, by simp only [tot]; omega, by simp only [wsm]; omega⟩
  · simp only [List.mem_cons, List.not_mem_nil, or_false, forall_eq_or_imp, forall_eq] at hb
    exact ⟨a, b, 0, 0, 0, 0, 0, 0, 0, 0, ⟨hb.1, hb.2, z, z, z, z, z, z, z, z⟩, by simp only [tot]; omega, by simp only [wsm]; omega⟩
  · simp only [List.mem_cons, List.not_mem_nil, or_false, forall_eq_or_imp, forall_eq] at hb
    obtain ⟨x0, x1, x2⟩ := hb
    exact ⟨a, b, c, 0, 0, 0, 0, 0, 0, 0, ⟨x0, x1, x2, z, z, z, z, z, z, z⟩, by simp only [tot]; omega, by simp only [wsm]; omega⟩
  · simp only [List.mem_cons, List.not_mem_nil, or_false, forall_eq_or_imp, forall_eq] at hb
    obtain ⟨x0, x1, x2, x3⟩ := hb
    exact ⟨a, b, c, d, 0, 0, 0, 0, 0, 0, ⟨x0, x1, x2, x3, z, z, z, z, z, z⟩, by simp only [tot]; omega, by simp only [wsm]; omega⟩
  · simp only [List.mem_cons, List.not_mem_nil, or_false, forall_eq_or_imp, forall_eq] at hb
    obtain ⟨x0, x1, x2, x3, x4⟩ := hb
    exact ⟨a, b, c, d, e, 0, 0, 0, 0, 0, ⟨x0, x1, x2, x3, x4, z, z, z, z, z⟩, by simp only [tot]; omega, by simp only [wsm]; omega⟩
  · simp only [List.mem_cons, List.not_mem_nil, or_false, forall_eq_or_imp, forall_eq] at hb
    obtain ⟨x0, x1, x2, x3, x4, x5⟩ := hb
    exact ⟨a, b, c, d, e, f, 0, 0, 0, 0, ⟨x0, x1, x2, x3, x4, x5, z, z, z, z⟩, by simp only [tot]; omega, by simp only [wsm]; omega⟩
  · simp only [List.mem_cons, List.not_mem_nil, or_false, forall_eq_or_imp, forall_eq] at hb
    obtain ⟨x0, x1, x2, x3, x4, x5, x6⟩ := hb
    exact ⟨a, b, c, d, e, f, g, 0, 0, 0, ⟨x0, x1, x2, x3, x4, x5, x6, z, z, z⟩, by simp only [tot]; omega, by simp only [wsm]; omega⟩
  · simp only [List.mem_cons, List.not_mem_nil, or_false, forall_eq_or_imp, forall_eq] at hb
    obtain ⟨x0, x1, x2, x3, x4, x5, x6, x7⟩ := hb
    exact ⟨a, b, c, d, e, f, g, h, 0, 0, ⟨x0, x1, x2, x3, x4, x5, x6, x7, z, z⟩, by simp only [tot]; omega, by simp only [wsm]; omega⟩
  · simp only [List.mem_cons, List.not_mem_nil, or_false, forall_eq_or_imp, forall_eq] at hb
    obtain ⟨x0, x1, x2, x3, x4, x5, x6, x7, x8⟩ := hb
    exact ⟨a, b, c, d, e, f, g, h, i, 0, ⟨x0, x1, x2, x3, x4, x5, x6, x7, x8, z⟩, by simp only [tot]; omega, by simp only [wsm]; omega⟩
  · simp only [List.mem_cons, List.not_mem_nil, or_false, forall_eq_or_imp, forall_eq] at hb
    obtain ⟨x0, x1, x2, x3, x4, x5, x6, x7, x8, x9⟩ := hb
    exact ⟨a, b, c, d, e, f, g, h, i, j, ⟨x0, x1, x2, x3, x4, x5, x6, x7, x8, x9⟩, by simp only [tot]; omega, by simp only [wsm]; omega⟩
  · simp at hl
theorem mulM {b y M m : Int} (hb : 0 ≤ b ∧ b ≤ M) (h1 : y ≤ m) (h0 : 0 ≤ m) : b * y ≤ M * m := by
  have e1 := Int.mul_le_mul_of_nonneg_left h1 hb.1
  have e2 := Int.mul_le_mul_of_nonneg_right hb.2 h0
  omega
theorem Ten.far {A X B Y : Int} (h : Ten 2550 A X) (k : Ten 2550 B Y) : Y * A - X * B ≤ 1000000000 := by
  obtain ⟨c0, c1, c2, c3, c4, c5, c6, c7, c8, c9, hb, h1, h2⟩ := h
  obtain ⟨d0, d1, d2, d3, d4, d5, d6, d7, d8, d9, ⟨k0, k1, k2, k3, k4, k5, k6, k7, k8, k9⟩, e1, e2⟩ := k
  have e : Y * A - X * B = d0 * (0 - X) + d1 * (A - X) + d2 * (2 * A - X) + d3 * (3 * A - X) + d4 * (4 * A - X) + d5 * (5 * A - X) + d6 * (6 * A - X) + d7 * (7 * A - X) + d8 * (8 * A - X) + d9 * (9 * A - X) := by
    rw [e1, e2]; grind
  have hA : 0 ≤ A := by omega
  have hX : 0 ≤ X := by omega
  have main : ∀ m0 m1 m2 m3 m4 m5 m6 m7 m8 m9 : Int, (0 ≤ m0 ∧ 0 - X ≤ m0) → (0 ≤ m1 ∧ A - X ≤ m1) → (0 ≤ m2 ∧ 2 * A - X ≤ m2) → (0 ≤ m3 ∧ 3 * A - X ≤ m3) → (0 ≤ m4 ∧ 4 * A - X ≤ m4) → (0 ≤ m5 ∧ 5 * A - X ≤ m5) → (0 ≤ m6 ∧ 6 * A - X ≤ m6) → (0 ≤ m7 ∧ 7 * A - X ≤ m7) → (0 ≤ m8 ∧ 8 * A - X ≤ m8) → (0 ≤ m9 ∧ 9 * A - X ≤ m9) →
      m0 + m1 + m2 + m3 + m4 + m5 + m6 + m7 + m8 + m9 ≤ 374850 → Y * A - X * B ≤ 1000000000 := by
    intro m0 m1 m2 m3 m4 m5 m6 m7 m8 m9 q0 q1 q2 q3 q4 q5 q6 q7 q8 q9 hm
    have := mulM k0 q0.2 q0.1
    have := mulM k1 q1.2 q1.1
    have := mulM k2 q2.2 q2.1
    have := mulM k3 q3.2 q3.1
    have := mulM k4 q4.2 q4.1
    have := mulM k5 q5.2 q5.1
    have := mulM k6 q6.2 q6.1
    have := mulM k7 q7.2 q7.1
    have := mulM k8 q8.2 q8.1
    have := mulM k9 q9.2 q9.1
    rw [e]; omega
  clear e
  by_cases g1 : 0 ≤ A - X
  · exact main 0 (A - X) (2 * A - X) (3 * A - X) (4 * A - X) (5 * A - X) (6 * A - X) (7 * A - X) (8 * A - X) (9 * A - X) (by omega) (by omega) (by omega) (by omega) (by omega) (by omega) (by omega) (by omega) (by omega) (by omega) (by omega)
  by_cases g2 : 0 ≤ 2 * A - X
  · exact main 0 0 (2 * A - X) (3 * A - X) (4 * A - X) (5 * A - X) (6 * A - X) (7 * A - X) (8 * A - X) (9 * A - X) (by omega) (by omega) (by omega) (by omega) (by omega) (by omega) (by omega) (by omega) (by omega) (by omega) (by omega)
  by_cases g3 : 0 ≤ 3 * A - X
  · exact main 0 0 0 (3 * A - X) (4 * A - X) (5 * A - X) (6 * A - X) (7 * A - X) (8 * A - X) (9 * A - X) (by omega) (by omega) (by omega) (by omega) (by omega) (by omega) (by omega) (by omega) (by omega) (by omega) (by omega)
  by_cases g4 : 0 ≤ 4 * A - X
  · exact main 0 0 0 0 (4 * A - X) (5 * A - X) (6 * A - X) (7 * A - X) (8 * A - X) (9 * A - X) (by omega) (by omega) (by omega) (by omega) (by omega) (by omega) (by omega) (by omega) (by omega) (by omega) (by omega)
  by_cases g5 : 0 ≤ 5 * A - X
  · exact main 0 0 0 0 0 (5 * A - X) (6 * A - X) (7 * A - X) (8 * A - X) (9 * A - X) (by omega) (by omega) (by omega) (by omega) (by omega) (by omega) (by omega) (by omega) (by omega) (by omega) (by omega)
  by_cases g6 : 0 ≤ 6 * A - X
  · exact main 0 0 0 0 0 0 (6 * A - X) (7 * A - X) (8 * A - X) (9 * A - X) (by omega) (by omega) (by omega) (by omega) (by omega) (by omega) (by omega) (by omega) (by omega) (by omega) (by omega)
  by_cases g7 : 0 ≤ 7 * A - X
  · exact main 0 0 0 0 0 0 0 (7 * A - X) (8 * A - X) (9 * A - X) (by omega) (by omega) (by omega) (by omega) (by omega) (by omega) (by omega) (by omega) (by omega) (by omega) (by omega)
  by_cases g8 : 0 ≤ 8 * A - X
  · exact main 0 0 0 0 0 0 0 0 (8 * A - X) (9 * A - X) (by omega) (by omega) (by omega) (by omega) (by omega) (by omega) (by omega) (by omega) (by omega) (by omega) (by omega)
  · have : 0 ≤ 9 * A - X := by omega
    exact main 0 0 0 0 0 0 0 0 0 (9 * A - X) (by omega) (by omega) (by omega) (by omega) (by omega) (by omega) (by omega) (by omega) (by omega) (by omega) (by omega)
theorem tot_nonneg : ∀ {l : List Int}, (∀ x ∈ l, 0 ≤ x) → 0 ≤ tot l
  | [], _ => by simp [tot]
  | x :: l, h => by have := h x (by simp); have := tot_nonneg (l := l) (fun y hy => h y (by simp [hy])); simp only [tot]; omega
theorem tot_pos : ∀ {l : List Int}, (∀ x ∈ l, 0 ≤ x) → (∃ x ∈ l, x ≠ 0) → 0 < tot l
  | [], _, h => by obtain ⟨x, hx, _⟩ := h; simp at hx
  | x :: l, h, ⟨y, hy, h0⟩ => by
    have h1 := h x (by simp)
    have h2 := tot_nonneg (l := l) (fun y hy => h y (by simp [hy]))
    simp only [tot]
    rcases List.mem_cons.1 hy with rfl | hy
    · omega
    · have := tot_pos (l := l) (fun y hy => h y (by simp [hy])) ⟨y, hy, h0⟩; omega
theorem tot_le {M : Int} : ∀ {l : List Int}, (∀ x ∈ l, x ≤ M) → tot l ≤ M * l.length
  | [], _ => by simp [tot]
  | x :: l, h => by
    have h1 := h x (by simp)
    have h2 := tot_le (l := l) (fun y hy => h y (by simp [hy]))
    simp only [tot, List.length_cons]
    rw [Int.natCast_add, Int.mul_add]; omega
def sumX : List (List Int) → Int
  | [] => 0
  | r :: l => wsm 0 r + sumX l
theorem Ten.cols : ∀ {im : List (List Int)}, (∀ r ∈ im, r.length ≤ 10 ∧ ∀ x ∈ r, 0 ≤ x ∧ x ≤ 255) → Ten (255 * im.length) (tot (im.map tot)) (sumX im)
  | [], _ => Ten.zero (by simp)
  | r :: im, h => by
    have h1 := h r (by simp)
    have h2 := Ten.cols (im := im) (fun y hy => h y (by simp [hy]))
    have h3 := Ten.add (Ten.list (by omega) h1.1 h1.2) h2
    simp only [List.map_cons, tot, sumX, List.length_cons]
    have e : (255 : Int) + 255 * (im.length : Int) = 255 * ((im.length + 1 : Nat) : Int) := by omega
    rw [← e]; exact h3
/-- Sums of an image: of places times pixels, of rows' places times pixels, of pixels. -/
structure Sums (im : List (List Int)) (X Y A : Int) : Prop where
  x : Ten 2550 A X
  y : Ten 2550 A Y
  pos : 0 < A
theorem sums_ok {im : List (List Int)} (hl : im.length ≤ 10) (h : ∀ r ∈ im, r.length ≤ 10 ∧ ∀ x ∈ r, 0 ≤ x ∧ x ≤ 255) (hp : ∃ r ∈ im, ∃ x ∈ r, x ≠ 0) : Sums im (sumX im) (wsm 0 (im.map tot)) (tot (im.map tot)) := by
  refine ⟨(Ten.cols h).mono (by omega), Ten.list (by omega) (by simpa using hl) (fun x hx => ?_), tot_pos (fun x hx => ?_) ?_⟩
  · obtain ⟨r, hr, rfl⟩ := List.mem_map.1 hx
    have h1 := h r hr
    have h2 := tot_le (l := r) (M := 255) (fun x hx => (h1.2 x hx).2)
    have h3 := tot_nonneg (l := r) (fun x hx => (h1.2 x hx).1)
    omega
  · obtain ⟨r, hr, rfl⟩ := List.mem_map.1 hx
    exact tot_nonneg (fun x hx => ((h r hr).2 x hx).1)
  · obtain ⟨r, hr, x, hx, h0⟩ := hp
    refine ⟨tot r, List.mem_map.2 ⟨r, hr, rfl⟩, ?_⟩
    have := tot_pos (l := r) (fun x hx => ((h r hr).2 x hx).1) ⟨x, hx, h0⟩
    omega
/-! ### As the program adds -/
abbrev S3 := Int × Int × Int
def wr1 (y : Int) (r : List Int) : Nat → Nat → S3 → S3
  | 0, _, s => s
  | n + 1, j, s => wr1 y r n (j + 1) (w64 (s.1 + w64 ((j : Int) * r.getD j 0)), w64 (s.2.1 + w64 (y * r.getD j 0)), w64 (s.2.2 + r.getD j 0))
def wim (im : List (List Int)) : Nat → Nat → S3 → S3
  | 0, _, s => s
  | n + 1, i, s => wim im n (i + 1) (wr1 i (im.getD i []) (im.getD i []).length 0 s)
theorem dropJ {α : Type} (d : α) {l : List α} {i : Nat} (h : i < l.length) : l.drop i = l.getD i d :: l.drop (i + 1) := by
  rw [List.drop_eq_getElem_cons h, List.getD_eq_getElem?_getD, List.getElem?_eq_getElem h]; rfl
theorem mem_getD {α : Type} {d : α} {l : List α} {i : Nat} (h : i < l.length) : l.getD i d ∈ l := by
  rw [List.getD_eq_getElem?_getD, List.getElem?_eq_getElem h]; exact List.getElem_mem h
theorem mul9 {y x : Int} (hy : 0 ≤ y ∧ y ≤ 9) (hx : 0 ≤ x ∧ x ≤ 255) : 0 ≤ y * x ∧ y * x ≤ 2295 := by
  have h1 := Int.mul_nonneg hy.1 hx.1
  have h2 := mulM (b := y) (y := x) (M := 9) (m := 255) hy hx.2 (by omega)
  omega
theorem wr1_eq {y M : Int} (hy : 0 ≤ y ∧ y ≤ 9) (hM : 0 ≤ M ∧ M ≤ 1000000000) {r : List Int} (hl : r.length ≤ 10) (hb : ∀ x ∈ r, 0 ≤ x ∧ x ≤ 255) : ∀ (n j : Nat) (s : S3), r.length = j + n → (0 ≤ s.1 ∧ s.1 ≤ M + 2295 * j) → (0 ≤ s.2.1 ∧ s.2.1 ≤ M + 2295 * j) → (0 ≤ s.2.2 ∧ s.2.2 ≤ M + 2295 * j) →
    wr1 y r n j s = (s.1 + wsm j (r.drop j), s.2.1 + y * tot (r.drop j), s.2.2 + tot (r.drop j))
  | 0, j, s, h, _, _, _ => by rw [List.drop_eq_nil_of_le (by omega)]; simp [wr1, wsm, tot]
  | n + 1, j, s, h, h1, h2, h3 => by
    have hx := hb _ (mem_getD (d := 0) (l := r) (i := j) (by omega))
    have m1 := mul9 (y := (j : Int)) (x := r.getD j 0) (by omega) hx
    have m2 := mul9 (y := y) (x := r.getD j 0) hy hx
    rw [wr1, dropJ 0 (by omega)]
    simp only [wsm, tot]
    generalize r.getD j 0 = p at *
    rw [w64_id (n := (j : Int) * p) (by omega) (by omega), w64_id (n := y * p) (by omega) (by omega), w64_id (n := s.1 + j * p) (by omega) (by omega), w64_id (n := s.2.1 + y * p) (by omega) (by omega), w64_id (n := s.2.2 + p) (by omega) (by omega)]
    rw [wr1_eq hy hM hl hb n (j + 1) _ (by omega) (by simp only []; omega) (by simp only []; omega) (by simp only []; omega)]
    simp only [Prod.mk.injEq]
    refine ⟨by rw [Int.natCast_add]; simp only [Int.natCast_one]; omega, by rw [Int.mul_add]; omega, by omega⟩
theorem wim_eq {im : List (List Int)} (hl : im.length ≤ 10) (h : ∀ r ∈ im, r.length ≤ 10 ∧ ∀ x ∈ r, 0 ≤ x ∧ x ≤ 255) : ∀ (n i : Nat) (s : S3), im.length = i + n → (0 ≤ s.1 ∧ s.1 ≤ 25000 * i) → (0 ≤ s.2.1 ∧ s.2.1 ≤ 25000 * i) → (0 ≤ s.2.2 ∧ s.2.2 ≤ 25000 * i) →
    wim im n i s = (s.1 + sumX (im.drop i), s.2.1 + wsm i ((im.drop i).map tot), s.2.2 + tot ((im.drop i).map tot))
  | 0, i, s, hn, _, _, _ => by rw [List.drop_eq_nil_of_le (by omega)]; simp [wim, sumX, wsm, tot]
  | n + 1, i, s, hn, h1, h2, h3 => by
    have hr := h _ (mem_getD (d := []) (l := im) (i := i) (by omega))
    have T := Ten.list (M := 255) (by omega) hr.1 hr.2
    have Tl := T.le
    rw [wim, wr1_eq (y := (i : Int)) (M := 25000 * i) (by omega) (by omega) hr.1 hr.2 _ 0 s (by omega) (by omega) (by omega) (by omega), List.drop_zero, dropJ [] (by omega)]
    simp only [sumX, List.map_cons, wsm, tot]
    generalize hR : im.getD i [] = r at *
    have ht : 0 ≤ (i : Int) * tot r ∧ (i : Int) * tot r ≤ 22950 := by
      have e1 := Int.mul_nonneg (show (0 : Int) ≤ i by omega) Tl.1
      have e2 := mulM (b := (i : Int)) (y := tot r) (M := 9) (m := 2550) (by omega) (by omega) (by omega)
      omega
    rw [wim_eq hl h n (i + 1) _ (by omega) (by simp only [Int.natCast_zero]; omega) (by simp only []; omega) (by simp only []; omega)]
    simp only [Prod.mk.injEq, Int.natCast_zero]
    exact ⟨by omega, by rw [Int.natCast_add]; simp only [Int.natCast_one]; omega, by omega⟩
end Go.Proofs
/- V: a law's arguments without marks. -/
namespace Go.Vx
open Go.Sx Go.RowKit
def argOkF (s : ASh) (d : DV) : Prop := (s.ag = true ∧ ∃ cs, d = .agg cs ∧ Sh.okL false s.row cs) ∨ (s.ag = false ∧ Sh.okL false s.row [d])
def argsOkF : List ASh → List DV → Prop
  | [], ds => ds = []
  | s :: l, ds => ∃ d r, ds = d :: r ∧ argOkF s d ∧ argsOkF l r
section
variable {H : Type} {enc : TypeId × Value → H} {P : Program} {w : World} {base : Nat} {spare : Nat → Bool} {held : Bool}
theorem open_argF {r : Reach} {b : Nat} {t : TypeId} {v : Value} {d : DataW H} {ps : List MemPlace} {s : ASh} (hv : Value.okWide P w r b t v) (ht : DataW.Trod enc P w base spare held t v d ps) (hs : aShO (isAggT P t) (shOf P 12 t) = some s) {bs : BS} (hb : OKB w bs) :
    ∃ t' a dv, OKB w (bs ++ t') ∧ VR (phiB (bs ++ t')) a v ∧ R (ctxB (bs ++ t')) 0 true dv a ∧ argOkF s dv := by
  obtain ⟨n, hn⟩ := ht
  cases hr : shOf P 12 t with
  | none => rw [hr] at hs; simp [aShO] at hs
  | some row =>
    rw [hr] at hs
    simp only [aShO] at hs
    have hO := open_trod 12 t row hr n _ _ false hn
    obtain ⟨t', as, ds, a1, a2, a3, a4, _⟩ := hO bs hb
    cases hag : isAggT P t with
    | true =>
      rw [hag, Bool.true_or, cond_true] at hs
      cases hs
      obtain ⟨cs, rfl⟩ := isAggT_form hv hag
      refine ⟨t', .agg as, .agg ds, a1, ?_, ?_, .inl ⟨rfl, ds, rfl, a4⟩⟩
      · simp only [VR]
        exact ⟨cs.toList, rfl, a2⟩
      · simp only [R]; exact ⟨as, rfl, a3⟩
    | false =>
      rw [hag, Bool.false_or] at hs
      cases hl : Nat.beq row.length 1 with
      | false => rw [hl] at hs; cases hs
      | true =>
        rw [hl] at hs
        cases hs
        have hl := beqT hl
        rw [notAgg_form hv hr hag] at a2
        have hdl := Sh.okL_length a4
        obtain ⟨dv, rfl⟩ : ∃ dv, ds = [dv] := by
          match ds, hdl with
          | [d], _ => exact ⟨d, rfl⟩
          | [], h => rw [hl] at h; simp at h
          | _ :: _ :: _, h => rw [hl] at h; simp at h
        simp only [RL] at a3
        obtain ⟨a, q, rfl, a3, rfl⟩ := a3
        simp only [VRL] at a2
        obtain ⟨v', q', e, a2, _⟩ := a2
        cases e
        exact ⟨t', a, dv, a1, a2, a3, .inr ⟨rfl, a4⟩⟩
theorem open_allF {r : Reach} {b : Nat} : ∀ {ts : List TypeId} {vs : List Value} {ds : List (DataW H)} {ps : List MemPlace} {l : List ASh}, (∀ (j : Nat) t v, ts[j]? = some t → vs[j]? = some v → Value.okWide P w r b t v) → DataW.TrodAll enc P w base spare held ts vs ds ps → argsSh P ts = some l → ∀ {bs : BS}, OKB w bs →
    ∃ t' as dvs, OKB w (bs ++ t') ∧ VRL (phiB (bs ++ t')) as vs ∧ RL (ctxB (bs ++ t')) 0 true dvs as ∧ argsOkF l dvs
  | [], [], [], ps, l, _, _, hs, bs, hb => by
    simp only [argsSh, Option.some.injEq] at hs; subst hs
    exact ⟨[], [], [], by simpa using hb, VRL.nil, by simp [RL], by simp [argsOkF]⟩
  | t :: ts, v :: vs, d :: ds, ps, l, hv, ht, hs, bs, hb => by
    obtain ⟨p, q, h1, h2, _⟩ := ht
    simp only [argsSh] at hs
    cases ha : aShO (isAggT P t) (shOf P 12 t) with
    | none => rw [ha] at hs; simp [consA] at hs
    | some s => cases hq : argsSh P ts with
      | none => rw [ha, hq] at hs; simp [consA] at hs
      | some l' =>
        rw [ha, hq] at hs
        simp only [consA, Option.some.injEq] at hs; subst hs
        obtain ⟨t1, a, dv, a1, a2, a3, a4⟩ := open_argF (hv 0 t v rfl rfl) h1 ha hb
        obtain ⟨t2, as, dvs, b1, b2, b3, b4⟩ := open_allF (fun j t v h h' => hv (j + 1) t v h h') h2 hq a1
        rw [List.append_assoc] at b1 b2 b3
        refine ⟨t1 ++ t2, a :: as, dv :: dvs, b1, ?_, ?_, by simp only [argsOkF]; exact ⟨dv, dvs, rfl, a4, b4⟩⟩
        · simp only [VRL]
          have := VR.mono (phiB_le (bs ++ t1) t2) _ _ a2
          rw [List.append_assoc] at this
          exact ⟨v, vs, rfl, this, b2⟩
        · simp only [RL]
          have := R.mono (extB (bs ++ t1) t2) _ _ _ a3
          rw [List.append_assoc] at this
          exact ⟨a, as, rfl, this, b3⟩
  | [], _ :: _, _, _, _, _, h, _, _, _ => h.elim
  | [], [], _ :: _, _, _, _, h, _, _, _ => h.elim
  | _ :: _, [], _, _, _, _, h, _, _, _ => h.elim
  | _ :: _, _ :: _, [], _, _, _, h, _, _, _ => h.elim
/-- The same, of arguments without a mark. -/
theorem law_callsF {vt : VTab} (hkeep : VOK vt) (hM : MarksOK vt) (hT : ∀ big, TabOK P (stab vt big)) {f : Nat} {ts : List TypeId} {l : List ASh} (hP : argsSh P ts = some l) (hlaw : ∀ dvs, argsOkF l dvs → CallV vt f dvs (.bool true))
    {r : Reach} {b : Nat} {args : Array Value} {ds : List (DataW H)} {ps : List MemPlace} (hv : ∀ (j : Nat) t v, ts[j]? = some t → args[j]? = some v → Value.okWide P w r b t v) (ht : DataW.TrodAll enc P w base spare held ts args.toList ds ps) :
    Calls P f args w (fun e w' => e = .returned (.bool true) ∧ Below w.heap.size w w') := by
  obtain ⟨bs, as, dvs, a1, a2, a3, a4⟩ := open_allF (bs := []) (fun j t v h h' => hv j t v h (by simpa using h')) ht hP ⟨fun b x h => by simp at h, fun b x h => by simp at h, fun b x h => by simp at h⟩
  rw [List.nil_append] at a1 a2 a3
  obtain ⟨n, hn⟩ := hlaw dvs a4
  have hcall := hn n (Nat.le_refl _)
  obtain ⟨n0, hC⟩ := (soundV hkeep hM n).1 f dvs (.bool true) hcall
  have hp : Hp (ctxB bs) 0 := by
    refine cx_hp (fun b h => h.elim) (fun i h => h) (fun b cs h => ?_) (fun b cs hb h => ?_) (fun b cs hb h => ?_)
    · obtain ⟨x, h1, rfl⟩ := cellsB.1 h; exact a1.cell b x h1
    · simp only [envB, Option.map_eq_some_iff] at h
      obtain ⟨x, h1, rfl⟩ := h
      exact ⟨hb, a1.ids b x h1⟩
    · obtain ⟨x, h1, _⟩ := cellsB.1 h
      exact absurd (List.getElem?_eq_some_iff.1 h1).1 (by exact Nat.not_lt.2 hb)
  obtain ⟨a, Mc, c1, c2, c3, c4⟩ := hC n0 (Nat.le_refl _) n0 (Nat.le_refl _) (envB bs) _ _ as rfl hp a3
  simp only [R] at c3
  subst c3
  have hnil : ∀ k, heapOf (envB bs) Mem.nil k = none := fun k => by
    simp only [heapOf]
    split
    · rfl
    · exact Mem.get_nil _
  have hs := (sound (hT n0) n0 _ _ _ _ _ _ c1 rfl).2 (phiB bs) w w args.toList (fun b cs hb h => by
      simp only [envB, Option.map_eq_some_iff] at h
      obtain ⟨x, h1, rfl⟩ := h
      exact ⟨x.2.1, x.2.2.1, x.2.2.2, by simp only [phiB, h1]; rfl, a1.blk b x h1⟩)
    ⟨Below.refl _ _, fun k o hk => (by rw [hnil] at hk; cases hk), fun k k' o o' x x' _ hk => (by rw [hnil] at hk; cases hk)⟩ a2 (fun k hk => by
      have hk' : bs.length ≤ k := hk
      simp only [phiB, List.getElem?_eq_none hk']; rfl)
  refine (callsIn_wide.1 (hs.mono ?_))
  rintro e w' ⟨vC, rfl, φ', k1, _, _, k4, _⟩
  simp only [VR] at k1
  subst k1
  exact ⟨rfl, k4.below⟩
end
end Go.Vx
