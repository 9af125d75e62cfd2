/- ModalShapes of the given program answers true Part 3 of 10. -/
import Derived.Test.YteolnmnikcobcaaMs2
/- V, text 6: values of no known shape that are handed on; addresses, parts, lengths. -/
namespace Go.Vx
open Go.Sx

theorem Hand.any {c d : Ctx} {u u' : Nat} {ids : List Nat} (h : Hand c d u u' true ids) (ids' : List Nat) : Hand c d u u' true ids' := ⟨h.ext, fun k _ => h.own k (.inl rfl)⟩
theorem fzL_ok {c d : Ctx} {u u' : Nat} {f : DV → Option DV} : ∀ {vs ws : List DV} {l : List AV}, (∀ v ∈ vs, ∀ w a, f v = some w → R c u false v a → R d u' true w a) → fzL f vs = some ws → RL c u false vs l → RL d u' true ws l
  | [], ws, l, _, h, hr => by
    simp only [fzL, Option.some.injEq] at h; subst h
    simpa only [RL] using hr
  | v :: vs, ws, l, hf, h, hr => by
    simp only [fzL] at h
    cases h1 : f v with
    | none => rw [h1] at h; simp [consD] at h
    | some w => cases h2 : fzL f vs with
      | none => rw [h1, h2] at h; simp [consD] at h
      | some r =>
        rw [h1, h2] at h
        simp only [consD, Option.some.injEq] at h
        subst h
        rw [RL] at hr ⊢
        obtain ⟨a, as, rfl, k1, k2⟩ := hr
        exact ⟨a, as, rfl, hf v (by simp) w a h1 k1, fzL_ok (fun x hx => hf x (by simp [hx])) h2 k2⟩
theorem owns_mem {v : DV} {vs : List DV} (h : v ∈ vs) : ∀ k ∈ owns v, k ∈ ownsL vs := by
  induction vs with
  | nil => simp at h
  | cons x vs ih =>
    intro k hk
    simp only [ownsL, List.mem_append]
    rcases List.mem_cons.1 h with rfl | h
    · exact .inl hk
    · exact .inr (ih h k hk)
theorem owns_ne {v : DV} {vs : List DV} (h : v ∈ vs) (hn : owns v ≠ []) : ownsL vs ≠ [] := by
  intro e
  cases ho : owns v with
  | nil => exact hn ho
  | cons k r =>
    have := owns_mem h k (by rw [ho]; simp)
    rw [e] at this; simp at this
theorem fz_ok {c d : Ctx} {hm u u' : Nat} {tg : Bool} (hp : Hp c hm) : ∀ (n : Nat) (ids : List Nat), Hand c d u u' tg ids → ∀ (v w : DV) (a : AV), (∀ k ∈ owns v, k ∈ ids) → (owns v ≠ [] → Sub hm u) → fz tg c.H n v = some w → R c u false v a → R d u' true w a
  | 0, _, _, _, _, _, _, _, h, _ => by simp [fz] at h
  | n + 1, ids, hh, v, w, a, hi, hu, h, hr => by
    cases v <;> simp only [fz] at h
    case int => cases h; simpa only [R] using hr
    case bool => cases h; simpa only [R] using hr
    case nilp => cases h; simpa only [R] using hr
    case nils => cases h; simpa only [R] using hr
    case nilf => cases h; simpa only [R] using hr
    case undef => cases h
    case tup => cases h
    case elp => cases h
    case list tg' ex s rows =>
      cases hc : (tg || !tg') with
      | false => rw [hc] at h; cases h
      | true =>
        rw [hc, cond_true, Option.some.injEq] at h
        subst h
        simp only [R] at hr ⊢
        obtain ⟨rcs, h1, h2, h3⟩ := hr
        exact ⟨rcs, RRows.monoF hh.ext rows rcs h1, h2, (h3.monoF hh.ext).tag hc⟩
    case own k =>
      split at h
      · rename_i s rows hrow
        cases h
        rw [R] at hr
        obtain ⟨_, hck, ho⟩ := hr
        obtain ⟨nn, h1, h2⟩ := own_rows hp hrow ho
        exact h1.list hh (.inr (hi k (by simp [owns]))) (rowsO_B hrow) h2 hck (hu (by simp [owns]))
      · cases h
    case ptr k o =>
      cases tg with
      | false => cases h
      | true =>
        rw [cond_true] at h
        cases hb : boxO (nthB c.H k) with
        | none => rw [hb] at h; simp [fzO, fzPtr] at h
        | some cs =>
          rw [hb] at h
          simp only [fzO] at h
          cases hf : fzL (fz true c.H n) cs with
          | none => rw [hf] at h; simp [fzPtr] at h
          | some ws =>
            rw [hf] at h
            simp only [fzPtr, Option.some.injEq] at h
            subst h
            rw [R] at hr
            obtain ⟨_, hck, _, e⟩ := hr
            have hsu := hu (by simp [owns])
            obtain ⟨l, h1, h2⟩ := boxO_some hp hb
            have h3 := h1.sub (ck_or hck hsu)
            obtain ⟨B, hB1, hB2⟩ : ∃ B, nthB c.H k = some B ∧ NonE B := by
              unfold boxO at hb
              split at hb
              · rename_i e; exact ⟨_, e, trivial⟩
              · rename_i e; exact ⟨_, e, trivial⟩
              · cases hb
            obtain ⟨k4, k5⟩ := hh.own k (.inl rfl) l B hB1 hB2 h2 hck
            have h4 : RL d u' true ws l := fzL_ok (fun x hx w' a' hw hx' => fz_ok hp n (ownsL cs) (hh.any _) x w' a' (owns_mem hx) (fun _ => hsu) hw hx') hf h3
            simp only [R]
            refine ⟨c.ρ k, 0, l, by rw [Nat.zero_add]; exact e, k4, ?_, h4⟩
            have : l.length = ws.length := h4.length
            rw [← this]
            unfold rd
            rw [k5]
            simp only [rdIn]
            rw [Nat.ble_eq_true_of_le (by omega), cond_true]
            simp
    case fbp tg' cs o =>
      cases hc : (tg || !tg') with
      | false => rw [hc] at h; cases h
      | true =>
        rw [hc, cond_true, Option.some.injEq] at h
        subst h
        simp only [R] at hr ⊢
        obtain ⟨b, base, l, h1, h2, h3, h4⟩ := hr
        obtain ⟨k1, k2⟩ := hh.ext.rd h2 h3
        refine ⟨b, base, l, h1, ?_, k2, RL.monoF hh.ext cs true l h4⟩
        cases tg with
        | true => exact k1.tag
        | false => simp at hc; subst hc; exact k1
    case func f fs caps =>
      cases h1 : fzL (fz tg c.H n) fs with
      | none => rw [h1] at h; simp [fzFunc] at h
      | some x => cases h2 : fzL (fz tg c.H n) caps with
        | none => rw [h1, h2] at h; simp [fzFunc] at h
        | some y =>
          rw [h1, h2] at h
          simp only [fzFunc, Option.some.injEq] at h
          subst h
          rw [R] at hr ⊢
          obtain ⟨p, q, e, k1, k2⟩ := hr
          have hsub : ∀ x ∈ fs ++ caps, (∀ k ∈ owns x, k ∈ ids) ∧ (owns x ≠ [] → Sub hm u) := by
            intro x hx
            have hm' : ∀ k ∈ owns x, k ∈ owns (.func f fs caps) := by
              intro k hk
              simp only [owns, List.mem_append]
              rcases List.mem_append.1 hx with hx | hx
              · exact .inl (owns_mem hx k hk)
              · exact .inr (owns_mem hx k hk)
            refine ⟨fun k hk => hi k (hm' k hk), fun hne => hu (fun e => ?_)⟩
            cases ho : owns x with
            | nil => exact hne ho
            | cons k r =>
              have := hm' k (by rw [ho]; simp)
              rw [e] at this; simp at this
          exact ⟨p, q, e, fzL_ok (fun x hx w' a' hw hx' => fz_ok hp n ids hh x w' a' (hsub x (by simp [hx])).1 (hsub x (by simp [hx])).2 hw hx') h1 k1,
            fzL_ok (fun x hx w' a' hw hx' => fz_ok hp n ids hh x w' a' (hsub x (by simp [hx])).1 (hsub x (by simp [hx])).2 hw hx') h2 k2⟩
    case agg cs =>
      cases h1 : fzL (fz tg c.H n) cs with
      | none => rw [h1] at h; simp [aggO] at h
      | some x =>
        rw [h1] at h
        simp only [aggO, Option.some.injEq] at h
        subst h
        rw [R] at hr ⊢
        obtain ⟨p, e, k1⟩ := hr
        refine ⟨p, e, fzL_ok (fun x hx w' a' hw hx' => fz_ok hp n ids hh x w' a' (fun k hk => hi k (by simp only [owns]; exact owns_mem hx k hk)) (fun hne => hu (by simp only [owns]; exact owns_ne hx hne)) hw hx') h1 k1⟩

/-! ### Addresses and parts -/
theorem inN_S {i : Int} {n : Nat} (h : inN i n = true) : i = (i.toNat : Int) ∧ i.toNat < n := by
  unfold inN at h
  simp only [Bool.and_eq_true, decide_eq_true_eq] at h
  omega
theorem nat?_ofNat (n : Nat) : nat? (.int .i64 (n : Int)) = some n := rfl
theorem natO_int {i : Int} (h : 0 ≤ i) : natO (some (.int .i64 i)) = some i.toNat := by
  obtain ⟨n, rfl⟩ := Int.eq_ofNat_of_zero_le h
  rfl
theorem blt_true {a b : Nat} (h : a < b) : Nat.blt a b = true := bltOf h
theorem sl_rows {c : Ctx} {u s : Nat} {tg ex : Bool} {rows : List DV} {a : AV} {n : Nat} (h : R c u true (.list tg ex s rows) a) (hn : n < rows.length) :
    ∃ b o cap q x, a = .slice b o rows.length cap q ∧ x.length = s ∧ Sta c u tg b ∧ rd c.E c.M b (o + n * s) s = some x ∧ RL c u true (rows.getD n .undef).cells x := by
  simp only [R] at h
  obtain ⟨rcs, h1, h2, h3⟩ := h
  rcases h3 with ⟨e, _⟩ | ⟨b, o, cap, q, k1, k2, k3, k4, k5⟩
  · omega
  · obtain ⟨x, j1, j2, j3⟩ := row_at h1 h2 hn
    refine ⟨b, o, cap, q, x, k1, j2, k4, ?_, j3⟩
    exact rd_row (by rw [h1.length]; exact k5) h2 j1
theorem list_true {c : Ctx} {u s : Nat} {tg ex z : Bool} {rows : List DV} {a : AV} (h : R c u z (.list tg ex s rows) a) : R c u true (.list tg ex s rows) a := by
  simpa only [R] using h
theorem frz_list {c : Ctx} {hm u k s : Nat} {rows : List DV} {a : AV} (hp : Hp c hm) (hrow : nthB c.H k = some (.frz s rows)) (hck : Sub (c.ck k) u) (hu : Sub hm u) (ho : OwnR c u k a) : R c u true (.list false false s rows) a := by
  have hrow' : rowsO (nthB c.H k) = some (s, rows) := by rw [hrow]; rfl
  obtain ⟨nn, h1, h2⟩ := own_rows hp hrow' ho
  have hr := hp.hr k _ hrow
  simp only [R]
  obtain ⟨rcs, k1, k2, k3⟩ := h2
  have hlen := k1.length
  refine ⟨rcs, k1.sub (ck_or hck hu), k2, ?_⟩
  rcases h1 with ⟨j1, e | ⟨_, e | ⟨b, o, j3, j4, j5⟩⟩⟩ | ⟨j1, q, j2, j3⟩
  · exact .inl ⟨by rw [j1]; rfl, .inl e⟩
  · exact .inl ⟨by rw [j1]; rfl, .inr ⟨true, e, by simp⟩⟩
  · subst j1
    have : rcs = [] := by simpa using hlen
    subst this
    exact .inr ⟨b, o, 0, 0, j3, .inl rfl, by simp, j4, by simpa using j5⟩
  · refine .inr ⟨c.ρ k, 0, rows.length, q, j3, j2, ⟨Nat.le_refl _, fun e => absurd (List.eq_nil_of_length_eq_zero e) j1, by simp⟩, (hr.2 j1).mono hck, ?_⟩
    have := (k3 j1).rd
    rw [flat_length k2, hlen] at this
    exact this
theorem ixListK_ok {tg : Bool} {s : Nat} {rows : List DV} {i : Int} {H : VH} {k : K} {j : TyI} {rs : Option RS} {r : DV} (h : ixListK tg s rows i H k j rs = some r) :
    ∃ v, k v H = some r ∧ ∀ (c : Ctx) (u : Nat) (ex : Bool) (a : AV), R c u true (.list tg ex s rows) a → ∃ a', (match a with | .slice b o n _ _ => ptrE c.M b o n (some i.toNat) (some j) | _ => none) = some (a', c.M) ∧ 0 ≤ i ∧ R c u false v a' := by
  unfold ixListK at h
  split at h
  · rename_i rs
    cases hs : (Nat.beq s j.size && Nat.blt 0 s) with
    | false => rw [hs] at h; cases h
    | true =>
      rw [hs, cond_true] at h
      simp only [Bool.and_eq_true] at hs
      have := Nat.eq_of_beq_eq_true hs.1
      subst this
      cases hok : okR rows i rs with
      | false => rw [hok] at h; cases h
      | true =>
        rw [hok, cond_true] at h
        unfold okR at hok
        simp only [Bool.and_eq_true] at hok
        have hlt := inR_lt hok.1
        have h0 : 0 ≤ i := by
          have := hok.1
          unfold inR at this
          simp only [Bool.and_eq_true, decide_eq_true_eq] at this
          exact this.1
        refine ⟨_, h, fun c u ex a hr => ?_⟩
        obtain ⟨b, o, cap, q, x, e, k1, k2, k3, k4⟩ := sl_rows hr hlt
        subst e
        rw [rowCs_eq hok.2]
        refine ⟨.ptr b (o + i.toNat * j.size), by simp only [ptrE, bltOf hlt, cond_true], h0, ?_⟩
        simp only [R]
        exact ⟨b, o + i.toNat * j.size, x, rfl, k2, by rw [← k4.length, k1]; exact k3, k4⟩
  · cases h
theorem ixAddrK_ok {ty : Nat → Option TyI} {H : VH} {k : K} {x ix : Option DV} {t : Option TyI} {r : DV} (h : ixAddrK ty H k x ix t = some r) :
    ∃ d e v, x = some d ∧ ix = some e ∧ k v H = some r ∧ ∀ (c : Ctx) (hm u : Nat) (a b : AV), c.H = H → Hp c hm → (owns d ≠ [] → Sub hm u) → R c u false d a → R c u false e b → ∃ a', dIndexAddr ty c.M (some a) (natO (some b)) t = some (a', c.M) ∧ R c u false v a' := by
  unfold ixAddrK at h
  split at h
  · rename_i x i t
    split at h
    · rename_i e htd
      unfold ixSliceK at h
      split at h
      · rename_i j hj
        split at h
        · rename_i tg ex s rows
          obtain ⟨v, h1, h2⟩ := ixListK_ok h
          refine ⟨_, _, v, rfl, rfl, h1, fun c hm u a b _ _ _ hr hi => ?_⟩
          simp only [R] at hi
          subst hi
          obtain ⟨a', k1, k2, k3⟩ := h2 c u ex a (list_true hr)
          refine ⟨a', ?_, k3⟩
          simp only [dIndexAddr, htd, hj]
          rw [natO_int k2]
          cases a <;> first | exact k1 | (simp at k1; done)
        · rename_i b0
          split at h
          · rename_i nn s rows hrow
            unfold ixOwnK at h
            cases hs : (Nat.beq s j.size && Nat.blt 0 s) with
            | false => rw [hs] at h; cases h
            | true =>
              rw [hs, cond_true] at h
              simp only [Bool.and_eq_true] at hs
              have := Nat.eq_of_beq_eq_true hs.1
              subst this
              cases hok : inR i rows with
              | false => rw [hok] at h; cases h
              | true =>
                rw [hok, cond_true] at h
                have hlt := inR_lt hok
                have h0 : 0 ≤ i := by
                  have := hok
                  unfold inR at this
                  simp only [Bool.and_eq_true, decide_eq_true_eq] at this
                  exact this.1
                refine ⟨_, _, _, rfl, rfl, h, fun c hm u a b hH hp _ hr hi => ?_⟩
                subst hH
                simp only [R] at hi
                subst hi
                rw [R] at hr
                obtain ⟨_, hck, ho⟩ := hr
                unfold OwnR at ho
                rw [hrow] at ho
                rcases ho with ⟨e1, _⟩ | ⟨e1, q, _, e2⟩
                · subst e1; simp at hlt
                · subst e2
                  refine ⟨.ptr (c.ρ b0) (i.toNat * j.size), ?_, ?_⟩
                  · simp only [dIndexAddr, htd, hj]
                    rw [natO_int h0]
                    simp only [ptrE, bltOf hlt, cond_true, Nat.zero_add]
                  · rw [R]
                    refine ⟨rfl, hck, ?_⟩
                    unfold ElpR
                    rw [hrow]
                    exact ⟨rfl, hok⟩
          · rename_i s rows hrow
            obtain ⟨v, h1, h2⟩ := ixListK_ok h
            refine ⟨_, _, v, rfl, rfl, h1, fun c hm u a b hH hp hu hr hi => ?_⟩
            subst hH
            simp only [R] at hi
            subst hi
            rw [R] at hr
            obtain ⟨_, hck, ho⟩ := hr
            obtain ⟨a', k1, k2, k3⟩ := h2 c u false a (frz_list hp hrow hck (hu (by simp [owns])) ho)
            refine ⟨a', ?_, k3⟩
            simp only [dIndexAddr, htd, hj]
            rw [natO_int k2]
            cases a <;> first | exact k1 | (simp at k1; done)
          · cases h
        · cases h
      · cases h
    · rename_i n e htd
      unfold ixArrK at h
      split at h
      · rename_i j hj
        cases hin : inN i n with
        | false => rw [hin] at h; cases h
        | true =>
          rw [hin, cond_true] at h
          obtain ⟨h0, hlt⟩ := inN_S hin
          have h0' : 0 ≤ i := by omega
          split at h
          · rename_i b0 o0
            refine ⟨_, _, _, rfl, rfl, h, fun c hm u a b hH hp _ hr hi => ?_⟩
            simp only [R] at hi
            subst hi
            rw [R] at hr
            obtain ⟨_, hck, hb, e2⟩ := hr
            subst e2
            refine ⟨.ptr (c.ρ b0) (o0 + i.toNat * j.size), ?_, ?_⟩
            · simp only [dIndexAddr, htd, hj]
              rw [natO_int h0']
              simp only [ptrE, bltOf hlt, cond_true]
            · rw [R]
              exact ⟨rfl, hck, hb, rfl⟩
          · rename_i tg cs o0
            refine ⟨_, _, _, rfl, rfl, h, fun c hm u a b hH hp _ hr hi => ?_⟩
            simp only [R] at hi
            subst hi
            rw [R] at hr
            obtain ⟨b', base, l, e2, k1, k2, k3⟩ := hr
            subst e2
            refine ⟨.ptr b' (base + o0 + i.toNat * j.size), ?_, ?_⟩
            · simp only [dIndexAddr, htd, hj]
              rw [natO_int h0']
              simp only [ptrE, bltOf hlt, cond_true]
            · rw [R]
              exact ⟨b', base, l, by simp only [Nat.add_assoc], k1, k2, k3⟩
          · cases h
      · cases h
    · cases h
  · cases h
theorem fldAddrK_ok {ty : Nat → Option TyI} {H : VH} {k : K} {f : Nat} {x : Option DV} {t : Option TyI} {r : DV} (h : fldAddrK ty H k f x t = some r) :
    ∃ d v, x = some d ∧ k v H = some r ∧ ∀ (c : Ctx) (u : Nat) (a : AV), R c u false d a → ∃ a', dFieldAddr ty c.M (some a) f t = some (a', c.M) ∧ R c u false v a' := by
  unfold fldAddrK at h
  split at h
  · rename_i x i
    split at h
    · rename_i fs htd
      split at h
      · rename_i fo ft hf
        unfold fldAddr2 at h
        split at h
        · rename_i j hj
          cases hz : Nat.beq j.size 0 with
          | true => rw [hz] at h; cases h
          | false =>
            rw [hz, cond_false] at h
            split at h
            · refine ⟨_, _, rfl, h, fun c u a hr => ?_⟩
              rw [R] at hr
              obtain ⟨_, hck, hb, e2⟩ := hr
              subst e2
              refine ⟨_, by simp only [dFieldAddr, htd, hf, ptrF, hj, hz, cond_false]; rfl, ?_⟩
              rw [R]
              exact ⟨rfl, hck, hb, rfl⟩
            · refine ⟨_, _, rfl, h, fun c u a hr => ?_⟩
              rw [R] at hr
              obtain ⟨b', base, l, e2, k1, k2, k3⟩ := hr
              subst e2
              refine ⟨_, by simp only [dFieldAddr, htd, hf, ptrF, hj, hz, cond_false]; rfl, ?_⟩
              rw [R]
              exact ⟨b', base, l, by simp only [Nat.add_assoc], k1, k2, k3⟩
            · cases h
        · cases h
      · cases h
    · cases h
  · cases h
theorem partV_ok {c : Ctx} {u : Nat} {z : Bool} {cs : List DV} {l : List AV} {o : Nat} {i : Option TyI} {v : DV} (h : partV cs o i = some v) (hr : RL c u z cs l) : ∃ a, partA l o i = some a ∧ R c u z v a := by
  unfold partV at h
  split at h
  · rename_i i
    unfold takeV at h
    simp only [partA]
    have hl := hr.length
    cases hi : i.isAgg with
    | true =>
      rw [hi, cond_true] at h
      rw [cond_true]
      cases hb : Nat.ble (o + i.size) cs.length with
      | false => rw [hb] at h; cases h
      | true =>
        rw [hb, cond_true, Option.some.injEq] at h
        subst h
        have := bleT hb
        simp only [rdIn, Nat.ble_eq_true_of_le (show o + i.size ≤ l.length by omega), cond_true]
        refine ⟨_, rfl, ?_⟩
        simp only [R]
        exact ⟨_, rfl, (hr.drop o).take i.size⟩
    | false =>
      rw [hi, cond_false] at h
      rw [cond_false]
      obtain ⟨a, h1, h2⟩ := hr.get h
      have hlt := (List.getElem?_eq_some_iff.1 h1).1
      simp only [rdIn, Nat.ble_eq_true_of_le (show o + 1 ≤ l.length by omega), cond_true, take1 h1]
      exact ⟨a, rfl, h2⟩
  · cases h
theorem fieldK_ok {ty : Nat → Option TyI} {H : VH} {k : K} {f : Nat} {x : Option DV} {t : Option TyI} {r : DV} (h : fieldK ty H k f x t = some r) :
    ∃ d v, x = some d ∧ k v H = some r ∧ ∀ (c : Ctx) (u : Nat) (a : AV), R c u false d a → ∃ a', dField ty c.M (some a) f t = some (a', c.M) ∧ R c u false v a' := by
  unfold fieldK at h
  split at h
  · rename_i cs i
    split at h
    · rename_i fs htd
      split at h
      · rename_i fo ft hf
        obtain ⟨v, h1, h2⟩ := retK_ok h
        refine ⟨_, v, rfl, h2, fun c u a hr => ?_⟩
        simp only [R] at hr
        obtain ⟨l, rfl, hl⟩ := hr
        obtain ⟨a', k1, k2⟩ := partV_ok h1 hl
        exact ⟨a', by simp only [dField, htd, hf, k1, d1], k2⟩
      · cases h
    · cases h
  · cases h
theorem indexK_ok {ty : Nat → Option TyI} {H : VH} {k : K} {x ix : Option DV} {t : Option TyI} {r : DV} (h : indexK ty H k x ix t = some r) :
    ∃ d e v, x = some d ∧ ix = some e ∧ k v H = some r ∧ ∀ (c : Ctx) (u : Nat) (a b : AV), R c u false d a → R c u false e b → ∃ a', dIndex ty c.M (some a) (natO (some b)) t = some (a', c.M) ∧ R c u false v a' := by
  unfold indexK at h
  split at h
  · rename_i cs i t
    split at h
    · rename_i n e htd
      unfold ixValK at h
      split at h
      · rename_i j hj
        cases hin : inN i n with
        | false => rw [hin] at h; cases h
        | true =>
          rw [hin, cond_true] at h
          obtain ⟨h0, hlt⟩ := inN_S hin
          obtain ⟨v, h1, h2⟩ := retK_ok h
          refine ⟨_, _, v, rfl, rfl, h2, fun c u a b hr hi => ?_⟩
          simp only [R] at hr hi
          subst hi
          obtain ⟨l, rfl, hl⟩ := hr
          obtain ⟨a', k1, k2⟩ := partV_ok h1 hl
          refine ⟨a', ?_, k2⟩
          simp only [dIndex, htd, hj]
          rw [natO_int (by omega)]
          simp only [idxE, bltOf hlt, cond_true, k1, d1]
      · cases h
    · cases h
  · cases h
theorem nth_get : ∀ (l : List AV) (n : Nat), nth l n = l[n]?
  | [], n => by simp [nth]
  | v :: l, 0 => by simp [nth]
  | v :: l, n + 1 => by simp [nth, nth_get l n]
theorem extK_ok {ix : Nat} {H : VH} {k : K} {x : Option DV} {r : DV} (h : extK ix H k x = some r) :
    ∃ d v, x = some d ∧ k v H = some r ∧ ∀ (c : Ctx) (u : Nat) (a : AV), R c u false d a → ∃ a', dExtract c.M ix (some a) = some (a', c.M) ∧ R c u false v a' := by
  unfold extK at h
  split at h
  · rename_i vs
    obtain ⟨v, h1, h2⟩ := retK_ok h
    refine ⟨_, v, rfl, h2, fun c u a hr => ?_⟩
    simp only [R] at hr
    obtain ⟨l, rfl, hl⟩ := hr
    obtain ⟨a', k1, k2⟩ := hl.get h1
    exact ⟨a', by simp only [dExtract, nth_get, k1, d1], k2⟩
  · cases h
theorem isI64_some {t : Option TyI} (h : isI64 t = true) : ∃ i n, t = some i ∧ i.zero = .int .i64 n := by
  unfold isI64 at h
  split at h
  · split at h
    · rename_i hz; exact ⟨_, _, rfl, hz⟩
    · cases h
  · cases h
theorem convK_ok {H : VH} {k : K} {s d : Option TyI} {x : Option DV} {r : DV} (h : convK H k (isI64 s) (isI64 d) x = some r) :
    ∃ e v, x = some e ∧ k v H = some r ∧ ∀ (c : Ctx) (u : Nat) (a : AV), R c u false e a → ∃ a', dConv c.M (some a) (zeroO s) (zeroO d) = some (a', c.M) ∧ R c u false v a' := by
  unfold convK at h
  split at h
  · rename_i n
    cases hc : (isI64 s && isI64 d) with
    | false => rw [hc] at h; cases h
    | true =>
      rw [hc, cond_true] at h
      simp only [Bool.and_eq_true] at hc
      obtain ⟨i, p, hi, hz⟩ := isI64_some hc.1
      obtain ⟨i', p', hi', hz'⟩ := isI64_some hc.2
      refine ⟨_, _, rfl, h, fun c u a hr => ?_⟩
      simp only [R] at hr
      subst hr
      exact ⟨.int .i64 (w64 n), by simp only [dConv, hi, hi', zeroO, hz, hz', convA]; rfl, by simp only [R]⟩
  · cases h
theorem nilCK_ok {H : VH} {k : K} {x : Option DV} {r : DV} (h : nilCK H k x = some r) :
    ∃ d v, x = some d ∧ k v H = some r ∧ ∀ (c : Ctx) (u : Nat) (a : AV), R c u false d a → ∃ a', dNil c.M (some a) = some (a', c.M) ∧ R c u false v a' := by
  unfold nilCK at h
  split at h
  · refine ⟨_, _, rfl, h, fun c u a hr => ?_⟩
    have hr' := hr
    rw [R] at hr
    obtain ⟨_, _, _, e⟩ := hr
    subst e
    exact ⟨_, rfl, hr'⟩
  · refine ⟨_, _, rfl, h, fun c u a hr => ?_⟩
    have hr' := hr
    rw [R] at hr
    obtain ⟨b, base, l, e, _⟩ := hr
    subst e
    exact ⟨_, rfl, hr'⟩
  · refine ⟨_, _, rfl, h, fun c u a hr => ?_⟩
    have hr' := hr
    rw [R] at hr
    obtain ⟨b, base, e, _⟩ := hr
    subst e
    exact ⟨_, rfl, hr'⟩
  · cases h
theorem lenK_ok {H : VH} {k : K} {x : DV} {t : Option TyI} {r : DV} (h : lenK H k x t = some r) :
    ∃ v, k v H = some r ∧ ∀ (c : Ctx) (u : Nat) (a : AV), c.H = H → R c u false x a → ∃ a', lenA c.M a t = some (a', c.M) ∧ R c u false v a' := by
  unfold lenK at h
  split at h
  · rename_i i
    split at h
    · rename_i e htd
      split at h
      · refine ⟨_, h, fun c u a _ hr => ?_⟩
        simp only [R] at hr
        subst hr
        exact ⟨_, by simp only [lenA, htd]; rfl, by simp only [R]⟩
      · rename_i x hx
        split at h
        · rename_i s rows hrow
          refine ⟨_, h, fun c u a hH hr => ?_⟩
          subst hH
          refine ⟨.int .i64 rows.length, ?_, by simp only [R]⟩
          simp only [lenA, htd]
          unfold rowsV at hrow
          split at hrow
          · rename_i tg ex s' rows'
            cases hrow
            simp only [R] at hr
            obtain ⟨rcs, h1, h2, h3⟩ := hr
            rcases h3 with ⟨e1, e2 | ⟨z, e2, _⟩⟩ | ⟨b, o, cap, q, e2, _⟩
            · subst e2; rw [e1]; rfl
            · subst e2; rw [e1]; rfl
            · subst e2; rfl
          · rename_i b
            rw [R] at hr
            obtain ⟨_, _, ho⟩ := hr
            have key : ∀ nn, OwnV c u nn s b rows a → lenA c.M a (some { i with td := .slice e }) = some (AV.int .i64 rows.length, c.M) := by
              intro nn ho
              rcases ho with ⟨e1, e | ⟨_, e | ⟨b', o, e, _⟩⟩⟩ | ⟨e1, q, _, e⟩
              · subst e; rw [e1]; rfl
              · subst e; rw [e1]; rfl
              · subst e; rw [e1]; rfl
              · subst e; rfl
            have key2 : ∀ nn, OwnV c u nn s b rows a → lenA c.M a (some i) = some (AV.int .i64 rows.length, c.M) := by
              intro nn ho
              have := key nn ho
              simp only [lenA, htd] at this ⊢
              exact this
            have key3 : lenA c.M a (some i) = some (AV.int .i64 rows.length, c.M) := by
              unfold OwnR at ho
              unfold rowsO at hrow
              split at hrow
              · rename_i e; cases hrow; rw [e] at ho; exact key2 _ ho
              · rename_i e; cases hrow; rw [e] at ho; exact key2 _ ho
              · cases hrow
            simp only [lenA, htd] at key3
            exact key3
          · cases hrow
        · cases h
    · rename_i n e htd
      refine ⟨_, h, fun c u a _ hr => ⟨_, by simp only [lenA, htd]; rfl, by simp only [R]⟩⟩
    · cases h
  · cases h
theorem max2V_eq (m : Bool) (x y : Int) : max2 m x y = max2V m x y := by
  unfold max2 max2V
  cases m with
  | true =>
    simp only [cond_true]
    by_cases h : x < y
    · rw [decide_eq_true h, cond_true]; omega
    · rw [decide_eq_false h, cond_false]; omega
  | false =>
    simp only [cond_false]
    by_cases h : y < x
    · rw [decide_eq_true h, cond_true]; omega
    · rw [decide_eq_false h, cond_false]; omega
theorem mmL_ok {c : Ctx} {u : Nat} {m : Bool} : ∀ {vs : List DV} {l : List AV} {x : Int} {v : DV}, mmL m x vs = some v → RL c u false vs l → ∃ a, minmaxL m .i64 x l = some a ∧ R c u false v a
  | [], l, x, v, h, hr => by
    simp only [RL] at hr
    subst hr
    simp only [mmL, Option.some.injEq] at h
    subst h
    exact ⟨_, rfl, by simp only [R]⟩
  | .int y :: vs, l, x, v, h, hr => by
    simp only [RL, R] at hr
    obtain ⟨a, r, rfl, rfl, hr⟩ := hr
    simp only [mmL] at h
    obtain ⟨a', k1, k2⟩ := mmL_ok h hr
    exact ⟨a', by simp only [minmaxL]; rw [max2V_eq]; exact k1, k2⟩
  | .bool _ :: _, _, _, _, h, _ => by simp [mmL] at h
  | .nilp :: _, _, _, _, h, _ => by simp [mmL] at h
  | .nils :: _, _, _, _, h, _ => by simp [mmL] at h
  | .nilf :: _, _, _, _, h, _ => by simp [mmL] at h
  | .undef :: _, _, _, _, h, _ => by simp [mmL] at h
  | .list .. :: _, _, _, _, h, _ => by simp [mmL] at h
  | .agg _ :: _, _, _, _, h, _ => by simp [mmL] at h
  | .tup _ :: _, _, _, _, h, _ => by simp [mmL] at h
  | .func .. :: _, _, _, _, h, _ => by simp [mmL] at h
  | .own _ :: _, _, _, _, h, _ => by simp [mmL] at h
  | .ptr .. :: _, _, _, _, h, _ => by simp [mmL] at h
  | .fbp .. :: _, _, _, _, h, _ => by simp [mmL] at h
  | .elp .. :: _, _, _, _, h, _ => by simp [mmL] at h
theorem mmK_ok {m : Bool} {H : VH} {k : K} {x : Option (List DV)} {r : DV} (h : mmK m H k x = some r) :
    ∃ ds v, x = some ds ∧ k v H = some r ∧ ∀ (c : Ctx) (u : Nat) (l : List AV), RL c u false ds l → ∃ a', lst? c.M (minmax m) (some l) = some (a', c.M) ∧ R c u false v a' := by
  unfold mmK at h
  split at h
  · rename_i x l
    obtain ⟨v, h1, h2⟩ := retK_ok h
    refine ⟨_, v, rfl, h2, fun c u l hr => ?_⟩
    simp only [RL, R] at hr
    obtain ⟨a, r, rfl, rfl, hr⟩ := hr
    obtain ⟨a', k1, k2⟩ := mmL_ok h1 hr
    exact ⟨a', by simp only [lst?, minmax, k1, d1], k2⟩
  · cases h
end Go.Vx
/- V, text 7: operations that lay blocks. -/
namespace Go.Vx
open Go.Sx

theorem lm_bit {li : Option Nat} {u j : Nat} (h : li = some j) : (u ||| lm li).testBit j = true := by
  subst h
  rw [Nat.testBit_or, Bool.or_eq_true]
  right
  simp [lm, Nat.one_shiftLeft, Nat.testBit_two_pow_self]
theorem post_push {c : Ctx} {hm u : Nat} {li : Option Nat} (hp : Hp c hm) {l : List AV} {B : VB} {v : DV} {a : AV} (hl : l.all AV.isCell = true) (hid : ∀ i ∈ AV.idsL l, Okid c i) (hB : HRk (c.push l B li (u ||| lm li)) hm c.H.length B) (hr : R (c.push l B li (u ||| lm li)) (u ||| lm li) false v a) :
    Post c (c.push l B li (u ||| lm li)) 1 li (u ||| lm li) hm v a (pushB c.H B) := by
  refine ⟨rfl, rfl, rfl, rfl, fun m => push_ext hp l B li _ m, push_hp hp hl hid hB, hr, ?_, Nat.le_refl _, fun b hb => ?_, fun b h1 h2 => ?_⟩
  · show c.M.n ≤ c.M.n + 1; omega
  · refine updN_other _ _ ?_
    have : (c.push l B li (u ||| lm li)).nb = c.nb + 1 := by show c.E.m0 + (c.M.n + 1) = _; unfold Ctx.nb; omega
    rw [this] at hb; omega
  · have : (c.push l B li (u ||| lm li)).nb = c.nb + 1 := by show c.E.m0 + (c.M.n + 1) = _; unfold Ctx.nb; omega
    rw [this] at h2
    have e : b = c.nb := by omega
    subst e
    exact updN_same _ _ _
theorem push_sub {c : Ctx} {hm u : Nat} {li : Option Nat} {l : List AV} {B : VB} : Sub u ((c.push l B li (u ||| lm li)).ck c.H.length ||| hm) := by
  rw [show (c.push l B li (u ||| lm li)).ck c.H.length = u ||| lm li from updN_same _ _ _]
  exact Sub.trans (Sub.orl u _) (Sub.orl _ _)
theorem boxK_ok {H : VH} {k : K} {x : Option DV} {r : DV} (h : boxK H k x = some r) :
    ∃ d v H', x = some d ∧ k v H' = some r ∧ ∀ (c : Ctx) (hm u : Nat) (li : Option Nat) (a : AV), c.H = H → Hp c hm → R c u false d a → ∃ a' c', dBox c.E c.M (some a) = some (a', c'.M) ∧ Post c c' 1 li (u ||| lm li) hm v a' H' := by
  unfold boxK at h
  split at h
  · rename_i d
    cases hc0 : (d.cells.all DV.isCell && noDead H (owns d)) with
    | false => rw [hc0] at h; cases h
    | true =>
      rw [hc0, cond_true] at h
      simp only [Bool.and_eq_true] at hc0
      obtain ⟨hc, hnd⟩ := hc0
      refine ⟨d, _, _, rfl, h, fun c hm u li a hH hp hr => ?_⟩
      subst hH
      have hcs := hr.cells
      have hall := hcs.cellsAll hc
      have hisc : isCells a = true := by
        cases hda : d.isAgg with
        | true =>
          cases d <;> simp [DV.isAgg] at hda
          simp only [R] at hr
          obtain ⟨l, rfl, _⟩ := hr
          exact hall
        | false =>
          have e := hr.notAgg hda
          rw [e] at hall
          simp only [List.all_cons, List.all_nil, Bool.and_true] at hall
          cases a <;> simp [AV.isCell] at hall <;> rfl
      refine ⟨.ptr c.nb 0, c.push a.cells (.box d.cells) li (u ||| lm li), ?_, ?_⟩
      · simp only [dBox, hisc, cond_true]; rfl
      · refine post_push hp hall (RL.ids hp (by rw [owns_cells d (cells_or d)]; exact hnd) hcs) ?_ ?_
        · refine ⟨a.cells, (RL.mono (push_ext hp _ _ _ _ u) _ _ _ hcs).sub push_sub, push_blk (fun j e => lm_bit e)⟩
        · rw [R]
          have e1 : (c.push a.cells (.box d.cells) li (u ||| lm li)).ck c.H.length = u ||| lm li := updN_same _ _ _
          have e2 : (c.push a.cells (.box d.cells) li (u ||| lm li)).ρ c.H.length = c.nb := updN_same _ _ _
          refine ⟨rfl, by rw [e1]; exact Sub.refl _, ⟨d.cells, ?_⟩, by rw [e2]⟩
          show boxO (nthB (pushB c.H _) _) = _
          rw [nthB_push, if_pos rfl]; rfl
  · cases h

/-! ### Structs, rows -/
theorem fillV_ok {c : Ctx} {u : Nat} {T : VT} {TS : Tbl AV} {ops : List Operand} (hO : Opn c u T TS ops) {place : Nat → Option (Nat × Nat)} : ∀ {parts : List (Nat × Operand)} {cs ws : List DV} {l : List AV}, (∀ p ∈ parts, p.2 ∈ ops) → fillV place T parts (some cs) = some ws → RL c u false cs l →
    ∃ l', fillA place TS parts (some l) = some l' ∧ RL c u false ws l'
  | [], cs, ws, l, _, h, hr => by
    simp only [fillV, Option.some.injEq] at h; subst h
    exact ⟨l, rfl, hr⟩
  | (i, x) :: parts, cs, ws, l, hm, h, hr => by
    simp only [fillV] at h
    cases h1 : fill1V cs (opdV T x) (place i) with
    | none => rw [h1] at h; cases parts <;> simp [fillV] at h
    | some cs' =>
      rw [h1] at h
      unfold fill1V at h1
      split at h1
      · rename_i o s hpl
        split at h1
        · rename_i v hv
          cases hc : (Nat.beq v.cells.length s && Nat.ble (o + s) cs.length) with
          | false => rw [hc] at h1; cases h1
          | true =>
            rw [hc, cond_true, Option.some.injEq] at h1
            subst h1
            obtain ⟨a, k1, k2⟩ := hO x (hm (i, x) (by simp)) v hv
            have hcs := k2.cells
            obtain ⟨l', j1, j2⟩ := fillV_ok hO (fun p hp => hm p (by simp [hp])) h (hr.splice hcs)
            refine ⟨l', ?_, j2⟩
            simp only [fillA, fill1, hpl, k1]
            rw [hcs.length, hr.length, hc, cond_true]
            exact j1
        · cases h1
      · cases h1
theorem cellsO_ok {c : Ctx} {u : Nat} {z : AV} {cs : List DV} (h : cellsO (dvA z) = some cs) : RL c u false cs z.cells := by
  unfold cellsO at h
  split at h
  · rename_i v hv; cases h; exact (dvA_R z v hv).cells.thaw
  · cases h
theorem buildK_ok {ty : Nat → Option TyI} {T : VT} {H : VH} {k : K} {parts : List (Nat × Operand)} {t : Option TyI} {r : DV} (h : buildK ty T H k parts t = some r) :
    ∃ v, k v H = some r ∧ ∀ (c : Ctx) (u : Nat) (TS : Tbl AV) (ops : List Operand), Opn c u T TS ops → (∀ p ∈ parts, p.2 ∈ ops) → ∃ a, dBuild ty TS c.M parts t = some (a, c.M) ∧ R c u false v a := by
  unfold buildK at h
  have key : ∀ {place : Nat → Option (Nat × Nat)} {z : AV} {o : Option (List DV)}, aggV H k (fillV place T parts o) = some r → o = cellsO (dvA z) →
      ∃ v, k v H = some r ∧ ∀ (c : Ctx) (u : Nat) (TS : Tbl AV) (ops : List Operand), Opn c u T TS ops → (∀ p ∈ parts, p.2 ∈ ops) → ∃ a, aggR c.M (fillA place TS parts (some z.cells)) = some (a, c.M) ∧ R c u false v a := by
    intro place z o h ho
    subst ho
    unfold aggV at h
    split at h
    · rename_i cs hcs
      refine ⟨_, h, fun c u TS ops hO hm => ?_⟩
      cases hz : cellsO (dvA z) with
      | none => rw [hz] at hcs; cases parts <;> simp [fillV] at hcs
      | some zs =>
        rw [hz] at hcs
        obtain ⟨l', j1, j2⟩ := fillV_ok hO hm hcs (cellsO_ok hz)
        exact ⟨.agg l', by rw [j1]; rfl, by simp only [R]; exact ⟨l', rfl, j2⟩⟩
    · cases h
  split at h
  · rename_i i
    split at h
    · rename_i fs htd
      obtain ⟨v, h1, h2⟩ := key h rfl
      exact ⟨v, h1, fun c u TS ops hO hm => by
        obtain ⟨a, k1, k2⟩ := h2 c u TS ops hO hm
        exact ⟨a, by simp only [dBuild, htd]; exact k1, k2⟩⟩
    · rename_i n e htd
      unfold buildA at h
      split at h
      · rename_i j hj
        obtain ⟨v, h1, h2⟩ := key h rfl
        exact ⟨v, h1, fun c u TS ops hO hm => by
          obtain ⟨a, k1, k2⟩ := h2 c u TS ops hO hm
          exact ⟨a, by simp only [dBuild, htd, dBuildA, hj]; exact k1, k2⟩⟩
      · cases h
    · cases h
  · cases h

/-- A new row of rows. -/
theorem post_row {c : Ctx} {hm u s q : Nat} {li : Option Nat} {nn : Bool} (hp : Hp c hm) {rows : List DV} {rcs : List (List AV)} (h1 : RRows c u rows rcs) (h2 : ∀ l ∈ rcs, l.length = s) (hq : q = 0 ∨ q = s) (hnn : rows = [] → nn = false ∧ q = 0) (hall : rcs.flatten.all AV.isCell = true) :
    Post c (c.push rcs.flatten (.row nn s rows) li (u ||| lm li)) 1 li (u ||| lm li) hm (.own c.H.length) (.slice c.nb 0 rows.length rows.length q) (pushB c.H (.row nn s rows)) := by
  have e1 : (c.push rcs.flatten (.row nn s rows) li (u ||| lm li)).ck c.H.length = u ||| lm li := updN_same _ _ _
  have e2 : (c.push rcs.flatten (.row nn s rows) li (u ||| lm li)).ρ c.H.length = c.nb := updN_same _ _ _
  have hblk := push_blk (c := c) (l := rcs.flatten) (B := .row nn s rows) (u := u ||| lm li) (fun j e => lm_bit (li := li) e)
  refine post_push hp hall (RRows.ids hp h1) ?_ ?_
  · exact ⟨rcs, (RRows.mono (push_ext hp _ _ _ _ u) _ _ h1).sub push_sub, h2, fun _ => hblk⟩
  · rw [R]
    refine ⟨rfl, by rw [e1]; exact Sub.refl _, ?_⟩
    unfold OwnR
    have eH : nthB (c.push rcs.flatten (.row nn s rows) li (u ||| lm li)).H c.H.length = some (.row nn s rows) := by
      show nthB (pushB c.H _) _ = _
      rw [nthB_push, if_pos rfl]
    rw [eH]
    by_cases hr : rows = []
    · obtain ⟨hn, hq0⟩ := hnn hr
      left
      refine ⟨hr, .inr ⟨hn, .inr ⟨c.nb, 0, by rw [hr, hq0]; rfl, ⟨fun hmut => ?_, fun _ ht => ?_, ?_⟩, ?_⟩⟩⟩
      · rcases hmut with ⟨k, m1, m2⟩
        by_cases ek : k = c.H.length
        · subst ek
          unfold Mutk at m1
          rw [eH] at m1
          exact m1 hr
        · have hm1 : Mutk c.H k := by
            unfold Mutk at m1 ⊢
            have : nthB (c.push rcs.flatten (.row nn s rows) li (u ||| lm li)).H k = nthB c.H k := by
              show nthB (pushB c.H _) _ = _
              rw [nthB_push, if_neg ek]
            rw [this] at m1; exact m1
          have := (Mut.ge hp ⟨k, hm1, rfl⟩).2
          rw [show (c.push rcs.flatten (.row nn s rows) li (u ||| lm li)).ρ k = c.ρ k from updN_other _ _ ek] at m2
          unfold Ctx.nb at m2; omega
      · have := hp.ta _ ht
        unfold Ctx.nb at this; omega
      · have := hblk.vis
        rw [e1, e2] at this; exact this
      · have := hblk.rd
        rw [e2] at this
        have hz : rcs = [] := by have := h1.length; rw [hr] at this; simpa using this
        rw [hz] at this ⊢
        simpa using this
    · exact .inr ⟨hr, q, hq, by rw [e2]⟩
theorem repl_flat (n : Nat) (cs : List AV) : repl n cs = (List.replicate n cs).flatten := by
  induction n with
  | zero => rfl
  | succ n ih => simp only [repl, ih, List.replicate_succ, List.flatten_cons]
theorem zrOk_RL {c : Ctx} {u : Nat} {z : Bool} : ∀ {css : List CS} {l : List AV}, zrOk css l = true → RL c u z (css.map zrC) l ∧ l.length = css.length
  | [], l, h => by cases l <;> simp [zrOk] at h; simp [RL]
  | s :: css, l, h => by
    cases l with
    | nil => cases s <;> simp [zrOk] at h
    | cons a l =>
      unfold zrOk at h
      split at h
      · rename_i e; cases e
      · rename_i e1 e2; cases e1; cases e2
        simp only [Bool.and_eq_true, decide_eq_true_eq] at h
        obtain ⟨k1, k2⟩ := zrOk_RL (c := c) (u := u) (z := z) h.2
        simp only [List.map_cons, RL]
        exact ⟨⟨_, _, rfl, by rw [h.1]; simp [zrC, R], k1⟩, by simp [k2]⟩
      · rename_i e1 e2; cases e1; cases e2
        simp only [Bool.and_eq_true, Bool.not_eq_true'] at h
        obtain ⟨k1, k2⟩ := zrOk_RL (c := c) (u := u) (z := z) h.2
        simp only [List.map_cons, RL]
        exact ⟨⟨_, _, rfl, by rw [h.1]; simp [zrC, R], k1⟩, by simp [k2]⟩
      · rename_i e1 e2; cases e1; cases e2
        obtain ⟨k1, k2⟩ := zrOk_RL (c := c) (u := u) (z := z) h
        simp only [List.map_cons, RL]
        exact ⟨⟨_, _, rfl, by simp only [zrC, R]; exact ⟨[], by simp [RRows], by simp, .inl ⟨rfl, .inl rfl⟩⟩, k1⟩, by simp [k2]⟩
      · cases h
theorem rsOf_one {ty : Nat → Option TyI} {t : Nat} {r : RS} (h : rsOf ty t = some r) : (∃ i, ty t = some i ∧ r.css.length = i.size ∧ r.ag = i.isAgg) ∧ (r.ag = false → ∃ x, r.css = [x]) := by
  unfold rsOf at h
  cases hi : ty t with
  | none => rw [hi] at h; simp [rsOf1] at h
  | some i =>
    rw [hi] at h
    simp only [rsOf1] at h
    cases hs : shT ty 6 t with
    | none => rw [hs] at h; simp [rsOf2] at h
    | some css =>
      rw [hs] at h
      simp only [rsOf2] at h
      cases hb : Nat.beq css.length i.size with
      | false => rw [hb] at h; cases h
      | true =>
        rw [hb, cond_true, Option.some.injEq] at h
        subst h
        refine ⟨⟨i, rfl, Nat.eq_of_beq_eq_true hb, rfl⟩, fun hag => ?_⟩
        simp only [shT, hi] at hs
        simp only [TyI.isAgg, TD.isAgg] at hag
        split at hs
        · rename_i e; rw [e] at hag; cases hag
        · rename_i e; rw [e] at hag; cases hag
        · unfold sizeO at hs
          split at hs
          · cases hs; exact ⟨_, rfl⟩
          · cases hs
        · unfold leafC at hs
          split at hs
          · cases hs; exact ⟨_, rfl⟩
          · cases hs; exact ⟨_, rfl⟩
          · cases hs
theorem zRow_ok {c : Ctx} {u : Nat} {r : RS} {l : List AV} (hone : r.ag = false → ∃ x, r.css = [x]) (h : zrOk r.css l = true) : RRow c u (zRow r) l ∧ (zRow r).cells.all DV.isCell = true ∧ l.length = r.css.length := by
  obtain ⟨k1, k2⟩ := zrOk_RL (c := c) (u := u) (z := true) h
  have hcell : ∀ (css : List CS), (css.map zrC).all DV.isCell = true := by
    intro css
    induction css with
    | nil => rfl
    | cons s css ih => simp only [List.map_cons, List.all_cons, ih, Bool.and_true]; cases s <;> rfl
  have hnt : ∀ (css : List CS), ntL (css.map zrC) := by
    intro css
    induction css with
    | nil => simp [ntL]
    | cons s css ih => simp only [List.map_cons, ntL]; exact ⟨by cases s <;> simp [zrC, nt, ntL], ih⟩
  have hntr : nt (zRow r) := nt_mkRow (hnt _)
  unfold zRow mkRow at hntr ⊢
  cases hag : r.ag with
  | true =>
    rw [hag] at hntr
    rw [cond_true] at hntr ⊢
    exact ⟨⟨.inl ⟨rfl, by simp only [R]; exact ⟨l, rfl, k1⟩⟩, hntr⟩, hcell _, k2⟩
  | false =>
    rw [hag] at hntr
    rw [cond_false] at hntr ⊢
    obtain ⟨x, hx⟩ := hone hag
    rw [hx] at k1 k2 hntr ⊢
    simp only [List.map_cons, List.map_nil, List.headD_cons, RL] at k1 ⊢
    obtain ⟨a, _, rfl, k3, rfl⟩ := k1
    have e : (zrC x).isAgg = false ∧ (zrC x).cells = [zrC x] ∧ (zrC x).isCell = true := by cases x <;> exact ⟨rfl, rfl, rfl⟩
    refine ⟨⟨.inr ⟨e.1, a, rfl, k3⟩, hntr⟩, ?_, k2⟩
    rw [e.2.1]
    simp [e.2.2]
theorem rows_cells {c : Ctx} {u : Nat} : ∀ {rows : List DV} {rcs : List (List AV)}, RRows c u rows rcs → (∀ d ∈ rows, d.cells.all DV.isCell = true) → rcs.flatten.all AV.isCell = true
  | [], _, h, _ => by simp only [RRows] at h; subst h; rfl
  | d :: ds, _, h, hc => by
    rw [RRows_cons] at h
    obtain ⟨l, r, rfl, h1, h2⟩ := h
    rw [List.flatten_cons, List.all_append, Bool.and_eq_true]
    exact ⟨(RRow.cells h1).cellsAll (hc d (by simp)), rows_cells h2 (fun e he => hc e (by simp [he]))⟩
theorem makeK_ok {H : VH} {k : K} {x y : Option DV} {ty : Nat → Option TyI} {e : Option Nat} {r : DV} (h : makeK H k x y (tyO ty e) (rsO ty e) = some r) :
    ∃ d d' v H', x = some d ∧ y = some d' ∧ k v H' = some r ∧ ∀ (c : Ctx) (hm u : Nat) (li : Option Nat) (a b : AV), c.H = H → Hp c hm → R c u false d a → R c u false d' b → ∃ a' c', dMake c.E c.M (natO (some a)) (natO (some b)) (tyO ty e) = some (a', c'.M) ∧ Post c c' 1 li (u ||| lm li) hm v a' H' := by
  unfold makeK at h
  split at h
  · rename_i l cc j rs hj hrs
    cases hok : mkOk j rs with
    | false => rw [hok] at h; cases h
    | true =>
      rw [hok, cond_true] at h
      cases hc : (decide (0 ≤ l) && decide (l = cc) && decide (l ≤ 1048576)) with
      | false => rw [hc] at h; cases h
      | true =>
        rw [hc, cond_true] at h
        simp only [Bool.and_eq_true, decide_eq_true_eq] at hc
        obtain ⟨⟨h0, rfl⟩, hle⟩ := hc
        refine ⟨_, _, _, _, rfl, rfl, h, fun c hm u li a b hH hp hr hr' => ?_⟩
        subst hH
        simp only [R] at hr hr'
        subst hr; subst hr'
        unfold mkOk at hok
        simp only [Bool.and_eq_true] at hok
        cases e with
        | none => simp [tyO] at hj
        | some e =>
          simp only [tyO, rsO] at hj hrs
          obtain ⟨⟨i, hi, hlen, _⟩, hone⟩ := rsOf_one hrs
          rw [hj] at hi; cases hi
          obtain ⟨z1, z2, z3⟩ := zRow_ok (c := c) (u := u) hone hok.2
          have hrr := RRows.replicate z1 l.toNat
          have hsz : j.zero.cells.length = j.size := by rw [z3, hlen]
          have hall := rows_cells hrr (fun d hd => by rw [(List.mem_replicate.1 hd).2]; exact z2)
          have hpost := post_row (s := j.size) (q := 0) (li := li) (nn := false) hp hrr (fun x hx => by rw [(List.mem_replicate.1 hx).2]; exact hsz) (.inl rfl) (fun _ => ⟨rfl, rfl⟩) hall
          rw [List.length_replicate] at hpost
          refine ⟨_, _, ?_, hpost⟩
          rw [natO_int h0]
          simp only [dMake, tyO, hj]
          rw [Nat.ble_eq_true_of_le (Nat.le_refl _), Nat.ble_eq_true_of_le (show l.toNat ≤ 1048576 by omega), hok.1, show Nat.beq j.zero.cells.length j.size = true by rw [hsz]; exact Nat.beq_refl _]
          simp only [Bool.and_self, cond_true, sliceR]
          rw [repl_flat, hall, cond_true]
          rfl
  · cases h
end Go.Vx
/- V, text 8: slices that are built, cut, written. -/
namespace Go.Vx
open Go.Sx

/-- A step from one context to the next one, and then a post. -/
theorem Post.after {c c1 c' : Ctx} {K : Nat} {li : Option Nat} {rm hm' : Nat} {v : DV} {a : AV} {H' : VH} (hx : ∀ m, Ext c c1 m m) (hs : ∀ j x, nthB c.H j = some x → ∃ y, nthB c1.H j = some y) (hE : c1.E = c.E) (hT : c1.Ta = c.Ta) (hBq : c1.B = c.B) (hn : c1.M.n = c.M.n) (hl : c1.lay = c.lay)
    (h : Post c1 c' K li rm hm' v a H') : Post c c' K li rm hm' v a H' := by
  have hnb : c1.nb = c.nb := by unfold Ctx.nb; rw [hE, hn]
  refine ⟨h.E.trans hE, h.Ta.trans hT, h.Bq.trans hBq, h.H, Ext.trans hx h.ext hs, h.hp, h.r, by rw [← hn]; exact h.n1, by rw [← hn]; exact h.n2, fun b hb => ?_, fun b h1 h2 => h.lay2 b (by rw [hnb]; exact h1) h2⟩
  rw [← hl]
  exact h.lay1 b (by rw [hnb]; exact hb)
/-- Freezing, and what is handed on by it. -/
theorem frz_hand {c : Ctx} {hm : Nat} (hp : Hp c hm) (u : Nat) (ids : List Nat) : Hand c (c.withH (frzAll ids c.H)) u u false ids ∧ (∀ m, Ext c (c.withH (frzAll ids c.H)) m m) ∧ Hp (c.withH (frzAll ids c.H)) hm ∧ (∀ j x, nthB c.H j = some x → ∃ y, nthB (frzAll ids c.H) j = some y) ∧ (frzAll ids c.H).length = c.H.length := by
  obtain ⟨h1, h2, h3, h4, h5⟩ := frzAll_ok ids c hp
  refine ⟨⟨(h1 u).toF, fun k hk l B hB hne hl hck => ?_⟩, h1, h2, fun j x hx => ?_, h5⟩
  · have hk' : k ∈ ids := hk.resolve_left (by simp)
    refine ⟨⟨fun ⟨j, m1, m2⟩ => ?_, fun _ e => ?_, hl.vis.mono hck⟩, hl.cells⟩
    · have hmj : Mutk (frzAll ids c.H) j := m1
      obtain ⟨B1, hB1⟩ := hmj.some
      have hBj : ∃ B0, nthB c.H j = some B0 := by
        have l1 := nthB_lt hB1
        rw [h5] at l1
        rw [nthB_get]
        exact ⟨_, by rw [List.getElem?_eq_getElem l1]⟩
      obtain ⟨B0, hB0⟩ := hBj
      have hmc : Mutk c.H j := by
        unfold Mutk at hmj ⊢
        rcases h3 j B0 hB0 with e | e
        · rw [e] at hmj; rw [hB0]; exact hmj
        · rw [e] at hmj; cases B0 <;> simp [frzB] at hmj
      have hjk : j ≠ k := by
        intro e
        subst e
        have := h4 j B0 hk' hB0
        unfold Mutk at hmj
        rw [this] at hmj
        cases B0 <;> simp [frzB] at hmj
      have hr := hp.hr k B hB
      cases B with
      | box cs => exact hp.inj j k hmc (by unfold Mutk; rw [hB]; trivial) hjk m2
      | row nn s rows => exact hp.inj j k hmc (by unfold Mutk; rw [hB]; exact hne) hjk m2
      | fbx cs => obtain ⟨_, _, _, hs⟩ := hr; exact hs.1 ⟨j, hmc, m2⟩
      | frz s rows => exact (hr.2 hne).1 ⟨j, hmc, m2⟩
      | dead => exact hne
    · have := hp.ta _ e
      have := hl.lo
      omega
  · rcases h3 j x hx with e | e <;> exact ⟨_, e⟩
theorem nrm1_cell {tg : Bool} {H : VH} {s : CS} {v w : DV} (h : nrm1 tg H s v = some w) : w.isCell = true := by
  unfold nrm1 at h
  split at h
  · cases h; rfl
  · cases h; rfl
  · cases h; rfl
  · rename_i s tg' ex s' rows
    cases hc : (Nat.beq s s' && (tg || !tg')) <;> rw [hc] at h <;> cases h; rfl
  · split at h
    · rename_i s' rows _
      cases hc : Nat.beq _ s' <;> rw [hc] at h <;> cases h; rfl
    · cases h
  · cases h
theorem nrmL_cell {tg : Bool} {H : VH} : ∀ {css : List CS} {vs ws : List DV}, nrmL tg H css vs = some ws → ws.all DV.isCell = true
  | [], [], ws, h => by simp only [nrmL, Option.some.injEq] at h; subst h; rfl
  | s :: css, v :: vs, ws, h => by
    simp only [nrmL] at h
    cases h1 : nrm1 tg H s v with
    | none => rw [h1] at h; simp [consD] at h
    | some w => cases h2 : nrmL tg H css vs with
      | none => rw [h1, h2] at h; simp [consD] at h
      | some r =>
        rw [h1, h2] at h
        simp only [consD, Option.some.injEq] at h
        subst h
        simp only [List.all_cons, nrm1_cell h1, nrmL_cell h2, Bool.and_self]
  | [], _ :: _, _, h => by simp [nrmL] at h
  | _ :: _, [], _, h => by simp [nrmL] at h
theorem isCell_cells {w : DV} (h : w.isCell = true) : w.cells.all DV.isCell = true := by cases w <;> simp [DV.isCell] at h <;> rfl
theorem nrmV_cell {tg : Bool} {H : VH} {r : RS} {v w : DV} (hone : r.ag = false → ∃ x, r.css = [x]) (h : nrmV tg H r v = some w) : w.cells.all DV.isCell = true := by
  unfold nrmV at h
  cases hag : (r.ag == v.isAgg) with
  | false => rw [hag] at h; cases h
  | true =>
    rw [hag, cond_true] at h
    cases hl : nrmL tg H r.css v.cells with
    | none => rw [hl] at h; simp [rowO] at h
    | some ws =>
      rw [hl] at h
      simp only [rowO, Option.some.injEq] at h
      have hc := nrmL_cell hl
      subst h
      unfold mkRow
      cases hr : r.ag with
      | true => rw [cond_true]; exact hc
      | false =>
        rw [cond_false]
        obtain ⟨x, hx⟩ := hone hr
        rw [hx] at hl
        cases hv : v.cells with
        | nil => rw [hv] at hl; simp [nrmL] at hl
        | cons y l =>
          rw [hv] at hl
          cases l with
          | cons _ _ => simp only [nrmL] at hl; cases nrm1 tg H x y <;> simp [nrmL, consD] at hl
          | nil =>
            simp only [nrmL] at hl
            cases hn : nrm1 tg H x y with
            | none => rw [hn] at hl; simp [consD] at hl
            | some w' =>
              rw [hn] at hl
              simp only [consD, Option.some.injEq] at hl
              subst hl
              exact isCell_cells (nrm1_cell hn)
theorem fillR_ok {c d : Ctx} {hm u : Nat} {T : VT} {TS : Tbl AV} {ops : List Operand} {ids : List Nat} {r : RS} (hp : Hp c hm) (hh : Hand c d u u false ids) (hO : Opn c u T TS ops) (hu : hasOwn T ops = true → Sub hm u) (hone : r.ag = false → ∃ x, r.css = [x]) (hi : ∀ x ∈ ops, ∀ v, opdV T x = some v → ∀ k ∈ owns v, k ∈ ids) :
    ∀ {parts : List (Nat × Operand)} {rows ws : List DV} {rcs : List (List AV)}, (∀ p ∈ parts, p.2 ∈ ops) → fillR c.H r T parts (some rows) = some ws → RRows d u rows rcs → (∀ l ∈ rcs, l.length = r.css.length) → (∀ x ∈ rows, x.cells.all DV.isCell = true) →
      ∃ rcs', fillA (placeE r.css.length) TS parts (some rcs.flatten) = some rcs'.flatten ∧ RRows d u ws rcs' ∧ (∀ l ∈ rcs', l.length = r.css.length) ∧ (∀ x ∈ ws, x.cells.all DV.isCell = true) ∧ ws.length = rows.length
  | [], rows, ws, rcs, _, h, h1, h2, h3 => by
    simp only [fillR, Option.some.injEq] at h; subst h
    exact ⟨rcs, rfl, h1, h2, h3, rfl⟩
  | (i, x) :: parts, rows, ws, rcs, hm', h, h1, h2, h3 => by
    simp only [fillR] at h
    cases hx : opdV T x with
    | none => rw [hx] at h; simp only [fillRow1] at h; cases parts <;> simp [fillR] at h
    | some v =>
      rw [hx] at h
      simp only [] at h
      cases hn : nrmV false c.H r v with
      | none => rw [hn] at h; simp only [fillRow1] at h; cases parts <;> simp [fillR] at h
      | some w =>
        rw [hn] at h
        simp only [fillRow1] at h
        cases hb : Nat.blt i rows.length with
        | false => rw [hb] at h; cases parts <;> simp [fillR] at h
        | true =>
          rw [hb, cond_true] at h
          have hlt := bltT hb
          have hxo := hm' (i, x) (by simp)
          obtain ⟨a, k1, k2⟩ := hO x hxo v hx
          obtain ⟨j1, j2, j3, j4⟩ := nrmV_ok hp hh (hi x hxo v hx) (fun hne => hu (hasOwn_of hxo hx hne)) hn k2
          have hlen := h1.length
          have hrows := h1.set (j2 rfl) i
          have h2' : ∀ l ∈ rcs.set i a.cells, l.length = r.css.length := fun l hl => by
            rcases List.mem_or_eq_of_mem_set hl with e | e
            · exact h2 l e
            · rw [e]; exact j3
          obtain ⟨rcs', q1, q2, q3, q4, q5⟩ := fillR_ok hp hh hO hu hone hi (fun p hp' => hm' p (by simp [hp'])) h hrows h2' (fun y hy => by
            rcases List.mem_or_eq_of_mem_set hy with e | e
            · exact h3 y e
            · rw [e]; exact nrmV_cell hone hn)
          refine ⟨rcs', ?_, q2, q3, q4, by rw [q5]; simp⟩
          simp only [fillA, fill1, k1, placeE]
          have hfl := flat_length h2
          have hle : i * r.css.length + r.css.length ≤ rcs.flatten.length := by
            rw [hfl]
            calc i * r.css.length + r.css.length = (i + 1) * r.css.length := by rw [Nat.add_mul]; omega
              _ ≤ rcs.length * r.css.length := Nat.mul_le_mul_right _ (by omega)
          rw [show Nat.beq a.cells.length r.css.length = true by rw [j3]; exact Nat.beq_refl _, Nat.ble_eq_true_of_le hle]
          simp only [Bool.and_self, cond_true]
          rw [← flat_set j3 i h2 (by omega)]
          exact q1
theorem ownsO_mem {T : VT} : ∀ {xs : List Operand} {ds : List DV}, opdsV T xs = some ds → ∀ x ∈ xs, ∀ v, opdV T x = some v → ∀ k ∈ owns v, k ∈ ownsL ds
  | y :: xs, ds, h, x, hx, v, hv, k, hk => by
    simp only [opdsV] at h
    cases h1 : opdV T y with
    | none => rw [h1] at h; simp [consD] at h
    | some d => cases h2 : opdsV T xs with
      | none => rw [h1, h2] at h; simp [consD] at h
      | some r =>
        rw [h1, h2] at h
        simp only [consD, Option.some.injEq] at h
        subst h
        simp only [ownsL, List.mem_append]
        rcases List.mem_cons.1 hx with rfl | hx
        · rw [h1] at hv; cases hv; exact .inl hk
        · exact .inr (ownsO_mem h2 x hx v hv k hk)
theorem fillR_opds {H : VH} {r : RS} {T : VT} : ∀ {parts : List (Nat × Operand)} {rows ws : List DV}, fillR H r T parts (some rows) = some ws → ∃ ds, opdsV T (parts.map (·.2)) = some ds
  | [], rows, ws, _ => ⟨[], rfl⟩
  | (i, x) :: parts, rows, ws, h => by
    simp only [fillR] at h
    cases hx : opdV T x with
    | none => rw [hx] at h; simp only [fillRow1] at h; cases parts <;> simp [fillR] at h
    | some v =>
      rw [hx] at h
      simp only [] at h
      cases hn : nrmV false H r v with
      | none => rw [hn] at h; simp only [fillRow1] at h; cases parts <;> simp [fillR] at h
      | some w =>
        rw [hn] at h
        simp only [fillRow1] at h
        cases hb : Nat.blt i rows.length with
        | false => rw [hb] at h; cases parts <;> simp [fillR] at h
        | true =>
          rw [hb, cond_true] at h
          obtain ⟨ds, hds⟩ := fillR_opds h
          exact ⟨v :: ds, by simp only [List.map_cons, opdsV, hx, hds, consD]⟩
theorem bSliceK_ok {ty : Nat → Option TyI} {e : Option Nat} {T : VT} {H : VH} {k : K} {len : Nat} {parts : List (Nat × Operand)} {r : DV} (h : bSliceK T H k len parts (tyO ty e) (rsO ty e) = some r) :
    ∃ v H', k v H' = some r ∧ ∀ (c : Ctx) (hm u : Nat) (li : Option Nat) (TS : Tbl AV), c.H = H → Hp c hm → Opn c u T TS (parts.map (·.2)) → (hasOwn T (parts.map (·.2)) = true → Sub hm u) → ∃ a' c', dBuildSlice c.E TS c.M len parts (tyO ty e) = some (a', c'.M) ∧ Post c c' 1 li (u ||| lm li) hm v a' H' := by
  unfold bSliceK at h
  split at h
  · rename_i j rs hj hrs
    cases hok : (Nat.ble (len * j.size) 65536 && zrOk rs.css j.zero.cells) with
    | false => rw [hok] at h; cases h
    | true =>
      rw [hok, cond_true] at h
      simp only [Bool.and_eq_true] at hok
      unfold newRowK at h
      split at h
      · rename_i rows hf
        obtain ⟨ds, hds⟩ := fillR_opds hf
        rw [hds] at h
        simp only [ownsO] at h
        refine ⟨_, _, h, fun c hm u li TS hH hp hO hu => ?_⟩
        subst hH
        cases e with
        | none => simp [tyO] at hj
        | some e =>
          simp only [tyO, rsO] at hj hrs
          obtain ⟨⟨i, hi, hlen, _⟩, hone⟩ := rsOf_one hrs
          rw [hj] at hi; cases hi
          obtain ⟨h1, h2, h3, h4, h5⟩ := frz_hand hp u (ownsL ds)
          obtain ⟨z1, z2, z3⟩ := zRow_ok (c := c.withH (frzAll (ownsL ds) c.H)) (u := u) hone hok.2
          obtain ⟨rcs', q1, q2, q3, q4, q5⟩ := fillR_ok hp h1 hO hu hone (ownsO_mem hds) (fun p hp => List.mem_map_of_mem hp) hf (RRows.replicate z1 len) (fun x hx => by rw [(List.mem_replicate.1 hx).2]; exact z3) (fun x hx => by rw [(List.mem_replicate.1 hx).2]; exact z2)
          have hsz : j.zero.cells.length = j.size := by rw [z3, hlen]
          have hall := rows_cells q2 q4
          rw [List.length_replicate] at q5
          have hpost := post_row (s := j.size) (q := 0) (li := li) (nn := false) h3 q2 (fun l hl => by rw [q3 l hl, hlen]) (.inl rfl) (fun _ => ⟨rfl, rfl⟩) hall
          have hpost2 := Post.after (c := c) h2 h4 rfl rfl rfl rfl rfl hpost
          rw [q5] at hpost2
          refine ⟨_, _, ?_, hpost2⟩
          · simp only [dBuildSlice, tyO, hj]
            rw [hok.1, show Nat.beq j.zero.cells.length j.size = true by rw [hsz]; exact Nat.beq_refl _]
            simp only [Bool.and_self, cond_true]
            rw [repl_flat, ← hlen, q1]
            simp only [sliceR, hall, cond_true]
            rfl
      · cases h
  · cases h
end Go.Vx
/- V, text 9: stores, cuts. -/
namespace Go.Vx
open Go.Sx

theorem wrc_own {E : Env} {M : Mem} {b o : Nat} {vs l : List AV} (h0 : E.m0 ≤ b) (hg : M.get (b - E.m0) = some (.cells l)) (hle : o + vs.length ≤ l.length) (hall : vs.all AV.isCell = true) : wrc E M b o vs = some (M.put (b - E.m0) (.cells (splice l o vs))) := by
  unfold wrc
  rw [bltOfN h0, cond_false, hg]
  simp only [objCells, wrIn]
  rw [Nat.ble_eq_true_of_le hle, cond_true, hall, cond_true]
theorem upd_post {c : Ctx} {hm' : Nat} {li : Option Nat} {k rm : Nat} {B' : VB} {M : Mem} {v : DV} {a : AV} (hE : ∀ m, Ext c (c.upd k B' M) m m) (hp : Hp (c.upd k B' M) hm') (hn : M.n = c.M.n) (hr : R (c.upd k B' M) rm false v a) : Post c (c.upd k B' M) 1 li rm hm' v a (setB c.H k B') :=
  ⟨rfl, rfl, rfl, rfl, hE, hp, hr, by show c.M.n ≤ M.n; omega, by show M.n ≤ c.M.n + 1; omega, fun _ _ => rfl, fun b h1 h2 => by
    have : (c.upd k B' M).nb = c.nb := by show c.E.m0 + M.n = _; unfold Ctx.nb; omega
    rw [this] at h2; omega⟩
theorem splice_length {l vs : List AV} {o : Nat} (h : o + vs.length ≤ l.length) : (splice l o vs).length = l.length := by
  unfold splice; simp; omega
theorem splice_all {l vs : List AV} {o : Nat} (h1 : l.all AV.isCell = true) (h2 : vs.all AV.isCell = true) : (splice l o vs).all AV.isCell = true := by
  unfold splice
  rw [List.all_eq_true] at h1 h2 ⊢
  intro x hx
  simp only [List.mem_append] at hx
  rcases hx with (hx | hx) | hx
  · exact h1 x (List.mem_of_mem_take hx)
  · exact h2 x hx
  · exact h1 x (List.mem_of_mem_drop hx)
theorem idsL_splice {l vs : List AV} {o i : Nat} (h : i ∈ AV.idsL (splice l o vs)) : i ∈ AV.idsL l ∨ i ∈ AV.idsL vs := by
  unfold splice at h
  rw [idsL_append, idsL_append] at h
  simp only [List.mem_append] at h
  rcases h with (h | h) | h
  · exact .inl (idsL_take h)
  · exact .inr h
  · exact .inl (idsL_drop h)
theorem put_blk {c : Ctx} {k : Nat} {l l' : List AV} {B : VB} (hl : Blk c k l) : Blk (c.upd k B (c.M.put (c.ρ k - c.E.m0) (.cells l'))) k l' := by
  refine ⟨hl.lo, ?_, hl.vis⟩
  show (c.M.put (c.ρ k - c.E.m0) (.cells l')).get (c.ρ k - c.E.m0) = _
  rw [Mem.get_put _ _ _ _ (Mem.get_lt hl.get), if_pos rfl]
theorem storeK_ok {ty : Nat → Option TyI} {t : Nat} {H : VH} {k : K} {x y : Option DV} {r : DV} (h : storeK ty t H k x y (ty t) = some r) :
    ∃ d e H', x = some d ∧ y = some e ∧ k .undef H' = some r ∧ ∀ (c : Ctx) (hm u : Nat) (li : Option Nat) (a b : AV), c.H = H → Hp c hm → (owns d ≠ [] → Sub hm u) → R c u false d a → R c u false e b →
      ∃ a' c', dStore c.E c.M (some a) (some b) (ty t) = some (a', c'.M) ∧ Post c c' 1 li (u ||| lm li) (hm ||| (u ||| lm li)) .undef a' H' := by
  unfold storeK at h
  split at h
  · rename_i b o v i hi
    unfold storeB at h
    split at h
    · rename_i cs hb
      cases hc : (Nat.beq v.cells.length i.size && (Nat.ble (o + v.cells.length) cs.length && (v.cells.all DV.isCell && noDead H (owns v)))) with
      | false => rw [hc] at h; cases h
      | true =>
        rw [hc, cond_true] at h
        simp only [Bool.and_eq_true] at hc
        refine ⟨_, _, _, rfl, rfl, h, fun c hm u li a b' hH hp _ hr hr' => ?_⟩
        subst hH
        rw [R] at hr
        obtain ⟨_, hck, _, e⟩ := hr
        subst e
        obtain ⟨l, h1, h2⟩ := hp.hr b _ hb
        have hcs := hr'.cells
        have hle := bleT hc.2.1
        have hlv := hcs.length
        have hll := h1.length
        have hmk : Mutk c.H b := by unfold Mutk; rw [hb]; trivial
        have hM : MemK c b (c.M.put (c.ρ b - c.E.m0) (.cells (splice l o b'.cells))) := .inr ⟨hmk, _, rfl, fun cs e => by cases e; exact ⟨splice_all (hp.cell _ _ h2.cells) (hcs.cellsAll hc.2.2.1), fun i hi => (idsL_splice hi).elim (hp.ids _ _ h2.lo h2.cells i) (RL.ids hp (by rw [owns_cells v (cells_or v)]; exact hc.2.2.2) hcs i)⟩⟩
        have hK : Kin (.box cs) (.box (spliceD cs o v.cells)) := trivial
        have hX := fun m => upd_ext hp hb hK hM m
        refine ⟨.undef, c.upd b (.box (spliceD cs o v.cells)) (c.M.put (c.ρ b - c.E.m0) (.cells (splice l o b'.cells))), ?_, upd_post hX (upd_hp hp (Sub.orl _ _) hb hK hM ?_) rfl (by simp only [R])⟩
        · simp only [dStore, hi]
          rw [hlv, hc.1, cond_true, wrc_own h2.lo h2.get (by omega) (hcs.cellsAll hc.2.2.1)]
          rfl
        · refine ⟨splice l o b'.cells, RL.splice ?_ ?_, put_blk h2⟩
          · exact RL.mono (Ext.up hX (orSub (Sub.orl _ _))) _ _ _ h1
          · exact RL.mono (Ext.up hX (Sub.trans (Sub.orl u (lm li)) (Sub.trans (Sub.orr hm _) (Sub.orr _ _)))) _ _ _ hcs
    · cases h
  · rename_i b ix o v i hi
    unfold storeR at h
    split at h
    · rename_i rs nn s rows hrs hrow
      cases hc : (Nat.beq o 0 && Nat.beq s i.size) with
      | false => rw [hc] at h; cases h
      | true =>
        rw [hc, cond_true] at h
        simp only [Bool.and_eq_true] at hc
        have ho0 := Nat.eq_of_beq_eq_true hc.1
        have hs := Nat.eq_of_beq_eq_true hc.2
        subst ho0
        unfold storeR2 at h
        split at h
        · rename_i d hd
          refine ⟨_, _, _, rfl, rfl, h, fun c hm u li a b' hH hp hu hr hr' => ?_⟩
          subst hH
          have hum := hu (by simp [owns])
          obtain ⟨⟨i', hi', hlen, _⟩, hone⟩ := rsOf_one hrs
          rw [hi] at hi'; cases hi'
          obtain ⟨h1, h2, h3, h4, h5⟩ := frz_hand hp u (owns v)
          obtain ⟨j1, j2, j3, j4⟩ := nrmV_ok hp h1 (fun k hk => hk) (fun _ => hum) hd hr'
          generalize hc1 : c.withH (frzAll (owns v) c.H) = c1 at h1 h2 h3 j1 j2
          have eH : c1.H = frzAll (owns v) c.H := by rw [← hc1]; rfl
          have eE : c1.E = c.E := by rw [← hc1]; rfl
          have eM : c1.M = c.M := by rw [← hc1]; rfl
          have eρ : c1.ρ = c.ρ := by rw [← hc1]; rfl
          have eck : c1.ck = c.ck := by rw [← hc1]; rfl
          have el : c1.lay = c.lay := by rw [← hc1]; rfl
          have eT : c1.Ta = c.Ta := by rw [← hc1]; rfl
          rw [← eH] at hrow h4 ⊢
          have hr1 := R.mono (h2 u) _ _ _ hr
          rw [R] at hr1
          obtain ⟨_, hck, he⟩ := hr1
          obtain ⟨e1, x, rcs, k1, k2, k3, k4, k5, k6, k7, k8⟩ := elp_row h3 (by rw [hrow]; rfl) he
          have hsz : b'.cells.length = s := by rw [j3, hlen, hs]
          have hflen := flat_length k2
          have hle : ix.toNat * s + s ≤ rcs.flatten.length := by
            rw [hflen, k1.length]
            calc ix.toNat * s + s = (ix.toNat + 1) * s := by rw [Nat.add_mul]; omega
              _ ≤ rows.length * s := Nat.mul_le_mul_right _ k8
          have hmk : Mutk c1.H b := by unfold Mutk; rw [hrow]; intro e; rw [e] at k8; simp at k8
          have hflat := flat_set hsz ix.toNat k2 (by rw [k1.length]; exact k8)
          have hM : MemK c1 b (c1.M.put (c1.ρ b - c1.E.m0) (.cells (rcs.set ix.toNat b'.cells).flatten)) := .inr ⟨hmk, _, rfl, fun cs e => by cases e; rw [hflat]; exact ⟨splice_all (h3.cell _ _ k3.cells) ((j2 rfl).cells.cellsAll (nrmV_cell hone hd)), fun i hi => (idsL_splice hi).elim (h3.ids _ _ k3.lo k3.cells i) (RL.idsF h3 (j2 rfl).cells i)⟩⟩
          have hK : Kin (.row nn s rows) (.row nn s (rows.set ix.toNat d)) := ⟨rfl, rfl, by simp⟩
          have hX := fun m => upd_ext h3 hrow hK hM m
          have hblk := put_blk (l' := (rcs.set ix.toNat b'.cells).flatten) (B := .row nn s (rows.set ix.toNat d)) k3
          refine ⟨.undef, _, ?_, Post.after h2 h4 eE eT (by rw [← hc1]; rfl) (by rw [eM]) el (upd_post (li := li) (rm := u ||| lm li) (v := .undef) (a := .undef) hX (upd_hp (hm' := hm ||| (u ||| lm li)) h3 (Sub.orl _ _) hrow hK hM ?_) rfl (by simp only [R]))⟩
          · subst e1
            simp only [dStore, hi]
            rw [show Nat.beq b'.cells.length i.size = true by rw [hsz, hs]; exact Nat.beq_refl _, cond_true, ← eE, ← eM, Nat.add_zero]
            rw [wrc_own k3.lo k3.get (by omega) ((j2 rfl).cells.cellsAll (nrmV_cell hone hd)), ← hflat]
            rfl
          · refine ⟨rcs.set ix.toNat b'.cells, RRows.set ?_ _ ?_, fun l hl => ?_, fun _ => hblk⟩
            · have hsub : Sub u ((c1.upd b (.row nn s (rows.set ix.toNat d)) (c1.M.put (c1.ρ b - c1.E.m0) (.cells (rcs.set ix.toNat b'.cells).flatten))).ck b ||| (hm ||| (u ||| lm li))) := Sub.trans (Sub.orl u (lm li)) (Sub.trans (Sub.orr hm _) (Sub.orr _ _))
              exact (j2 rfl).mono (Ext.up hX hsub)
            · exact RRows.mono (Ext.up hX (orSub (Sub.orl _ _))) _ _ k1
            · rcases List.mem_or_eq_of_mem_set hl with e | e
              · exact k2 l e
              · rw [e]; exact hsz
        · cases h
    · cases h
  · cases h

/-! ### Cuts -/
theorem nat?_le {n : Nat} {x : Int} (h0 : 0 ≤ x) (h : x ≤ (n : Int)) : bndN n (nat? (.int .i64 x)) = some x.toNat := by
  obtain ⟨m, rfl⟩ := Int.eq_ofNat_of_zero_le h0
  simp only [nat?, bndN]
  rw [show Nat.ble m n = true from Nat.ble_eq_true_of_le (by omega)]
  rfl
def ioA : Option Int → Option AV
  | some n => some (.int .i64 n)
  | none => none
theorem bnd_some {n d : Nat} {x : Int} (h0 : 0 ≤ x) (h : x ≤ (n : Int)) : bnd (ioA (some x)) d n = some x.toNat := nat?_le h0 h
theorem intO_ok {c : Ctx} {u : Nat} {T : VT} {TS : Tbl AV} {ops : List Operand} (hO : Opn c u T TS ops) {x : Option Operand} (hx : ∀ o, x = some o → o ∈ ops) {q : Option Int} (h : intO (optV T x) = some q) : opdO TS x = some (ioA q) := by
  cases x with
  | none => simp only [optV, intO, Option.some.injEq] at h; subst h; rfl
  | some o =>
    simp only [optV] at h
    cases ho : opdV T o with
    | none => rw [ho] at h; simp [intO] at h
    | some d =>
      rw [ho] at h
      obtain ⟨a, k1, k2⟩ := hO o (hx o rfl) d ho
      cases d <;> simp only [intO] at h <;> first | (cases h; done) | skip
      cases h
      simp only [R] at k2
      subst k2
      simp only [opdO, k1, ioA]
/-- A window of rows. -/
theorem win_ok {c : Ctx} {u s : Nat} {tg ex ex' : Bool} {rows : List DV} {rcs : List (List AV)} {b o cap q l h m q' : Nat} (h1 : RRows c u rows rcs) (h2 : ∀ x ∈ rcs, x.length = s) (hS : Sta c u tg b) (hr : rd c.E c.M b o (rows.length * s) = some rcs.flatten)
    (hlh : l ≤ h) (hh : h ≤ rows.length) (hm : h ≤ m) (hq : q' = 0 ∨ q' = s) (hex : ex' = true → m = h ∧ q' = 0) (hne : m = l → q' = 0) :
    ∃ a, cut3 b o s q' m h (some l) = some a ∧ R c u true (.list tg ex' s ((rows.drop l).take (h - l))) a := by
  have hlen := h1.length
  have hlen2 : ((rows.drop l).take (h - l)).length = h - l := by simp; omega
  have hw := (h1.drop l).take (h - l)
  have hrd : rd c.E c.M b (o + l * s) ((h - l) * s) = some ((rcs.drop l).take (h - l)).flatten := by
    have hfl := flat_length h2
    rw [hlen] at hfl
    have e1 := rd_sub (o := l * s) (n := (h - l) * s) (by rw [hfl]; exact hr) (by
      rw [hfl, ← Nat.add_mul]; exact Nat.mul_le_mul_right _ (by omega))
    rw [e1, flat_drop l h2, flat_take (h - l) (fun x hx => h2 x (List.mem_of_mem_drop hx))]
  have hmem : ∀ x ∈ (rcs.drop l).take (h - l), x.length = s := fun x hx => h2 x (List.mem_of_mem_drop (List.mem_of_mem_take hx))
  simp only [cut3]
  cases hml : Nat.beq m l with
  | true =>
    have e := Nat.eq_of_beq_eq_true hml
    rw [cond_true, hne e]
    simp only [Nat.beq_refl, cond_true]
    refine ⟨_, rfl, ?_⟩
    simp only [R]
    have hz : h - l = 0 := by omega
    refine ⟨_, hw, hmem, .inr ⟨b, o, 0, 0, by rw [hlen2, hz], .inl rfl, ⟨by omega, fun _ => rfl, fun _ => ⟨by omega, rfl⟩⟩, hS, ?_⟩⟩
    rw [hlen2, hz]
    simp only [List.take_zero, List.flatten_nil, Nat.zero_mul]
    have := rd_sub (o := 0) (n := 0) (l := rcs.flatten) (by rw [flat_length h2, hlen]; exact hr) (by omega)
    simpa using this
  | false =>
    rw [cond_false]
    refine ⟨_, rfl, ?_⟩
    simp only [R]
    have hne2 : m ≠ l := fun e => by rw [e, Nat.beq_refl] at hml; cases hml
    refine ⟨_, hw, hmem, .inr ⟨b, o + l * s, m - l, q', by rw [hlen2], hq, ⟨by omega, fun e => by omega, fun e => ?_⟩, hS, by rw [hlen2]; exact hrd⟩⟩
    obtain ⟨e1, e2⟩ := hex e
    exact ⟨by omega, e2⟩
theorem cutL_ok {tg ex : Bool} {s : Nat} {rows : List DV} {H : VH} {k : K} {lo hi mx : Option Int} {r : DV} (h : cutL tg ex s rows H k lo hi mx = some r) :
    ∃ v, k v H = some r ∧ owns v = [] ∧ ∀ (c : Ctx) (u : Nat) (a : AV) (j : TyI), j.size = s → R c u true (.list tg ex s rows) a → ∃ a', cutS a (ioA lo) (ioA hi) (ioA mx) (some j) = some a' ∧ R c u true v a' := by
  have main : ∀ (c : Ctx) (u : Nat) (a : AV) (j : TyI) (l h : Nat) (ex' : Bool) (w : List DV), j.size = s → R c u true (.list tg ex s rows) a → l ≤ h → h ≤ rows.length → w = (rows.drop l).take (h - l) →
      (rows.length = 0 → cutNil (ioA lo) (ioA hi) (ioA mx) = some .nils) → (ex' = true → ex = true ∨ mx ≠ none) →
      (∀ b o cap q, a = .slice b o rows.length cap q → rows.length ≤ cap → (cap = 0 → q = 0) → (ex = true → cap = rows.length ∧ q = 0) → (q = 0 ∨ q = s) → ∃ m q', cut b o s rows.length cap q (ioA lo) (ioA hi) (ioA mx) = cut3 b o s q' m h (some l) ∧ h ≤ m ∧ (q' = 0 ∨ q' = s) ∧ (ex' = true → m = h ∧ q' = 0) ∧ (m = l → q' = 0)) →
      ∃ a', cutS a (ioA lo) (ioA hi) (ioA mx) (some j) = some a' ∧ R c u true (.list tg ex' s w) a' := by
    intro c u a j l h ex' w hj hr hlh hh hw hnil hexx hsl
    subst hw
    simp only [R] at hr
    obtain ⟨rcs, h1, h2, h3⟩ := hr
    rcases h3 with ⟨e1, e2 | ⟨z, e2, hz⟩⟩ | ⟨b, o, cap, q, e2, hq, hcap, hS, hrd⟩
    · subst e2
      refine ⟨.nils, by simp only [cutS, hnil e1], ?_⟩
      simp only [R]
      have : rows = [] := List.eq_nil_of_length_eq_zero e1
      subst this
      simp only [RRows] at h1
      subst h1
      exact ⟨[], by simp [RRows], by simp, .inl ⟨by simp, .inl rfl⟩⟩
    · subst e2
      have hcn := hnil e1
      unfold cutNil at hcn
      have hce : cutEmp z (ioA lo) (ioA hi) (ioA mx) = some (.emp (z || !isNone? (ioA mx))) := by
        unfold cutEmp
        cases hb : ((!isNone? (ioA hi) || isNone? (ioA mx)) && someN (bnd (ioA mx) 0 0) && someN (bnd (ioA hi) 0 0) && someN (bnd (ioA lo) 0 0)) with
        | true => rfl
        | false => rw [hb] at hcn; cases hcn
      refine ⟨.emp (z || !isNone? (ioA mx)), by simp only [cutS, hce], ?_⟩
      simp only [R]
      have : rows = [] := List.eq_nil_of_length_eq_zero e1
      subst this
      simp only [RRows] at h1
      subst h1
      refine ⟨[], by simp [RRows], by simp, .inl ⟨by simp, .inr ⟨_, rfl, fun he => ?_⟩⟩⟩
      rcases hexx he with h | h
      · rw [hz h]; rfl
      · cases mx with
        | none => exact absurd rfl h
        | some _ => simp [ioA, isNone?]
    · obtain ⟨m, q', k1, k2, k3, k4, k5⟩ := hsl b o cap q e2 hcap.1 hcap.2.1 hcap.2.2 hq
      subst e2
      obtain ⟨a', j1, j2⟩ := win_ok (ex := ex) (ex' := ex') (tg := tg) (cap := cap) (q := q) h1 h2 hS hrd hlh hh k2 k3 k4 k5
      refine ⟨a', ?_, j2⟩
      simp only [cutS]
      have : (Nat.beq q 0 || Nat.beq q j.size) = true := by
        rw [hj]
        rcases hq with e | e
        · rw [e]; rfl
        · rw [e, Nat.beq_refl]; simp
      rw [this, cond_true, hj, k1, j1]
  unfold cutL at h
  split at h
  · split at h
    · split at h
      · -- all of it
        refine ⟨_, h, rfl, fun c u a j hj hr => ?_⟩
        refine main c u a j 0 rows.length ex rows hj hr (Nat.zero_le _) (Nat.le_refl _) (by simp) (fun _ => rfl) .inl (fun b o cap q _ c1 c2 c3 c4 => ?_)
        refine ⟨cap, q, rfl, c1, c4, c3, fun e => c2 e⟩
      · rename_i l
        cases hc : (decide (0 ≤ l) && decide (l < (rows.length : Int))) with
        | false => rw [hc] at h; cases h
        | true =>
          rw [hc, cond_true] at h
          simp only [Bool.and_eq_true, decide_eq_true_eq] at hc
          refine ⟨_, h, rfl, fun c u a j hj hr => ?_⟩
          refine main c u a j l.toNat rows.length ex (rows.drop l.toNat) hj hr (by omega) (Nat.le_refl _) (by rw [List.take_of_length_le (by simp)]) (fun e => by omega) .inl (fun b o cap q _ c1 c2 c3 c4 => ?_)
          refine ⟨cap, q, ?_, c1, c4, c3, fun e => by omega⟩
          show cut2 b o s q cap _ (some rows.length) = _
          show cut3 b o s q cap rows.length (bnd (ioA (some l)) 0 rows.length) = _
          rw [bnd_some hc.1 (by omega)]
    · rename_i h'
      split at h
      · cases hc : (decide (0 ≤ h') && decide (h' ≤ (rows.length : Int))) with
        | false => rw [hc] at h; cases h
        | true =>
          rw [hc, cond_true] at h
          simp only [Bool.and_eq_true, decide_eq_true_eq] at hc
          refine ⟨_, h, rfl, fun c u a j hj hr => ?_⟩
          refine main c u a j 0 h'.toNat false (rows.take h'.toNat) hj hr (Nat.zero_le _) (by omega) (by simp) (fun e => ?_) (by simp) (fun b o cap q _ c1 c2 c3 c4 => ?_)
          · have : h' = 0 := by omega
            subst this; rfl
          · refine ⟨cap, q, ?_, by omega, c4, by simp, c2⟩
            show cut2 b o s q cap _ (bnd (ioA (some h')) rows.length cap) = _
            rw [bnd_some hc.1 (by omega)]
            rfl
      · rename_i l
        cases hc : (cutOk (rows.length : Int) l h' && decide (l < (rows.length : Int))) with
        | false => rw [hc] at h; cases h
        | true =>
          rw [hc, cond_true] at h
          simp only [cutOk, Bool.and_eq_true, decide_eq_true_eq] at hc
          refine ⟨_, h, rfl, fun c u a j hj hr => ?_⟩
          refine main c u a j l.toNat h'.toNat false (cutR rows l h') hj hr (by omega) (by omega) rfl (fun e => by omega) (by simp) (fun b o cap q _ c1 c2 c3 c4 => ?_)
          refine ⟨cap, q, ?_, by omega, c4, by simp, fun e => by omega⟩
          show cut2 b o s q cap _ (bnd (ioA (some h')) rows.length cap) = _
          rw [bnd_some (by omega) (by omega)]
          show cut3 b o s q cap h'.toNat (bnd (ioA (some l)) 0 h'.toNat) = _
          rw [bnd_some hc.1.1 (by omega)]
  · rename_i m
    split at h
    · cases h
    · rename_i h'
      cases hc : (decide (h' = m) && cutOk (rows.length : Int) (loOf lo) m) with
      | false => rw [hc] at h; cases h
      | true =>
        rw [hc, cond_true] at h
        simp only [cutOk, Bool.and_eq_true, decide_eq_true_eq] at hc
        obtain ⟨rfl, hc⟩ := hc
        refine ⟨_, h, rfl, fun c u a j hj hr => ?_⟩
        have hbl : ∀ n : Nat, h' ≤ (n : Int) → bnd (ioA lo) 0 h'.toNat = some (loOf lo).toNat := by
          intro n _
          cases lo with
          | none => rfl
          | some l => exact bnd_some hc.1 (by simp only [loOf] at hc; omega)
        refine main c u a j (loOf lo).toNat h'.toNat true (cutR rows (loOf lo) h') hj hr (by omega) (by omega) rfl (fun e => ?_) (fun _ => .inr (by simp)) (fun b o cap q _ c1 c2 c3 c4 => ?_)
        · have e0 : h' = 0 := by omega
          subst e0
          cases lo with
          | none => rfl
          | some l =>
            have : l = 0 := by simp only [loOf] at hc; omega
            subst this; rfl
        · refine ⟨h'.toNat, 0, ?_, Nat.le_refl _, .inl rfl, fun _ => ⟨rfl, rfl⟩, fun _ => rfl⟩
          show cut1 b o s rows.length 0 (ioA lo) (ioA (some h')) (bnd (ioA (some h')) cap cap) = _
          rw [bnd_some (by omega) (by omega)]
          show cut2 b o s 0 h'.toNat (ioA lo) (bnd (ioA (some h')) rows.length h'.toNat) = _
          rw [bnd_some (by omega) (by omega)]
          show cut3 b o s 0 h'.toNat h'.toNat (bnd (ioA lo) 0 h'.toNat) = _
          rw [hbl rows.length (by omega)]
end Go.Vx
/- V, text A: cuts of slices and arrays, appends. -/
namespace Go.Vx
open Go.Sx

theorem Ctx.withH_post {c : Ctx} {hm u : Nat} {li : Option Nat} {H1 : VH} {v : DV} {a : AV} (hE : ∀ m, Ext c (c.withH H1) m m) (hp : Hp (c.withH H1) hm) (hr : R (c.withH H1) u false v a) : Post c (c.withH H1) 1 li u hm v a H1 :=
  ⟨rfl, rfl, rfl, rfl, hE, hp, hr, Nat.le_refl _, Nat.le_succ _, fun _ _ => rfl, fun b h1 h2 => by
    have : (c.withH H1).nb = c.nb := rfl
    rw [this] at h2; omega⟩
theorem isC_true {c : Ctx} {u : Nat} {s : CS} {d : DV} {z : Bool} {a : AV} (h : isC s d = true) (hr : R c u z d a) : R c u true d a := by
  cases s <;> cases d <;> simp only [isC] at h <;> first | (cases h; done) | (simpa only [R] using hr)
theorem isCs_true {c : Ctx} {u : Nat} {z : Bool} : ∀ {css : List CS} {cs : List DV} {l : List AV}, isCs css cs = true → RL c u z cs l → RL c u true cs l
  | [], [], l, _, hr => by simpa only [RL] using hr
  | s :: css, d :: cs, l, h, hr => by
    simp only [isCs, Bool.and_eq_true] at h
    rw [RL] at hr ⊢
    obtain ⟨a, r, rfl, h1, h2⟩ := hr
    exact ⟨a, r, rfl, isC_true h.1 h1, isCs_true h.2 h2⟩
  | [], _ :: _, _, h, _ => by simp [isCs] at h
  | _ :: _, [], _, h, _ => by simp [isCs] at h
theorem isCs_nt {c : Ctx} {u : Nat} {z : Bool} : ∀ {css : List CS} {cs : List DV} {l : List AV}, isCs css cs = true → RL c u z cs l → ntL cs
  | [], [], l, _, hr => by simp [ntL]
  | s :: css, d :: cs, l, h, hr => by
    simp only [isCs, Bool.and_eq_true] at h
    rw [RL] at hr
    obtain ⟨a, r, rfl, h1, h2⟩ := hr
    simp only [ntL]
    refine ⟨?_, isCs_nt h.2 h2⟩
    have h3 := isC_true h.1 h1
    have h4 := h.1
    cases s <;> cases d <;> simp only [isC] at h4 <;> first | (cases h4; done) | (simp [nt]; done) | skip
    rename_i s tg ex s' rows
    simp only [Bool.and_eq_true, Bool.not_eq_true'] at h4
    simp only [nt]
    exact ⟨h4.1, R_nt h3⟩
  | [], _ :: _, _, h, _ => by simp [isCs] at h
  | _ :: _, [], _, h, _ => by simp [isCs] at h
theorem nt_mkRow' {c : Ctx} {u : Nat} {z : Bool} {r : RS} {cs : List DV} {l : List AV} (hone : r.ag = false → ∃ x, r.css = [x]) (hlen : cs.length = r.css.length) (hrow : r.ag = (mkRow r.ag cs).isAgg ∧ isCs r.css (mkRow r.ag cs).cells = true) (h : RL c u z cs l) : nt (mkRow r.ag cs) := by
  cases hag : r.ag with
  | true =>
    rw [hag] at hrow
    simp only [mkRow, cond_true, DV.cells] at hrow ⊢
    simp only [nt]
    exact isCs_nt hrow.2 h
  | false =>
    obtain ⟨x, hx⟩ := hone hag
    rw [hx] at hlen hrow
    rw [hag] at hrow
    cases cs with
    | nil => simp at hlen
    | cons d cs =>
      cases cs with
      | cons _ _ => simp at hlen
      | nil =>
        simp only [mkRow, cond_false, List.headD_cons] at hrow ⊢
        have hd : d.cells = [d] := by
          have := hrow.1
          cases d <;> simp [DV.isAgg] at this <;> rfl
        rw [hd] at hrow
        have := isCs_nt hrow.2 h
        simp only [ntL] at this
        exact this.1
theorem chunk_ok {c : Ctx} {u : Nat} {z : Bool} {r : RS} {s : Nat} (hs : r.css.length = s) (hone : r.ag = false → ∃ x, r.css = [x]) : ∀ (n : Nat) {cs : List DV} {l : List AV}, RL c u z cs l → n * s ≤ cs.length → allRows r (chunk r.ag s n cs) = true →
    ∃ rcs, RRows c u (chunk r.ag s n cs) rcs ∧ (∀ x ∈ rcs, x.length = s) ∧ rcs.flatten = l.take (n * s) ∧ (chunk r.ag s n cs).length = n
  | 0, cs, l, _, _, _ => ⟨[], by simp [chunk, RRows], by simp, by simp, rfl⟩
  | n + 1, cs, l, hr, hle, ha => by
    simp only [chunk, allRows, Bool.and_eq_true] at ha
    have hle2 : s + n * s ≤ cs.length := by rw [Nat.add_mul] at hle; omega
    obtain ⟨rcs, h1, h2, h3, h4⟩ := chunk_ok hs hone n (hr.drop s) (by simp; omega) ha.2
    have hrow := ha.1
    unfold isRow at hrow
    simp only [Bool.and_eq_true, beq_iff_eq] at hrow
    have hlen := hr.length
    have htl : (l.take s).length = s := by simp; omega
    have hrr : RRow c u (mkRow r.ag (cs.take s)) (l.take s) := by
      have ht := hr.take s
      have hlen2 : (cs.take s).length = r.css.length := by simp; omega
      refine ⟨?_, nt_mkRow' hone hlen2 hrow ht⟩
      cases hag : r.ag with
      | true =>
        rw [hag] at hrow
        simp only [mkRow, cond_true, DV.cells] at hrow ⊢
        exact .inl ⟨rfl, by simp only [R]; exact ⟨_, rfl, isCs_true hrow.2 ht⟩⟩
      | false =>
        obtain ⟨x, hx⟩ := hone hag
        rw [hx] at hs
        simp only [List.length_singleton] at hs
        subst hs
        cases cs with
        | nil => simp at hle2
        | cons d cs =>
          cases l with
          | nil => simp at hlen
          | cons a l =>
            rw [hag] at hrow
            simp only [mkRow, cond_false, List.take_succ_cons, List.take_zero, List.headD_cons] at hrow ht ⊢
            rw [RL] at ht
            obtain ⟨a', r', e, k1, _⟩ := ht
            cases e
            refine .inr ⟨hrow.1.symm, a, rfl, ?_⟩
            rw [hx] at hrow
            cases hd : d.isAgg with
            | true => rw [hd] at hrow; simp at hrow
            | false =>
              have : d.cells = [d] := by cases d <;> simp [DV.isAgg] at hd <;> rfl
              rw [this] at hrow
              simp only [isCs, Bool.and_true] at hrow
              exact isC_true hrow.2 k1
    refine ⟨l.take s :: rcs, ?_, fun x hx => ?_, ?_, by simp [chunk, h4]⟩
    · simp only [chunk]
      rw [RRows_cons]
      exact ⟨_, _, rfl, hrr, h1⟩
    · rcases List.mem_cons.1 hx with rfl | hx
      · exact htl
      · exact h2 x hx
    · rw [List.flatten_cons, h3, show (n + 1) * s = s + n * s by rw [Nat.add_mul]; omega]
      rw [List.take_add]
theorem cutA_none {n : Nat} {b o : Nat} {j : TyI} : cutA n (.ptr b o) none none none (some j) = some (bif Nat.beq n 0 then .slice b o 0 0 0 else .slice b (o + 0 * j.size) (n - 0) (n - 0) 0) := by
  simp only [cutA, cut, isNone?, cut1, q3, bnd, cut2, cut3]
  cases Nat.beq n 0 <;> rfl
theorem cutAK_ok {tg : Bool} {n o : Nat} {cs : List DV} {H : VH} {k : K} {lo hi mx : Option Int} {ty : Nat → Option TyI} {e : Nat} {j : TyI} {r : DV} (hj : ty e = some j) (h : cutAK tg n cs o H k lo hi mx j (rsOf ty e) = some r) :
    ∃ v, k v H = some r ∧ ∀ (c : Ctx) (u base b : Nat) (z : Bool) (l : List AV), Sta c u tg b → rd c.E c.M b base cs.length = some l → RL c u z cs l → ∃ a, cutA n (.ptr b (base + o)) (ioA lo) (ioA hi) (ioA mx) (some j) = some a ∧ R c u true v a := by
  unfold cutAK at h
  split at h
  · rename_i rs hrs
    cases hc : (isNoneI lo && (isNoneI hi && isNoneI mx) && (Nat.ble (o + n * j.size) cs.length && Nat.blt 0 j.size && allRows rs (chunk rs.ag j.size n (cs.drop o)))) with
    | false => rw [hc] at h; cases h
    | true =>
      rw [hc, cond_true] at h
      simp only [Bool.and_eq_true] at hc
      obtain ⟨⟨hl, hh, hm⟩, ⟨hle, _⟩, hall⟩ := hc
      have hle := bleT hle
      refine ⟨_, h, fun c u base b z l hS hrd hr => ?_⟩
      cases lo <;> simp [isNoneI] at hl
      cases hi <;> simp [isNoneI] at hh
      cases mx <;> simp [isNoneI] at hm
      obtain ⟨⟨i, hi, hlen, _⟩, hone⟩ := rsOf_one hrs
      rw [hj] at hi; cases hi
      obtain ⟨rcs, h1, h2, h3, h4⟩ := chunk_ok hlen hone n (hr.drop o) (by simp; omega) hall
      simp only [ioA]
      rw [cutA_none]
      refine ⟨_, rfl, ?_⟩
      simp only [R]
      have hll := hr.length
      have hrd2 : rd c.E c.M b (base + o) (n * j.size) = some rcs.flatten := by
        rw [h3]
        exact rd_sub (by rw [hll]; exact hrd) (by omega)
      refine ⟨rcs, h1, h2, .inr ?_⟩
      rw [h4]
      cases hn : Nat.beq n 0 with
      | true =>
        have hn0 := Nat.eq_of_beq_eq_true hn
        subst hn0
        exact ⟨b, base + o, 0, 0, rfl, .inl rfl, ⟨Nat.le_refl _, fun _ => rfl, fun _ => ⟨rfl, rfl⟩⟩, hS, hrd2⟩
      | false =>
        refine ⟨b, base + o, n, 0, ?_, .inl rfl, ⟨Nat.le_refl _, fun _ => rfl, fun _ => ⟨rfl, rfl⟩⟩, hS, hrd2⟩
        simp
  · cases h
theorem sliceK_ok {ty : Nat → Option TyI} {t : Nat} {T : VT} {H : VH} {k : K} {x : Option DV} {lo hi mx : Option Operand} {r : DV} (h : sliceK ty t H k x (intO (optV T lo)) (intO (optV T hi)) (intO (optV T mx)) = some r) :
    ∃ d v H', x = some d ∧ k v H' = some r ∧ ∀ (c : Ctx) (hm u : Nat) (li : Option Nat) (TS : Tbl AV) (ops : List Operand) (a : AV), c.H = H → Hp c hm → Opn c u T TS ops → (∀ o, lo = some o ∨ hi = some o ∨ mx = some o → o ∈ ops) → (owns d ≠ [] → Sub hm u) → R c u false d a →
      ∃ a' c', dSlice ty c.M t (some a) (opdO TS lo) (opdO TS hi) (opdO TS mx) = some (a', c'.M) ∧ Post c c' 1 li u hm v a' H' := by
  unfold sliceK at h
  split at h
  · rename_i d lo' hi' mx' hlo hhi hmx
    unfold slice3 at h
    have hop : ∀ (c : Ctx) (u : Nat) (TS : Tbl AV) (ops : List Operand) (M : Mem) (a : AV), Opn c u T TS ops → (∀ o, lo = some o ∨ hi = some o ∨ mx = some o → o ∈ ops) → dSlice ty M t (some a) (opdO TS lo) (opdO TS hi) (opdO TS mx) = dSlice1 ty M (some a) (ioA lo') (ioA hi') (ioA mx') (ty t) := by
      intro c u TS ops M a hO hm
      rw [intO_ok hO (fun o e => hm o (.inl e)) hlo, intO_ok hO (fun o e => hm o (.inr (.inl e))) hhi, intO_ok hO (fun o e => hm o (.inr (.inr e))) hmx]
      rfl
    split at h
    · rename_i i hi
      split at h
      · rename_i e htd
        split at h
        · rename_i tg ex s rows
          split at h
          · rename_i j hj
            cases hs : Nat.beq s j.size with
            | false => rw [hs] at h; cases h
            | true =>
              rw [hs, cond_true] at h
              have hs := Nat.eq_of_beq_eq_true hs
              obtain ⟨v, h1, _, h2⟩ := cutL_ok h
              refine ⟨_, v, _, rfl, h1, fun c hm u li TS ops a hH hp hO hmem _ hr => ?_⟩
              subst hH
              obtain ⟨a', k1, k2⟩ := h2 c u a j hs.symm (list_true hr)
              refine ⟨a', c, ?_, Post.same hp k2.thaw⟩
              rw [hop c u TS ops c.M a hO hmem]
              simp only [dSlice1, hi, htd, hj, k1, d1]
          · cases h
        · rename_i b
          split at h
          · rename_i s rows hrow
            split at h
            · rename_i j hj
              cases hs : Nat.beq s j.size with
              | false => rw [hs] at h; cases h
              | true =>
                rw [hs, cond_true] at h
                have hs := Nat.eq_of_beq_eq_true hs
                obtain ⟨v, h1, _, h2⟩ := cutL_ok h
                refine ⟨_, v, _, rfl, h1, fun c hm u li TS ops a hH hp hO hmem hu hr => ?_⟩
                subst hH
                obtain ⟨g1, g2, g3, g4, g5⟩ := frz_hand hp u [b]
                rw [R] at hr
                obtain ⟨_, hck, ho⟩ := hr
                obtain ⟨nn, o1, o2⟩ := own_rows hp hrow ho
                have hl := o1.list g1 (.inr (by simp)) (rowsO_B hrow) o2 hck (hu (by simp [owns]))
                obtain ⟨a', k1, k2⟩ := h2 _ u a j hs.symm hl
                refine ⟨a', c.withH (frzAt c.H b), ?_, Ctx.withH_post g2 g3 k2.thaw⟩
                rw [hop c u TS ops c.M a hO hmem]
                simp only [dSlice1, hi, htd, hj, k1, d1]
                rfl
            · cases h
          · cases h
        · cases h
      · rename_i n e htd
        split at h
        · rename_i b o
          split at h
          · rename_i cs hb
            split at h
            · rename_i j hj
              obtain ⟨v, h1, h2⟩ := cutAK_ok hj h
              refine ⟨_, v, _, rfl, h1, fun c hm u li TS ops a hH hp hO hmem hu hr => ?_⟩
              subst hH
              obtain ⟨g1, g2, g3, g4, g5⟩ := frz_hand hp u [b]
              rw [R] at hr
              obtain ⟨_, hck, _, e2⟩ := hr
              subst e2
              obtain ⟨l, k1, k2⟩ := boxO_some hp hb
              obtain ⟨B, hB1, hB2⟩ : ∃ B, nthB c.H b = some B ∧ NonE B := by
                unfold boxO at hb
                split at hb
                · rename_i e; exact ⟨_, e, trivial⟩
                · rename_i e; exact ⟨_, e, trivial⟩
                · cases hb
              have hS := (g1.own b (.inr (by simp)) l B hB1 hB2 k2 hck).1
              have hrl := RL.mono (g2 u) _ _ _ (k1.sub (ck_or hck (hu (by simp [owns]))))
              have hrd := k2.rd
              rw [hrl.length] at hrd
              obtain ⟨a', j1, j2⟩ := h2 _ u 0 (c.ρ b) false l hS hrd hrl
              refine ⟨a', c.withH (frzAt c.H b), ?_, Ctx.withH_post g2 g3 j2.thaw⟩
              rw [hop c u TS ops c.M _ hO hmem]
              rw [Nat.zero_add] at j1
              simp only [dSlice1, hi, htd, hj, j1, d1]
              rfl
            · cases h
          · cases h
        · rename_i tg cs o
          split at h
          · rename_i j hj
            obtain ⟨v, h1, h2⟩ := cutAK_ok hj h
            refine ⟨_, v, _, rfl, h1, fun c hm u li TS ops a hH hp hO hmem hu hr => ?_⟩
            subst hH
            rw [R] at hr
            obtain ⟨b, base, l, e2, k1, k2, k3⟩ := hr
            subst e2
            obtain ⟨a', j1, j2⟩ := h2 c u base b true l k1 k2 k3
            refine ⟨a', c, ?_, Post.same hp j2.thaw⟩
            rw [hop c u TS ops c.M _ hO hmem]
            simp only [dSlice1, hi, htd, hj, j1, d1]
          · cases h
        · cases h
      · cases h
    · cases h
  · cases h
theorem mkFuncK_ok {f : Nat} {H : VH} {k : K} {x y : Option (List DV)} {r : DV} (h : mkFuncK f H k x y = some r) :
    ∃ xs ys v, x = some xs ∧ y = some ys ∧ k v H = some r ∧ ∀ (c : Ctx) (u : Nat) (l m : List AV), RL c u false xs l → RL c u false ys m → ∃ a', dFunc c.M f (some l) (some m) = some (a', c.M) ∧ R c u false v a' := by
  unfold mkFuncK at h
  split at h
  · exact ⟨_, _, _, rfl, rfl, h, fun c u l m h1 h2 => ⟨_, rfl, by rw [R]; exact ⟨l, m, rfl, h1, h2⟩⟩⟩
  · cases h

/-! ### Appends -/
/-- What is appended, as S reads it. -/
theorem src_ok {c : Ctx} {hm u : Nat} {y : DV} {b : AV} {s : Nat} {new : List DV} {i : TyI} (hp : Hp c hm) (hu : owns y ≠ [] → Sub hm u) (hs : i.size = s) (h : rowsV c.H y = some (s, new)) (hr : R c u false y b) : ∃ rcs, srcOf c.E c.M b i = some (new.length, rcs.flatten) ∧ RRows c u new rcs ∧ (∀ l ∈ rcs, l.length = s) := by
  subst hs
  unfold rowsV at h
  split at h
  · cases h
    simp only [R] at hr
    obtain ⟨rcs, h1, h2, h3⟩ := hr
    refine ⟨rcs, ?_, h1, h2⟩
    rcases h3 with ⟨e1, e2 | ⟨z, e2, _⟩⟩ | ⟨b, o, cap, q, e2, _, _, _, hrd⟩
    · subst e2
      have : new = [] := List.eq_nil_of_length_eq_zero e1
      subst this
      simp only [RRows] at h1; subst h1; rfl
    · subst e2
      have : new = [] := List.eq_nil_of_length_eq_zero e1
      subst this
      simp only [RRows] at h1; subst h1; rfl
    · subst e2
      simp only [srcOf, hrd]
  · rename_i k
    rw [R] at hr
    obtain ⟨_, hck, ho⟩ := hr
    obtain ⟨nn, o1, o2⟩ := own_rows hp h ho
    obtain ⟨rcs, h1, h2, h3⟩ := o2
    refine ⟨rcs, ?_, h1.sub (ck_or hck (hu (by simp [owns]))), h2⟩
    rcases o1 with ⟨k1, e | ⟨_, e | ⟨b', o, e, _, e3⟩⟩⟩ | ⟨k1, q, _, e⟩
    · subst e; subst k1; simp only [RRows] at h1; subst h1; rfl
    · subst e; subst k1; simp only [RRows] at h1; subst h1; rfl
    · subst e; subst k1; simp only [RRows] at h1; subst h1
      simp only [srcOf, Nat.zero_mul, e3, List.length_nil, List.flatten_nil]
    · subst e
      have := (h3 k1).rd
      rw [flat_length h2, h1.length] at this
      simp only [srcOf, this]
  · cases h
/-- A block of no rows, that lies nowhere. -/
def Ctx.virt (c : Ctx) (B : VB) (u : Nat) : Ctx := { c with H := pushB c.H B, ck := updN c.ck c.H.length u }
theorem virt_ok {c : Ctx} {hm : Nat} (hp : Hp c hm) (nn : Bool) (s u : Nat) : (∀ m, Ext c (c.virt (.row nn s []) u) m m) ∧ Hp (c.virt (.row nn s []) u) hm := by
  have hold : ∀ j, Mutk (c.virt (.row nn s []) u).H j → Mutk c.H j := by
    intro j hj
    have hj' : Mutk (pushB c.H (.row nn s [])) j := hj
    unfold Mutk at hj' ⊢
    rw [nthB_push] at hj'
    by_cases e : j = c.H.length
    · rw [if_pos e] at hj'; exact absurd rfl hj'
    · rw [if_neg e] at hj'; exact hj'
  have hH : ∀ k x, nthB c.H k = some x → nthB (c.virt (.row nn s []) u).H k = some x ∧ (c.virt (.row nn s []) u).ck k = c.ck k := by
    intro k x hx
    have hlt := nthB_lt hx
    refine ⟨?_, updN_other _ _ (by omega)⟩
    show nthB (pushB c.H _) k = _
    rw [nthB_push, if_neg (by omega)]; exact hx
  have hsta : ∀ m tg b, Sta c m tg b → Sta (c.virt (.row nn s []) u) m tg b := fun m tg b h => ⟨fun ⟨j, h1, h2⟩ => h.1 ⟨j, hold j h1, h2⟩, h.2.1, h.2.2⟩
  have hext : ∀ m, Ext c (c.virt (.row nn s []) u) m m := fun m => by
    refine ⟨fun tg b cs h1 h2 => ⟨hsta m tg b h1, h2⟩, fun k a ho => ?_, fun k o a hp => ?_, fun k i o a he => ?_, fun k hk ⟨x, hx⟩ => by rw [(hH k x hx).2]; exact hk⟩
    · obtain ⟨x, hx⟩ := ho.some
      unfold OwnR at ho ⊢
      rw [hx] at ho; rw [(hH k x hx).1]
      have hv : ∀ nn' s' rows, OwnV c m nn' s' k rows a → OwnV (c.virt (.row nn s []) u) m nn' s' k rows a := by
        intro nn' s' rows hv
        rcases hv with ⟨k1, e | ⟨k2, e | ⟨b, o, k3, k4, k5⟩⟩⟩ | hv
        · exact .inl ⟨k1, .inl e⟩
        · exact .inl ⟨k1, .inr ⟨k2, .inl e⟩⟩
        · exact .inl ⟨k1, .inr ⟨k2, .inr ⟨b, o, k3, hsta _ _ _ k4, k5⟩⟩⟩
        · exact .inr hv
      cases x <;> first | exact hv _ _ _ ho | exact ho
    · obtain ⟨x, hx⟩ := hp.some
      obtain ⟨⟨cs, k1⟩, k2⟩ := hp
      exact ⟨⟨cs, by rw [(hH k x hx).1]; rw [hx] at k1; exact k1⟩, k2⟩
    · obtain ⟨x, hx⟩ := he.some
      unfold ElpR at he ⊢
      rw [hx] at he; rw [(hH k x hx).1]
      exact he
  refine ⟨hext, fun k k' h1 h2 hne => hp.inj k k' (hold k h1) (hold k' h2) hne, fun k x hx => ?_, hp.ta, hp.bm, hp.cell, hp.ro, hp.ids⟩
  have hx' : nthB (pushB c.H (.row nn s [])) k = some x := hx
  rw [nthB_push] at hx'
  by_cases e : k = c.H.length
  · rw [if_pos e] at hx'; cases hx'
    exact ⟨[], by simp [RRows], by simp, fun e => absurd rfl e⟩
  · rw [if_neg e] at hx'
    exact (hp.hr k x hx').keep hext (Sub.refl hm) rfl (updN_other _ _ e) (fun _ l hl => hl.keep rfl rfl (updN_other _ _ e) hl.get rfl)
theorem virt_post {c : Ctx} {hm u : Nat} {li : Option Nat} (hp : Hp c hm) {nn : Bool} {s : Nat} {a : AV} (ha : a = .nils ∨ (nn = false ∧ (a = .emp true ∨ ∃ b o, a = .slice b o 0 0 0 ∧ Sta c u false b ∧ rd c.E c.M b o 0 = some []))) :
    Post c (c.virt (.row nn s []) u) 1 li u hm (.own c.H.length) a (pushB c.H (.row nn s [])) := by
  obtain ⟨h1, h2⟩ := virt_ok hp nn s u
  refine ⟨rfl, rfl, rfl, rfl, h1, h2, ?_, Nat.le_refl _, Nat.le_succ _, fun _ _ => rfl, fun b k1 k2 => ?_⟩
  · rw [R]
    have e1 : (c.virt (.row nn s []) u).ck c.H.length = u := updN_same _ _ _
    refine ⟨rfl, by rw [e1]; exact Sub.refl _, ?_⟩
    unfold OwnR
    have : nthB (c.virt (.row nn s []) u).H c.H.length = some (.row nn s []) := by
      show nthB (pushB c.H _) _ = _
      rw [nthB_push, if_pos rfl]
    rw [this]
    refine .inl ⟨rfl, ?_⟩
    rcases ha with e | ⟨e1, e2 | ⟨b, o, e2, e3, e4⟩⟩
    · exact .inl e
    · exact .inr ⟨e1, .inl e2⟩
    · exact .inr ⟨e1, .inr ⟨b, o, e2, ((h1 u).toF.rd e3 e4).1, e4⟩⟩
  · have : (c.virt (.row nn s []) u).nb = c.nb := rfl
    rw [this] at k2; omega
/-- A block that goes on under another name. -/
def Ctx.reb (c : Ctx) (b : Nat) (B : VB) : Ctx := { c with H := pushB (setB c.H b .dead) B, ρ := updN c.ρ c.H.length (c.ρ b), ck := updN c.ck c.H.length (c.ck b) }
theorem reb_post {c : Ctx} {hm u rm : Nat} {li : Option Nat} (hp : Hp c hm) {b s q : Nat} {nn : Bool} {rows : List DV} (hB : nthB c.H b = some (.row nn s rows)) (hne : rows ≠ []) (hck : Sub (c.ck b) u) (hq : q = 0 ∨ q = s) :
    Post c (c.reb b (.row nn s rows)) 1 li u hm (.own c.H.length) (.slice (c.ρ b) 0 rows.length rows.length q) (pushB (setB c.H b .dead) (.row nn s rows)) := by
  have hmb : Mutk c.H b := by unfold Mutk; rw [hB]; exact hne
  have hblt := nthB_lt hB
  have hget : ∀ j, nthB (c.reb b (.row nn s rows)).H j = if j = c.H.length then some (.row nn s rows) else if j = b then some .dead else nthB c.H j := by
    intro j
    show nthB (pushB (setB c.H b .dead) _) j = _
    have : (setB c.H b .dead).length = c.H.length := by rw [setB_set]; simp
    rw [nthB_push, this, nthB_set hB]
  have eρ : ∀ j, j ≠ c.H.length → (c.reb b (.row nn s rows)).ρ j = c.ρ j := fun j hj => updN_other _ _ hj
  have eck : ∀ j, j ≠ c.H.length → (c.reb b (.row nn s rows)).ck j = c.ck j := fun j hj => updN_other _ _ hj
  have hold : ∀ j, j ≠ c.H.length → Mutk (c.reb b (.row nn s rows)).H j → Mutk c.H j ∧ j ≠ b := by
    intro j hj hmu
    unfold Mutk at hmu
    rw [hget, if_neg hj] at hmu
    by_cases e : j = b
    · rw [if_pos e] at hmu; exact hmu.elim
    · rw [if_neg e] at hmu; exact ⟨hmu, e⟩
  have hmut : ∀ x, Mut (c.reb b (.row nn s rows)) x → Mut c x := by
    rintro x ⟨j, h1, h2⟩
    by_cases e : j = c.H.length
    · subst e
      rw [show (c.reb b (.row nn s rows)).ρ c.H.length = c.ρ b from updN_same _ _ _] at h2
      exact ⟨b, hmb, h2⟩
    · exact ⟨j, (hold j e h1).1, by rw [← eρ j e]; exact h2⟩
  have hsta : ∀ m tg x, Sta c m tg x → Sta (c.reb b (.row nn s rows)) m tg x := fun m tg x h => ⟨fun e => h.1 (hmut x e), h.2.1, h.2.2⟩
  have hH : ∀ k x, nthB c.H k = some x → nthB (c.reb b (.row nn s rows)).H k = some (if k = b then .dead else x) ∧ k ≠ c.H.length := by
    intro k x hx
    have hlt := nthB_lt hx
    refine ⟨?_, by omega⟩
    rw [hget, if_neg (by omega)]
    by_cases e : k = b
    · rw [if_pos e, if_pos e]
    · rw [if_neg e, if_neg e]; exact hx
  have hext : ∀ m, Ext c (c.reb b (.row nn s rows)) m m := fun m => by
    refine ⟨fun tg x cs h1 h2 => ⟨hsta m tg x h1, h2⟩, fun k a ho => ?_, fun k o a hpt => ?_, fun k i o a he => ?_, fun k hk ⟨x, hx⟩ => by rw [eck k (hH k x hx).2]; exact hk⟩
    · obtain ⟨x, hx⟩ := ho.some
      have hsl := ho.sl
      obtain ⟨g1, g2⟩ := hH k x hx
      unfold OwnR at ho ⊢
      rw [hx] at ho; rw [g1]
      by_cases e : k = b
      · rw [if_pos e]; exact hsl
      · rw [if_neg e]
        have hv : ∀ nn' s' rows', OwnV c m nn' s' k rows' a → OwnV (c.reb b (.row nn s rows)) m nn' s' k rows' a := by
          intro nn' s' rows' hv
          rcases hv with ⟨k1, e | ⟨k2, e | ⟨b', o, k3, k4, k5⟩⟩⟩ | ⟨k1, q, k2, k3⟩
          · exact .inl ⟨k1, .inl e⟩
          · exact .inl ⟨k1, .inr ⟨k2, .inl e⟩⟩
          · exact .inl ⟨k1, .inr ⟨k2, .inr ⟨b', o, k3, hsta _ _ _ k4, k5⟩⟩⟩
          · exact .inr ⟨k1, q, k2, by rw [eρ k g2]; exact k3⟩
        cases x <;> first | exact hv _ _ _ ho | exact ho
    · obtain ⟨x, hx⟩ := hpt.some
      obtain ⟨g1, g2⟩ := hH k x hx
      obtain ⟨⟨cs, k1⟩, k2⟩ := hpt
      have hkb : k ≠ b := by
        intro e; subst e; rw [hB] at k1; simp [boxO] at k1
      exact ⟨⟨cs, by rw [g1, if_neg hkb]; rw [hx] at k1; exact k1⟩, by rw [eρ k g2]; exact k2⟩
    · obtain ⟨x, hx⟩ := he.some
      have hpt := he.pt
      obtain ⟨g1, g2⟩ := hH k x hx
      unfold ElpR at he ⊢
      rw [hx] at he; rw [g1]
      by_cases e : k = b
      · rw [if_pos e]; exact hpt
      · rw [if_neg e]
        cases x <;> first | (simp only [] at he ⊢; rw [eρ k g2]; exact he) | exact he
  obtain ⟨rcs, r1, r2, r3⟩ := hp.hr b _ hB
  have hblk : Blk (c.reb b (.row nn s rows)) c.H.length rcs.flatten := by
    have e1 : (c.reb b (.row nn s rows)).ρ c.H.length = c.ρ b := updN_same _ _ _
    have e2 : (c.reb b (.row nn s rows)).ck c.H.length = c.ck b := updN_same _ _ _
    have h0 := r3 hne
    exact ⟨by rw [e1]; exact h0.lo, by rw [e1]; exact h0.get, by rw [e1, e2]; exact h0.vis⟩
  have eckl : (c.reb b (.row nn s rows)).ck c.H.length = c.ck b := updN_same _ _ _
  refine ⟨rfl, rfl, rfl, rfl, hext, ⟨fun k k' h1 h2 hne' => ?_, fun k x hx => ?_, hp.ta, hp.bm, hp.cell, hp.ro, hp.ids⟩, ?_, Nat.le_refl _, Nat.le_succ _, fun _ _ => rfl, fun x k1 k2 => ?_⟩
  · by_cases e : k = c.H.length
    · subst e
      obtain ⟨g1, g2⟩ := hold k' (Ne.symm hne') h2
      rw [show (c.reb b (.row nn s rows)).ρ c.H.length = c.ρ b from updN_same _ _ _, eρ k' (Ne.symm hne')]
      exact hp.inj b k' hmb g1 (Ne.symm g2)
    · obtain ⟨g1, g2⟩ := hold k e h1
      by_cases e' : k' = c.H.length
      · subst e'
        rw [show (c.reb b (.row nn s rows)).ρ c.H.length = c.ρ b from updN_same _ _ _, eρ k e]
        exact hp.inj k b g1 hmb g2
      · obtain ⟨g3, g4⟩ := hold k' e' h2
        rw [eρ k e, eρ k' e']
        exact hp.inj k k' g1 g3 hne'
  · rw [hget] at hx
    by_cases e : k = c.H.length
    · subst e
      rw [if_pos rfl] at hx; cases hx
      refine ⟨rcs, ?_, r2, fun _ => hblk⟩
      rw [eckl]
      exact RRows.mono (hext _) _ _ r1
    · rw [if_neg e] at hx
      by_cases e2 : k = b
      · rw [if_pos e2] at hx; cases hx; trivial
      · rw [if_neg e2] at hx
        exact (hp.hr k x hx).keep hext (Sub.refl hm) (eρ k e) (eck k e) (fun _ l hl => hl.keep rfl (eρ k e) (eck k e) hl.get rfl)
  · rw [R]
    refine ⟨rfl, by rw [eckl]; exact hck, ?_⟩
    unfold OwnR
    rw [hget, if_pos rfl]
    exact .inr ⟨hne, q, hq, by rw [show (c.reb b (.row nn s rows)).ρ c.H.length = c.ρ b from updN_same _ _ _]⟩
  · have : (c.reb b (.row nn s rows)).nb = c.nb := rfl
    rw [this] at k2; omega
end Go.Vx
/- V, text B: appends; one operation. -/
namespace Go.Vx
open Go.Sx

theorem rd_all {E : Env} {M : Mem} {b o n : Nat} {l : List AV} (h : ∀ b cs, cellsOf E M b = some cs → cs.all AV.isCell = true) (hr : rd E M b o n = some l) : l.all AV.isCell = true := by
  obtain ⟨cs, h1, h2⟩ := rd_cells hr
  simp only [rdIn] at h2
  cases hb : Nat.ble (o + n) cs.length with
  | false => rw [hb] at h2; cases h2
  | true =>
    rw [hb, cond_true, Option.some.injEq] at h2
    subst h2
    have := h b cs h1
    rw [List.all_eq_true] at this ⊢
    exact fun x hx => this x (List.mem_of_mem_drop (List.mem_of_mem_take hx))
theorem Post.mask {c c' : Ctx} {K : Nat} {li : Option Nat} {rm rm' hm' hm'' : Nat} {v : DV} {a : AV} {H' : VH} (h : Post c c' K li rm hm' v a H') (h1 : Sub rm rm') (h2 : Sub hm' hm'') : Post c c' K li rm' hm'' v a H' :=
  ⟨h.E, h.Ta, h.Bq, h.H, h.ext, h.hp.mask h2, h.r.sub h1, h.n1, h.n2, h.lay1, h.lay2⟩
theorem Post.up {c c' : Ctx} {K K' : Nat} {li : Option Nat} {rm hm' : Nat} {v : DV} {a : AV} {H' : VH} (h : Post c c' K li rm hm' v a H') (h1 : K ≤ K') : Post c c' K' li rm hm' v a H' :=
  ⟨h.E, h.Ta, h.Bq, h.H, h.ext, h.hp, h.r, h.n1, Nat.le_trans h.n2 (by omega), h.lay1, h.lay2⟩
theorem isNE_iff {l : List DV} : isNE l = true ↔ l ≠ [] := by cases l <;> simp [isNE]
theorem append2_zero {E : Env} {M : Mem} {i : TyI} {a : AV} {l : List AV} (h : isSlV a = true) : append2 E M i a (some (0, l)) = some (a, M) := by
  have : isSl a = true := by cases a <;> simp [isSlV] at h <;> rfl
  simp only [append2, Nat.beq_refl, cond_true, this]
theorem append2_pos {E : Env} {M : Mem} {i : TyI} {a : AV} {n : Nat} {l : List AV} (hn : n ≠ 0) (hi : appOk i = true) : append2 E M i a (some (n, l)) = (match a with
      | .nils => bif Nat.ble n 1048576 then Go.Sx.newRow E M n i.size l else none
      | .emp true => bif Nat.ble n 1048576 then Go.Sx.newRow E M n i.size l else none
      | .slice b o n1 c q => append3 E M i b o n1 c q n l
      | _ => none) := by
  unfold appOk at hi
  simp only [Bool.and_eq_true] at hi
  simp only [append2]
  rw [show Nat.beq n 0 = false from beqF hn, cond_false, hi.1, hi.2.1, hi.2.2]
  rfl
theorem kill_ok {c : Ctx} {hm b s : Nat} {nn : Bool} {rows : List DV} (hp : Hp c hm) (hB : nthB c.H b = some (.row nn s rows)) {M : Mem} (hM : MemK c b M) : (∀ m, Ext c (c.upd b .dead M) m m) ∧ Hp (c.upd b .dead M) hm ∧ (∀ j x, nthB c.H j = some x → ∃ y, nthB (c.upd b .dead M).H j = some y) := by
  have hK : Kin (.row nn s rows) .dead := trivial
  refine ⟨fun m => upd_ext hp hB hK hM m, upd_hp hp (Sub.refl hm) hB hK hM trivial, fun j x hx => ?_⟩
  show ∃ y, nthB (setB c.H b .dead) j = some y
  rw [nthB_set hB]
  by_cases e : j = b
  · rw [if_pos e]; exact ⟨_, rfl⟩
  · rw [if_neg e]; exact ⟨_, hx⟩
theorem newRow_ok {E : Env} {M : Mem} {n s : Nat} {cs : List AV} (h : cs.all AV.isCell = true) : Go.Sx.newRow E M n s cs = some (.slice (E.m0 + M.n) 0 n n s, M.push (.cells cs)) := by
  simp only [Go.Sx.newRow, h, cond_true]; rfl
theorem app3_ok {s : Nat} {H : VH} {k : K} {x : DV} {new : List DV} {r : DV} (h : app3 s H k x new = some r) :
    ∃ v H', k v H' = some r ∧ ∀ (c : Ctx) (hm u : Nat) (li : Option Nat) (a : AV) (i : TyI) (rcs : List (List AV)), c.H = H → Hp c hm → (owns x ≠ [] → Sub hm u) → i.size = s → appOk i = true → R c u false x a → RRows c u new rcs → (∀ l ∈ rcs, l.length = s) → rcs.flatten.all AV.isCell = true →
      ∃ a' c', append2 c.E c.M i a (some (new.length, rcs.flatten)) = some (a', c'.M) ∧ Post c c' 1 li (u ||| lm li) (hm ||| (u ||| lm li)) v a' H' := by
  unfold app3 at h
  split at h
  · -- nil
    cases hle : decide (new.length ≤ 1048576) with
    | false => rw [hle] at h; cases h
    | true =>
      rw [hle, cond_true] at h
      simp only [decide_eq_true_eq] at hle
      refine ⟨_, _, h, fun c hm u li a i rcs hH hp hu hs hi hr h1 h2 hall => ?_⟩
      subst hH
      simp only [R] at hr
      subst hr
      by_cases hn : new = []
      · subst hn
        exact ⟨.nils, c.virt (.row true s []) u, append2_zero rfl, (virt_post hp (.inl rfl)).mask (Sub.orl _ _) (Sub.orl _ _)⟩
      · have hne : new.length ≠ 0 := fun e => hn (List.eq_nil_of_length_eq_zero e)
        refine ⟨_, _, ?_, (post_row (li := li) hp h1 h2 (.inr rfl) (fun e => absurd e hn) hall).mask (Sub.refl _) (Sub.orl _ _)⟩
        rw [append2_pos hne hi]
        simp only []
        rw [Nat.ble_eq_true_of_le hle, cond_true, hs, newRow_ok hall]
        rfl
  · rename_i b
    split at h
    · rename_i nn s' rows hrow
      cases hs' : Nat.beq s s' with
      | false => rw [hs'] at h; cases h
      | true =>
        rw [hs', cond_true] at h
        have := Nat.eq_of_beq_eq_true hs'
        subst this
        cases hle : lenOk rows new with
        | false => rw [hle] at h; cases h
        | true =>
          rw [hle, cond_true] at h
          simp only [lenOk, decide_eq_true_eq] at hle
          refine ⟨_, _, h, fun c hm u li a i rcs hH hp hu hs hi hr h1 h2 hall => ?_⟩
          subst hH
          rw [R] at hr
          obtain ⟨_, hck, ho⟩ := hr
          unfold OwnR at ho
          rw [hrow] at ho
          simp only [] at ho
          have hum := hu (by simp [owns])
          have hsetl : (setB c.H b .dead).length = c.H.length := by rw [setB_set]; simp
          obtain ⟨rcs0, r1, r2, r3⟩ := hp.hr b _ hrow
          by_cases hn : new = []
          · -- nothing is appended
            subst hn
            simp only [RRows] at h1
            subst h1
            rw [List.append_nil] at h ⊢
            rcases ho with ⟨e1, e2⟩ | ⟨e1, q, hq, e2⟩
            · subst e1
              obtain ⟨g1, g2, g3⟩ := kill_ok hp hrow (.inl rfl)
              have hv := virt_post (li := li) (u := u) (s := s) (nn := nn) (a := a) g2 (by
                rcases e2 with e | ⟨e3, e | ⟨b', o, e4, e5, e6⟩⟩
                · exact .inl e
                · exact .inr ⟨e3, .inl e⟩
                · exact .inr ⟨e3, .inr ⟨b', o, e4, ((g1 u).toF.rd e5 e6).1, e6⟩⟩)
              have hp2 := Post.after (c := c) g1 g3 rfl rfl rfl rfl rfl hv
              refine ⟨a, (c.upd b .dead c.M).virt (.row nn s []) u, append2_zero ?_, ?_⟩
              · rcases e2 with e | ⟨e3, e | ⟨b', o, e4, _⟩⟩ <;> (first | subst e | subst e4) <;> rfl
              · have := hp2.mask (rm' := u ||| lm li) (hm'' := hm ||| (u ||| lm li)) (Sub.orl _ _) (Sub.orl _ _)
                have el : (c.upd b .dead c.M).H.length = c.H.length := hsetl
                rw [el] at this
                exact this
            · subst e2
              exact ⟨_, c.reb b (.row nn s rows), append2_zero rfl, (reb_post (li := li) (rm := u) hp hrow e1 hck hq).mask (Sub.orl _ _) (Sub.orl _ _)⟩
          · have hne : new.length ≠ 0 := fun e => hn (List.eq_nil_of_length_eq_zero e)
            have hne2 : rows ++ new = [] → False := fun e => hn (List.append_eq_nil_iff.1 e).2
            have fin : ∀ (M : Mem), MemK c b M → rcs0.flatten.all AV.isCell = true → Post c ((c.upd b .dead M).push (rcs0 ++ rcs).flatten (.row nn s (rows ++ new)) li (u ||| lm li)) 1 li (u ||| lm li) (hm ||| (u ||| lm li)) (.own c.H.length) (.slice c.nb 0 (rows ++ new).length (rows ++ new).length s) (pushB (setB c.H b .dead) (.row nn s (rows ++ new))) := by
              intro M hM hall0
              obtain ⟨g1, g2, g3⟩ := kill_ok hp hrow hM
              have hr1 : RRows (c.upd b .dead M) u (rows ++ new) (rcs0 ++ rcs) := RRows.append (RRows.mono (g1 u) _ _ (r1.sub (ck_or hck hum))) (RRows.mono (g1 u) _ _ h1)
              have hp1 := post_row (li := li) (nn := nn) (q := s) g2 hr1 (fun l hl => (List.mem_append.1 hl).elim (r2 l) (h2 l)) (.inr rfl) (fun e => (hne2 e).elim) (by rw [List.flatten_append, List.all_append, hall0, hall]; rfl)
              have hp2 := Post.after (c := c) g1 g3 rfl rfl rfl (upd_n hM) rfl hp1
              have := hp2.mask (rm' := u ||| lm li) (hm'' := hm ||| (u ||| lm li)) (Sub.refl _) (Sub.orl _ _)
              have el : (c.upd b .dead M).H.length = c.H.length := hsetl
              have enb : (c.upd b .dead M).nb = c.nb := by show c.E.m0 + M.n = _; rw [upd_n hM]; rfl
              rw [el, enb] at this
              exact this
            have hflat : (rcs0 ++ rcs).flatten = rcs0.flatten ++ rcs.flatten := List.flatten_append
            have hfl := flat_length r2
            rw [r1.length] at hfl
            rcases ho with ⟨e1, e2⟩ | ⟨e1, q, hq, e2⟩
            · subst e1
              have hz : rcs0 = [] := by simpa using r1.length
              subst hz
              have hnew : Go.Sx.newRow c.E c.M new.length i.size rcs.flatten = some (.slice c.nb 0 new.length new.length s, c.M.push (.cells rcs.flatten)) := by rw [newRow_ok hall, hs]; rfl
              refine ⟨_, _, ?_, fin c.M (.inl rfl) rfl⟩
              rw [append2_pos hne hi]
              rcases e2 with e | ⟨e3, e | ⟨b', o, e4, e5, e6⟩⟩
              · subst e
                simp only []
                rw [Nat.ble_eq_true_of_le (show new.length ≤ 1048576 by omega), cond_true, hnew]
                rfl
              · subst e
                simp only []
                rw [Nat.ble_eq_true_of_le (show new.length ≤ 1048576 by omega), cond_true, hnew]
                rfl
              · subst e4
                simp only [append3]
                rw [Nat.ble_eq_true_of_le (show 0 + new.length ≤ 1048576 by omega), cond_true, show Nat.ble (0 + new.length) 0 = false by cases hh : Nat.ble (0 + new.length) 0 with | false => rfl | true => exact absurd (bleT hh) (by omega), cond_false, Nat.beq_refl, cond_true, Nat.zero_mul, e6]
                simp only [moved, List.nil_append, Nat.zero_add]
                rw [hnew]
                rfl
            · subst e2
              have hB := r3 e1
              have hrd := hB.rd
              rw [hfl] at hrd
              have hall0 := hp.cell _ _ hB.cells
              have hlen : (rows ++ new).length = rows.length + new.length := List.length_append
              rw [append2_pos hne hi]
              simp only [append3]
              rw [Nat.ble_eq_true_of_le (show rows.length + new.length ≤ 1048576 by omega), cond_true, show Nat.ble (rows.length + new.length) rows.length = false by cases hh : Nat.ble (rows.length + new.length) rows.length with | false => rfl | true => exact absurd (bleT hh) (by omega), cond_false]
              have hall2 : (rcs0.flatten ++ rcs.flatten).all AV.isCell = true := by rw [List.all_append, hall0, hall]; rfl
              have moved_ok : ∀ q', Nat.beq q' 0 = true → ∃ a' c', (bif Nat.beq q' 0 then moved c.E c.M (rows.length + new.length) i.size rcs.flatten (rd c.E c.M (c.ρ b) 0 (rows.length * i.size)) else bif Nat.beq q' i.size && Nat.ble c.E.m0 (c.ρ b) then grown c.E c.M (c.ρ b) 0 (rows.length + new.length) i.size (0 + rows.length * i.size) rcs.flatten (objCells (c.M.get (c.ρ b - c.E.m0))) else none) = some (a', c'.M) ∧ Post c c' 1 li (u ||| lm li) (hm ||| (u ||| lm li)) (.own c.H.length) a' (pushB (setB c.H b .dead) (.row nn s (rows ++ new))) := by
                intro q' hq'
                rw [hq', cond_true, hs, hrd]
                simp only [moved]
                rw [newRow_ok hall2, ← hlen, ← hflat]
                exact ⟨_, _, rfl, fin c.M (.inl rfl) hall0⟩
              cases hq0 : Nat.beq q 0 with
              | true =>
                have := moved_ok q hq0
                rw [hq0] at this
                exact this
              | false =>
                have hqs : q = s := hq.resolve_left (fun e => by rw [e] at hq0; cases hq0)
                rw [cond_false, hqs, hs, Nat.beq_refl, Nat.ble_eq_true_of_le hB.lo, Bool.and_self, cond_true, hB.get]
                simp only [objCells, grown]
                rw [hfl, Nat.zero_add, Nat.beq_refl, cond_true, List.drop_zero, newRow_ok hall2, ← hlen, ← hflat]
                exact ⟨_, _, rfl, fin _ (.inr ⟨by unfold Mutk; rw [hrow]; exact e1, _, rfl, fun cs e => by cases e⟩) hall0⟩
    · cases h
  · rename_i tg s' rows
    cases hc : (Nat.beq s s' && ((!tg && !isNE rows) || isNE new)) with
    | false => rw [hc] at h; cases h
    | true =>
      rw [hc, cond_true] at h
      simp only [Bool.and_eq_true] at hc
      have := Nat.eq_of_beq_eq_true hc.1
      subst this
      cases hle : lenOk rows new with
      | false => rw [hle] at h; cases h
      | true =>
        rw [hle, cond_true] at h
        simp only [lenOk, decide_eq_true_eq] at hle
        refine ⟨_, _, h, fun c hm u li a i rcs hH hp hu hs hi hr h1 h2 hall => ?_⟩
        subst hH
        simp only [R] at hr
        obtain ⟨rcs0, r1, r2, r3⟩ := hr
        by_cases hn : new = []
        · subst hn
          simp only [RRows] at h1
          subst h1
          have hc2 := hc.2
          simp only [isNE, Bool.or_false, Bool.and_eq_true, Bool.not_eq_true'] at hc2
          obtain ⟨ht, hr0⟩ := hc2
          have hrows : rows = [] := by cases rows <;> simp [isNE] at hr0 ⊢
          subst hrows
          subst ht
          simp only [RRows] at r1
          subst r1
          rw [List.append_nil] at h ⊢
          refine ⟨a, c.virt (.row false s []) u, append2_zero r3.sl, (virt_post (li := li) (u := u) hp ?_).mask (Sub.orl _ _) (Sub.orl _ _)⟩
          rcases r3 with ⟨_, e | ⟨z, e, hz⟩⟩ | ⟨b, o, cap, q, e, _, k3, k4, k5⟩
          · exact .inl e
          · obtain rfl := hz rfl; exact .inr ⟨rfl, .inl e⟩
          · obtain ⟨k6, k7⟩ := k3.2.2 rfl
            subst k6; subst k7
            exact .inr ⟨rfl, .inr ⟨b, o, e, k4, by simpa using k5⟩⟩
        · have hne : new.length ≠ 0 := fun e => hn (List.eq_nil_of_length_eq_zero e)
          have hflat : (rcs0 ++ rcs).flatten = rcs0.flatten ++ rcs.flatten := List.flatten_append
          have hlen : (rows ++ new).length = rows.length + new.length := List.length_append
          have fin : rcs0.flatten.all AV.isCell = true → Post c (c.push (rcs0 ++ rcs).flatten (.row false s (rows ++ new)) li (u ||| lm li)) 1 li (u ||| lm li) (hm ||| (u ||| lm li)) (.own c.H.length) (.slice c.nb 0 (rows ++ new).length (rows ++ new).length s) (pushB c.H (.row false s (rows ++ new))) := by
            intro hall0
            exact (post_row (li := li) hp (r1.append h1) (fun l hl => (List.mem_append.1 hl).elim (r2 l) (h2 l)) (.inr rfl) (fun e => absurd (List.append_eq_nil_iff.1 e).2 hn) (by rw [hflat, List.all_append, hall0, hall]; rfl)).mask (Sub.refl _) (Sub.orl _ _)
          rw [append2_pos hne hi]
          rcases r3 with ⟨e1, e | ⟨z, e, hz⟩⟩ | ⟨b, o, cap, q, e, _, k3, k4, k5⟩
          · subst e
            have hr0 : rows = [] := List.eq_nil_of_length_eq_zero e1
            subst hr0
            simp only [RRows] at r1
            subst r1
            simp only []
            rw [Nat.ble_eq_true_of_le (show new.length ≤ 1048576 by omega), cond_true, newRow_ok hall, hs]
            exact ⟨_, _, rfl, fin rfl⟩
          · obtain rfl := hz rfl
            subst e
            have hr0 : rows = [] := List.eq_nil_of_length_eq_zero e1
            subst hr0
            simp only [RRows] at r1
            subst r1
            simp only []
            rw [Nat.ble_eq_true_of_le (show new.length ≤ 1048576 by omega), cond_true, newRow_ok hall, hs]
            exact ⟨_, _, rfl, fin rfl⟩
          · obtain ⟨k6, k7⟩ := k3.2.2 rfl
            subst k6; subst k7
            subst e
            have hall0 := rd_all hp.cell k5
            have hall2 : (rcs0.flatten ++ rcs.flatten).all AV.isCell = true := by rw [List.all_append, hall0, hall]; rfl
            simp only [append3]
            rw [Nat.ble_eq_true_of_le (show rows.length + new.length ≤ 1048576 by omega), cond_true, show Nat.ble (rows.length + new.length) rows.length = false by cases hh : Nat.ble (rows.length + new.length) rows.length with | false => rfl | true => exact absurd (bleT hh) (by omega), cond_false, Nat.beq_refl, cond_true, hs, k5]
            simp only [moved]
            rw [newRow_ok hall2, ← hlen, ← hflat]
            exact ⟨_, _, rfl, fin hall0⟩
  · cases h
theorem isSlT_ok {t : Option TyI} {a : AV} (h : isSlT t = true) (ha : isSlV a = true) : isCount a t = true := by
  unfold isSlT at h
  split at h
  · split at h
    · rename_i htd
      cases a <;> simp [isSlV] at ha <;> simp only [isCount, htd]
    · cases h
  · cases h
theorem elT_ok {ty : Nat → Option TyI} {t : Option TyI} : tyO ty (elT t) = elemTy ty t := by
  cases t with
  | none => rfl
  | some i => simp only [elT, elemTy]; cases i.td <;> rfl
theorem appK_ok {ty : Nat → Option TyI} {ts : List TypeId} {H : VH} {k : K} {x : Option (List DV)} {r : DV} (h : appK ty ts H k x = some r) :
    ∃ ds v H', x = some ds ∧ k v H' = some r ∧ ∀ (c : Ctx) (hm u : Nat) (li : Option Nat) (l : List AV), c.H = H → Hp c hm → (ownsL ds ≠ [] → Sub hm u) → RL c u false ds l → ∃ a' c', dAppend ty c.E c.M ts (some l) = some (a', c'.M) ∧ Post c c' 1 li (u ||| lm li) (hm ||| (u ||| lm li)) v a' H' := by
  unfold appK at h
  split at h
  · rename_i d e
    split at h
    · rename_i t t' _
      cases hu : isSlT (ty t') with
      | false => rw [hu] at h; cases h
      | true =>
        rw [hu, cond_true] at h
        unfold app1 at h
        split at h
        · rename_i i hi
          cases hok : appOk i with
          | false => rw [hok] at h; cases h
          | true =>
            rw [hok, cond_true] at h
            have hel : elemTy ty (ty t) = some i := by rw [← elT_ok]; exact hi
            split at h
            · -- nothing
              obtain ⟨v, H', h1, h2⟩ := app3_ok h
              refine ⟨_, v, H', rfl, h1, fun c hm u li l hH hp ho hr => ?_⟩
              rw [RL] at hr
              obtain ⟨a, r1, rfl, k1, k2⟩ := hr
              rw [RL] at k2
              obtain ⟨b, r2, rfl, k3, k4⟩ := k2
              simp only [RL] at k4
              subst k4
              simp only [R] at k3
              subst k3
              obtain ⟨a', c', j1, j2⟩ := h2 c hm u li a i [] hH hp (fun hn => ho (fun e => hn (by simp only [ownsL, List.append_eq_nil_iff] at e; exact e.1))) rfl hok k1 (by simp [RRows]) (by simp) rfl
              refine ⟨a', c', ?_, j2⟩
              simp only [dAppend]
              rw [isSlT_ok hu rfl, cond_true, hel]
              exact j1
            · rename_i y _
              unfold app2 at h
              split at h
              · rename_i s' new hrow
                cases hs : Nat.beq i.size s' with
                | false => rw [hs] at h; cases h
                | true =>
                  rw [hs, cond_true] at h
                  have hs := Nat.eq_of_beq_eq_true hs
                  obtain ⟨v, H', h1, h2⟩ := app3_ok h
                  refine ⟨_, v, H', rfl, h1, fun c hm u li l hH hp ho hr => ?_⟩
                  subst hH
                  rw [RL] at hr
                  obtain ⟨a, r1, rfl, k1, k2⟩ := hr
                  rw [RL] at k2
                  obtain ⟨b, r2, rfl, k3, k4⟩ := k2
                  simp only [RL] at k4
                  subst k4
                  have ho2 : ∀ z, z = d ∨ z = e → owns z ≠ [] → Sub hm u := fun z hz hn => ho (fun e' => hn (by simp only [ownsL, List.append_eq_nil_iff] at e'; rcases hz with rfl | rfl; exact e'.1; exact e'.2.1))
                  obtain ⟨rcs, s1, s2, s3⟩ := src_ok (i := i) hp (ho2 e (.inr rfl)) hs hrow k3
                  have hsl : isSlV b = true := by
                    unfold rowsV at hrow
                    split at hrow
                    · simp only [R] at k3; obtain ⟨_, _, _, q⟩ := k3; exact q.sl
                    · rw [R] at k3; exact k3.2.2.sl
                    · cases hrow
                  have hall : rcs.flatten.all AV.isCell = true := by
                    cases b <;> simp only [srcOf] at s1 <;> simp [isSlV] at hsl
                    · split at s1
                      · rename_i cs hcs
                        cases s1
                        exact rd_all hp.cell hcs
                      · cases s1
                    · simp only [Option.some.injEq, Prod.mk.injEq] at s1
                      rw [← s1.2]; rfl
                    · simp only [Option.some.injEq, Prod.mk.injEq] at s1
                      rw [← s1.2]; rfl
                  obtain ⟨a', c', j1, j2⟩ := h2 c hm u li a i rcs rfl hp (ho2 d (.inl rfl)) rfl hok k1 s2 (fun l hl => by rw [s3 l hl, hs]) hall
                  refine ⟨a', c', ?_, j2⟩
                  simp only [dAppend]
                  rw [isSlT_ok hu hsl, cond_true, hel]
                  simp only [append1, s1]
                  exact j1
              · cases h
        · cases h
    · cases h
  · cases h
theorem splitB_ok {b : Bool} {f : Bool → Res} {r : DV} (h : splitB b f = some r) : f b = some r := by
  unfold splitB at h; cases b <;> exact h
end Go.Vx
/- V, text C: calls. -/
namespace Go.Vx
open Go.Sx

/-! ### What a call hands back, under its new numbers -/
theorem renL_map (σ : Nat → Nat) (l : List AV) : AV.renL σ l = l.map (AV.ren σ) := by
  induction l with
  | nil => rfl
  | cons a l ih => simp only [AV.renL, ih, List.map_cons]
structure RenX (c c' : Ctx) (σ : Nat → Nat) (m m' : Nat) : Prop where
  sta : ∀ b cs, Sta c m false b → cellsOf c.E c.M b = some cs → Sta c' m' false (σ b) ∧ cellsOf c'.E c'.M (σ b) = some (AV.renL σ cs)
theorem RenX.rd {c c' : Ctx} {σ : Nat → Nat} {m m' : Nat} (h : RenX c c' σ m m') {b o n : Nat} {l : List AV} (hs : Sta c m false b) (hr : rd c.E c.M b o n = some l) : Sta c' m' false (σ b) ∧ Go.Sx.rd c'.E c'.M (σ b) o n = some (AV.renL σ l) := by
  obtain ⟨cs, h1, h2⟩ := rd_cells hr
  obtain ⟨h3, h4⟩ := h.sta b cs hs h1
  refine ⟨h3, ?_⟩
  unfold Go.Sx.rd
  rw [h4]
  simp only [rdIn] at h2 ⊢
  rw [renL_length]
  cases hb : Nat.ble (o + n) cs.length with
  | false => rw [hb] at h2; cases h2
  | true =>
    rw [hb, cond_true, Option.some.injEq] at h2
    rw [cond_true, ← h2]
    simp only [renL_map, List.map_take, List.map_drop]
theorem cells_ren (σ : Nat → Nat) (a : AV) (l : List AV) (h : a = .agg l) : a.ren σ = .agg (AV.renL σ l) := by subst h; rfl
mutual
theorem R.ren {c c' : Ctx} {σ : Nat → Nat} {m m' : Nat} (h : RenX c c' σ m m') : ∀ (v : DV) (z : Bool) (a : AV), nt v → R c m true v a → R c' m' z v (a.ren σ)
  | .int _, _, _, _, e => by simp only [R] at e ⊢; subst e; rfl
  | .bool _, _, _, _, e => by simp only [R] at e ⊢; subst e; rfl
  | .nilp, _, _, _, e => by simp only [R] at e ⊢; subst e; rfl
  | .nils, _, _, _, e => by simp only [R] at e ⊢; subst e; rfl
  | .nilf, _, _, _, e => by simp only [R] at e ⊢; subst e; rfl
  | .undef, _, _, _, e => by simp only [R] at e ⊢; subst e; rfl
  | .list tg ex s rows, _, _, hn, e => by
    simp only [nt] at hn
    obtain ⟨rfl, hn⟩ := hn
    simp only [R] at e ⊢
    obtain ⟨rcs, h1, h2, h3⟩ := e
    refine ⟨rcs.map (AV.renL σ), RRows.ren h rows rcs hn h1, fun l hl => ?_, ?_⟩
    · obtain ⟨x, hx, rfl⟩ := List.mem_map.1 hl
      rw [renL_length]; exact h2 x hx
    · have hf : (rcs.map (AV.renL σ)).flatten = AV.renL σ rcs.flatten := by
        rw [renL_map, List.map_flatten]
        congr 1
        exact List.map_congr_left (fun l _ => renL_map σ l)
      rw [hf]
      rcases h3 with ⟨e1, e2 | ⟨z, e2, e3⟩⟩ | ⟨b, o, cap, q, k1, k2, k3, k4, k5⟩
      · exact .inl ⟨e1, .inl (by rw [e2]; rfl)⟩
      · exact .inl ⟨e1, .inr ⟨z, by rw [e2]; rfl, e3⟩⟩
      · obtain ⟨k6, k7⟩ := h.rd k4 k5
        exact .inr ⟨σ b, o, cap, q, by rw [k1]; rfl, k2, k3, k6, k7⟩
  | .agg cs, z, _, hn, e => by
    simp only [nt] at hn
    simp only [R] at e ⊢
    obtain ⟨l, rfl, h2⟩ := e
    exact ⟨AV.renL σ l, rfl, RL.ren h cs z l hn h2⟩
  | .tup cs, z, _, hn, e => by
    simp only [nt] at hn
    simp only [R] at e ⊢
    obtain ⟨l, rfl, h2⟩ := e
    exact ⟨AV.renL σ l, rfl, RL.ren h cs z l hn h2⟩
  | .func f fs caps, z, _, hn, _ => by simp [nt] at hn
  | .own k, z, _, hn, _ => by simp [nt] at hn
  | .ptr k o, z, _, hn, _ => by simp [nt] at hn
  | .elp k i o, z, _, hn, _ => by simp [nt] at hn
  | .fbp tg cs o, _, _, hn, _ => by simp [nt] at hn
theorem RL.ren {c c' : Ctx} {σ : Nat → Nat} {m m' : Nat} (h : RenX c c' σ m m') : ∀ (ds : List DV) (z : Bool) (l : List AV), ntL ds → RL c m true ds l → RL c' m' z ds (AV.renL σ l)
  | [], _, _, _, e => by simp only [RL] at e ⊢; subst e; rfl
  | d :: ds, z, _, hn, e => by
    simp only [ntL] at hn
    simp only [RL] at e ⊢
    obtain ⟨a, r, rfl, h1, h2⟩ := e
    exact ⟨a.ren σ, AV.renL σ r, rfl, R.ren h d z a hn.1 h1, RL.ren h ds z r hn.2 h2⟩
theorem RRows.ren {c c' : Ctx} {σ : Nat → Nat} {m m' : Nat} (h : RenX c c' σ m m') : ∀ (ds : List DV) (l : List (List AV)), ntL ds → RRows c m ds l → RRows c' m' ds (l.map (AV.renL σ))
  | [], _, _, e => by simp only [RRows] at e ⊢; subst e; rfl
  | d :: ds, _, hn, e => by
    simp only [ntL] at hn
    simp only [RRows] at e ⊢
    obtain ⟨l, r, rfl, h2, h4, h3⟩ := e
    refine ⟨AV.renL σ l, r.map (AV.renL σ), rfl, ?_, h4, RRows.ren h ds r hn.2 h3⟩
    rcases h2 with ⟨k1, k2⟩ | ⟨k1, a, k2, k3⟩
    · exact .inl ⟨k1, R.ren h d true _ hn.1 k2⟩
    · subst k2
      exact .inr ⟨k1, a.ren σ, rfl, R.ren h d true a hn.1 k3⟩
end

/-! ### Blocks that a call hands back -/
theorem pushAll_get : ∀ (l : List AObj) (M : Mem) (i : Nat), (M.pushAll l).get i = if i < M.n then M.get i else l[i - M.n]?
  | [], M, i => by
    simp only [Mem.pushAll]
    by_cases h : i < M.n
    · rw [if_pos h]
    · rw [if_neg h]
      simp only [List.getElem?_nil]
      cases hg : M.get i with
      | none => rfl
      | some o => exact absurd (Mem.get_lt hg) h
  | o :: l, M, i => by
    simp only [Mem.pushAll]
    rw [pushAll_get l (M.push o) i, Mem.get_push]
    show (if i < M.n + 1 then _ else l[i - (M.n + 1)]?) = _
    by_cases h : i < M.n
    · rw [if_pos (by omega), if_neg (by omega), if_pos h]
    · rw [if_neg h]
      by_cases e : i = M.n
      · subst e
        rw [if_pos (by omega), if_pos rfl]; simp
      · rw [if_neg (by omega), show i - M.n = (i - (M.n + 1)) + 1 by omega]
        simp
theorem pushAll_n : ∀ (l : List AObj) (M : Mem), (M.pushAll l).n = M.n + l.length
  | [], M => by simp [Mem.pushAll]
  | o :: l, M => by
    simp only [Mem.pushAll, pushAll_n l (M.push o), List.length_cons]
    show M.n + 1 + l.length = _
    omega
def cx (E : Env) (M : Mem) (Ta B : Nat → Prop) : Ctx := ⟨E, M, fun _ => 0, [], Ta, fun _ => none, fun _ => 0, B⟩
def stab (vt : VTab) (big : Nat) : Tab := { vt.tab with big := big }
theorem cx_mut {E : Env} {M : Mem} {Ta B : Nat → Prop} {b : Nat} : ¬ Mut (cx E M Ta B) b := by
  rintro ⟨k, h, _⟩
  unfold Mutk at h
  simp [cx, nthB] at h
theorem cx_hp {E : Env} {M : Mem} {Ta B : Nat → Prop} {hm : Nat} (h1 : ∀ b, Ta b → b < E.m0) (h2 : ∀ i, B i → i < E.m0) (h3 : ∀ b cs, cellsOf E M b = some cs → cs.all AV.isCell = true) (h4 : ∀ b cs, b < E.m0 → E.ro b = some cs → B b ∧ ∀ i ∈ AV.idsL cs, B i)
    (h5 : ∀ b cs, E.m0 ≤ b → cellsOf E M b = some cs → ∀ i ∈ AV.idsL cs, Okid (cx E M Ta B) i) : Hp (cx E M Ta B) hm :=
  ⟨fun k k' h => by unfold Mutk at h; simp [cx, nthB] at h, fun k b h => by simp [cx, nthB] at h, h1, h2, h3, h4, h5⟩
def CallS (vt : VTab) (call : Nat → List DV → Option DV) : Prop := ∀ f args r, call f args = some r → ∃ n0, ∀ n, n0 ≤ n → ∀ big, n0 ≤ big → ∀ (E : Env) (Ta B : Nat → Prop) (as : List AV), E.rnd = false → Hp (cx E Mem.nil Ta B) 0 → RL (cx E Mem.nil Ta B) 0 true args as →
  ∃ a Mc, (ev (stab vt big) n).call E f as Mem.nil = some (a, Mc) ∧ Mc.n ≤ n0 ∧ R (cx E Mc Ta B) 0 true r a ∧ Hp (cx E Mc Ta B) 0
/-- The environment of a call. -/
def calE (c : Ctx) (hid : Nat → Bool) (big : Nat) : Env := { ro := roOf c.E hid c.M, m0 := c.E.m0 + c.M.n + big, rnd := false }
def calTa (c : Ctx) (b : Nat) : Prop := c.Ta b ∨ Mut c b
theorem roOf_some {E : Env} {hid : Nat → Bool} {M : Mem} {b : Nat} {cs : List AV} (h : roOf E hid M b = some cs) : hid b = false ∧ cellsOf E M b = some cs := by
  unfold roOf at h
  cases hb : hid b with
  | true => rw [hb] at h; cases h
  | false => rw [hb, cond_false] at h; exact ⟨rfl, h⟩
theorem Okid.lt {c : Ctx} {hm i : Nat} (hp : Hp c hm) (h : Okid c i) : i < c.nb := by
  rcases h with h | h
  · have := hp.bm i h
    unfold Ctx.nb; omega
  · exact h.2
theorem cal_hp {c : Ctx} {hm : Nat} (hp : Hp c hm) (hid : Nat → Bool) (big : Nat) : Hp (cx (calE c hid big) Mem.nil (calTa c) (Okid c)) 0 := by
  have hnb : c.nb ≤ (calE c hid big).m0 := by unfold Ctx.nb calE; simp only; omega
  have hro : ∀ b cs, (calE c hid big).ro b = some cs → cellsOf c.E c.M b = some cs := fun b cs h => (roOf_some h).2
  have hnil : ∀ b, (calE c hid big).m0 ≤ b → cellsOf (calE c hid big) Mem.nil b = none := fun b hb => by
    rw [cellsOf_own hb]; rw [Mem.get_nil]; rfl
  refine cx_hp (fun b h => ?_) (fun i h => ?_) (fun b cs h => ?_) (fun b cs hb h => ?_) (fun b cs hb h => ?_)
  · rcases h with h | h
    · have := hp.ta b h
      have : c.E.m0 ≤ c.nb := by unfold Ctx.nb; omega
      omega
    · have := (Mut.ge hp h).2
      have : b < c.nb := this
      omega
  · have := Okid.lt hp h; omega
  · by_cases hb : b < (calE c hid big).m0
    · rw [cellsOf_ro hb] at h; exact hp.cell b cs (hro b cs h)
    · rw [hnil b (by omega)] at h; cases h
  · have hc := hro b cs h
    refine ⟨Okid.of hp hc, fun i hi => ?_⟩
    by_cases h0 : b < c.E.m0
    · rw [cellsOf_ro h0] at hc
      exact .inl ((hp.ro b cs h0 hc).2 i hi)
    · exact hp.ids b cs (by omega) hc i hi
  · rw [hnil b hb] at h; cases h
theorem cal_ext {c : Ctx} {hm u : Nat} (hp : Hp c hm) {hid : Nat → Bool} {big : Nat} (hv : ∀ b, b < c.nb → visM c.lay u b → hid b = false) : ExtF c (cx (calE c hid big) Mem.nil (calTa c) (Okid c)) u 0 := by
  refine ⟨fun tg b cs h1 h2 => ?_⟩
  have hlt : b < c.nb := cells_lt h2
  have hh := hv b hlt h1.2.2
  refine ⟨⟨cx_mut, fun ht e => ?_, fun j hj => by cases hj⟩, ?_⟩
  · rcases e with e | e
    · exact h1.2.1 ht e
    · exact h1.1 e
  · show cellsOf (calE c hid big) Mem.nil b = _
    have : b < (calE c hid big).m0 := by unfold Ctx.nb at hlt; unfold calE; simp only; omega
    rw [cellsOf_ro this]
    show roOf c.E hid c.M b = _
    unfold roOf
    rw [hh, cond_false]; exact h2
def Ctx.back (c : Ctx) (l : List AObj) (li : Option Nat) : Ctx := { c with M := c.M.pushAll l, lay := fun b => if c.nb ≤ b ∧ b < c.nb + l.length then li else c.lay b }
theorem back_nb (c : Ctx) (l : List AObj) (li : Option Nat) : (c.back l li).nb = c.nb + l.length := by
  show c.E.m0 + (c.M.pushAll l).n = _
  rw [pushAll_n]; unfold Ctx.nb; omega
theorem back_cells {c : Ctx} {l : List AObj} {li : Option Nat} {b : Nat} (h : b < c.nb) : cellsOf (c.back l li).E (c.back l li).M b = cellsOf c.E c.M b := by
  show cellsOf c.E (c.M.pushAll l) b = _
  by_cases h0 : b < c.E.m0
  · rw [cellsOf_ro h0, cellsOf_ro h0]
  · rw [cellsOf_own (by omega), cellsOf_own (by omega), pushAll_get, if_pos (by unfold Ctx.nb at h; omega)]
theorem back_new {c : Ctx} {l : List AObj} {li : Option Nat} {b : Nat} (h : c.nb ≤ b) : cellsOf (c.back l li).E (c.back l li).M b = objCells l[b - c.nb]? := by
  show cellsOf c.E (c.M.pushAll l) b = _
  unfold Ctx.nb at h ⊢
  rw [cellsOf_own (by omega), pushAll_get, if_neg (by omega)]
  congr 2
  omega
theorem back_ext {c : Ctx} (l : List AObj) (li : Option Nat) (m : Nat) : Ext c (c.back l li) m m := by
  have hsta : ∀ tg b cs, Sta c m tg b → cellsOf c.E c.M b = some cs → Sta (c.back l li) m tg b ∧ cellsOf (c.back l li).E (c.back l li).M b = some cs := by
    intro tg b cs h1 h2
    have hlt : b < c.nb := cells_lt h2
    refine ⟨⟨h1.1, h1.2.1, fun j hj => ?_⟩, by rw [back_cells hlt]; exact h2⟩
    have : (c.back l li).lay b = c.lay b := by
      show (if _ then _ else _) = _
      rw [if_neg (by omega)]
    rw [this] at hj
    exact h1.2.2 j hj
  refine ⟨hsta, fun k a ho => ?_, fun k o a h => h, fun k i o a h => h, fun k h _ => h⟩
  obtain ⟨x, hx⟩ := ho.some
  unfold OwnR at ho ⊢
  rw [hx] at ho
  rw [show nthB (c.back l li).H k = some x from hx]
  have hv : ∀ nn s rows, OwnV c m nn s k rows a → OwnV (c.back l li) m nn s k rows a := by
    intro nn s rows hv
    rcases hv with ⟨k1, e | ⟨k2, e | ⟨b, o, k3, k4, k5⟩⟩⟩ | hv
    · exact .inl ⟨k1, .inl e⟩
    · exact .inl ⟨k1, .inr ⟨k2, .inl e⟩⟩
    · obtain ⟨k6, k7⟩ := (ExtF.mk hsta).rd k4 k5
      exact .inl ⟨k1, .inr ⟨k2, .inr ⟨b, o, k3, k6, k7⟩⟩⟩
    · exact .inr hv
  cases x <;> first | exact hv _ _ _ ho | exact ho
theorem back_hp {c : Ctx} {hm : Nat} (hp : Hp c hm) {l : List AObj} {li : Option Nat} (h1 : ∀ (i : Nat) (cs : List AV), l[i]? = some (AObj.cells cs) → cs.all AV.isCell = true) (h2 : ∀ (i : Nat) (cs : List AV), l[i]? = some (AObj.cells cs) → ∀ j ∈ AV.idsL cs, Okid (c.back l li) j) : Hp (c.back l li) hm := by
  have hup : ∀ i, Okid c i → Okid (c.back l li) i := fun i hi => hi.imp id (fun e => ⟨e.1, by rw [back_nb]; omega⟩)
  refine ⟨hp.inj, fun k B hB => ?_, hp.ta, hp.bm, fun b cs hb => ?_, hp.ro, fun b cs h0 hb i hi => ?_⟩
  · refine (hp.hr k B hB).keep (back_ext l li) (Sub.refl hm) rfl rfl (fun _ x hx => ?_)
    have hlt : c.ρ k < c.nb := hx.lt
    refine hx.keep rfl rfl rfl ?_ ?_
    · show (c.M.pushAll l).get _ = _
      rw [pushAll_get, if_pos (Mem.get_lt hx.get)]; exact hx.get
    · show (if _ then _ else _) = _
      rw [if_neg (by omega)]
  · by_cases hlt : b < c.nb
    · rw [back_cells hlt] at hb; exact hp.cell b cs hb
    · rw [back_new (by omega)] at hb; exact h1 _ cs (objCells_some' hb)
  · by_cases hlt : b < c.nb
    · rw [back_cells hlt] at hb; exact hup i (hp.ids b cs h0 hb i hi)
    · rw [back_new (by omega)] at hb; exact h2 _ cs (objCells_some' hb) i hi
mutual
theorem ren_fix {σ : Nat → Nat} : ∀ (a : AV), (∀ i ∈ a.ids, σ i = i) → a.ren σ = a
  | .int .., _ | .bool .., _ | .str .., _ | .nilp, _ | .nils, _ | .emp _, _ | .nilf, _ | .undef, _ => rfl
  | .ptr b o, h => by simp only [AV.ren, h b (by simp [AV.ids])]
  | .slice b o n c q, h => by simp only [AV.ren, h b (by simp [AV.ids])]
  | .yld l, h => by simp only [AV.ren, h l (by simp [AV.ids])]
  | .func f fs caps, h => by
    simp only [AV.ren, renL_fix fs (fun i hi => h i (by simp [AV.ids, hi])), renL_fix caps (fun i hi => h i (by simp [AV.ids, hi]))]
  | .agg cs, h => by simp only [AV.ren, renL_fix cs (fun i hi => h i (by simpa [AV.ids] using hi))]
  | .tup cs, h => by simp only [AV.ren, renL_fix cs (fun i hi => h i (by simpa [AV.ids] using hi))]
theorem renL_fix {σ : Nat → Nat} : ∀ (l : List AV), (∀ i ∈ AV.idsL l, σ i = i) → AV.renL σ l = l
  | [], _ => rfl
  | a :: l, h => by
    simp only [AV.renL, ren_fix a (fun i hi => h i (by simp [AV.idsL, hi])), renL_fix l (fun i hi => h i (by simp [AV.idsL, hi]))]
end
mutual
theorem ids_ren {σ : Nat → Nat} : ∀ (a : AV) (i : Nat), i ∈ (a.ren σ).ids → ∃ j ∈ a.ids, i = σ j
  | .int .., i, h | .bool .., i, h | .str .., i, h | .nilp, i, h | .nils, i, h | .emp _, i, h | .nilf, i, h | .undef, i, h => by simp [AV.ren, AV.ids] at h
  | .ptr b o, i, h => by simp only [AV.ren, AV.ids, List.mem_singleton] at h ⊢; exact ⟨b, rfl, h⟩
  | .slice b o n c q, i, h => by simp only [AV.ren, AV.ids, List.mem_singleton] at h ⊢; exact ⟨b, rfl, h⟩
  | .yld l, i, h => by simp only [AV.ren, AV.ids, List.mem_singleton] at h ⊢; exact ⟨l, rfl, h⟩
  | .func f fs caps, i, h => by
    simp only [AV.ren, AV.ids, List.mem_append] at h ⊢
    rcases h with h | h
    · obtain ⟨j, h1, h2⟩ := idsL_ren fs i h; exact ⟨j, .inl h1, h2⟩
    · obtain ⟨j, h1, h2⟩ := idsL_ren caps i h; exact ⟨j, .inr h1, h2⟩
  | .agg cs, i, h => by simp only [AV.ren, AV.ids] at h ⊢; exact idsL_ren cs i h
  | .tup cs, i, h => by simp only [AV.ren, AV.ids] at h ⊢; exact idsL_ren cs i h
theorem idsL_ren {σ : Nat → Nat} : ∀ (l : List AV) (i : Nat), i ∈ AV.idsL (AV.renL σ l) → ∃ j ∈ AV.idsL l, i = σ j
  | [], i, h => by simp [AV.renL, AV.idsL] at h
  | a :: l, i, h => by
    simp only [AV.renL, AV.idsL, List.mem_append] at h ⊢
    rcases h with h | h
    · obtain ⟨j, h1, h2⟩ := ids_ren a i h; exact ⟨j, .inl h1, h2⟩
    · obtain ⟨j, h1, h2⟩ := idsL_ren l i h; exact ⟨j, .inr h1, h2⟩
end
theorem keepAll_len (σ : Nat → Nat) (M : Mem) : (keepAll σ M).length = M.n := by simp [keepAll]
theorem keepAll_get (σ : Nat → Nat) (M : Mem) (i : Nat) : (keepAll σ M)[i]? = if i < M.n then some (keepObj σ (M.get i)) else none := by
  simp only [keepAll, List.getElem?_map]
  by_cases h : i < M.n
  · rw [if_pos h, List.getElem?_range h]; rfl
  · rw [if_neg h, List.getElem?_eq_none (by simp; omega)]; rfl
theorem keepObj_cells {σ : Nat → Nat} {o : Option AObj} {cs : List AV} (h : keepObj σ o = .cells cs) : ∃ cs0, o = some (.cells cs0) ∧ cs = AV.renL σ cs0 := by
  unfold keepObj at h
  split at h
  · cases h; exact ⟨_, rfl, rfl⟩
  · cases h
/-- The way back from a call. -/
theorem back_ok {c : Ctx} {hm mm : Nat} {li : Option Nat} {hid : Nat → Bool} {big : Nat} {Mc : Mem} {r : DV} {a : AV} (hp : Hp c hm) (hq : Hp (cx (calE c hid big) Mc (calTa c) (Okid c)) 0) (hr : R (cx (calE c hid big) Mc (calTa c) (Okid c)) 0 true r a) (hn : nt r) (hv : ∀ b, b < c.nb → hid b = false → visM c.lay mm b) :
    Post c (c.back (keepAll (shiftNo c.nb (calE c hid big).m0) Mc) li) Mc.n li (mm ||| lm li) hm r (a.ren (shiftNo c.nb (calE c hid big).m0)) c.H := by
  generalize hσ : shiftNo c.nb (calE c hid big).m0 = σ
  have hm1 : c.nb ≤ (calE c hid big).m0 := by unfold Ctx.nb calE; simp only; omega
  have hlow : ∀ i, i < (calE c hid big).m0 → σ i = i := fun i hi => by rw [← hσ]; exact shiftNo_lt hi
  have hhigh : ∀ i, (calE c hid big).m0 ≤ i → σ i = c.nb + (i - (calE c hid big).m0) := fun i hi => by rw [← hσ]; exact shiftNo_ge hi
  have hlen := keepAll_len σ Mc
  have hnb : (c.back (keepAll σ Mc) li).nb = c.nb + Mc.n := by rw [back_nb, hlen]
  have hget : ∀ (i : Nat) (cs : List AV), (keepAll σ Mc)[i]? = some (AObj.cells cs) → ∃ cs0, cellsOf (calE c hid big) Mc ((calE c hid big).m0 + i) = some cs0 ∧ cs = AV.renL σ cs0 := by
    intro i cs h
    rw [keepAll_get] at h
    by_cases hi : i < Mc.n
    · rw [if_pos hi, Option.some.injEq] at h
      obtain ⟨cs0, h1, h2⟩ := keepObj_cells h
      refine ⟨cs0, ?_, h2⟩
      rw [cellsOf_own (by omega), show (calE c hid big).m0 + i - (calE c hid big).m0 = i by omega, h1]; rfl
    · rw [if_neg hi] at h; cases h
  have hcx : (cx (calE c hid big) Mc (calTa c) (Okid c)).nb = (calE c hid big).m0 + Mc.n := rfl
  have hok : ∀ j, Okid (cx (calE c hid big) Mc (calTa c) (Okid c)) j → Okid (c.back (keepAll σ Mc) li) (σ j) := by
    intro j hj
    rcases hj with hj | ⟨h1, h2⟩
    · have hj' : Okid c j := hj
      have hlt := Okid.lt hp hj'
      rw [hlow j (by omega)]
      exact hj'.imp id (fun e => ⟨e.1, by rw [hnb]; omega⟩)
    · have h1' : (calE c hid big).m0 ≤ j := h1
      rw [hcx] at h2
      rw [hhigh j h1']
      right
      refine ⟨?_, by rw [hnb]; omega⟩
      show c.E.m0 ≤ _
      unfold Ctx.nb; omega
  have hhp : Hp (c.back (keepAll σ Mc) li) hm := by
    refine back_hp hp (fun i cs h => ?_) (fun i cs h j hj => ?_)
    · obtain ⟨cs0, h1, h2⟩ := hget i cs h
      have := hq.cell _ cs0 h1
      rw [h2, renL_map, List.all_map]
      rw [List.all_eq_true] at this ⊢
      intro x hx
      simp only [Function.comp]
      rw [isCell_ren]; exact this x hx
    · obtain ⟨cs0, h1, h2⟩ := hget i cs h
      rw [h2] at hj
      obtain ⟨j0, h3, h4⟩ := idsL_ren _ _ hj
      rw [h4]
      exact hok j0 (hq.ids _ cs0 (by show (calE c hid big).m0 ≤ _; omega) h1 j0 h3)
  have hX : RenX (cx (calE c hid big) Mc (calTa c) (Okid c)) (c.back (keepAll σ Mc) li) σ 0 (mm ||| lm li) := by
    refine ⟨fun b cs h1 h2 => ?_⟩
    have h2' : cellsOf (calE c hid big) Mc b = some cs := h2
    by_cases hb : b < (calE c hid big).m0
    · rw [cellsOf_ro hb] at h2'
      have h3 := (roOf_some h2').2
      have hlt : b < c.nb := cells_lt h3
      rw [hlow b hb]
      have hids : ∀ i ∈ AV.idsL cs, σ i = i := fun i hi => hlow i (by
        have := Okid.lt hp ((hq.ro b cs hb h2').2 i hi)
        omega)
      refine ⟨⟨fun e => ?_, fun _ e => ?_, fun j hj => ?_⟩, ?_⟩
      · exact h1.2.1 rfl (.inr e)
      · exact h1.2.1 rfl (.inl e)
      · have hl : (c.back (keepAll σ Mc) li).lay b = c.lay b := by
          show (if _ then _ else _) = _
          rw [if_neg (by omega)]
        rw [hl] at hj
        exact Sub.orl mm (lm li) j (hv b hlt (roOf_some h2').1 j hj)
      · rw [back_cells hlt, h3, renL_fix cs hids]
    · have hlt : b < (calE c hid big).m0 + Mc.n := cells_lt h2'
      rw [hhigh b (by omega)]
      refine ⟨⟨fun ⟨k, m1, m2⟩ => ?_, fun _ e => ?_, fun j hj => ?_⟩, ?_⟩
      · have := (Mut.ge hp ⟨k, m1, rfl⟩).2
        have m2' : c.ρ k = _ := m2
        unfold Ctx.nb at m2'
        omega
      · have := hp.ta _ e
        unfold Ctx.nb at this
        omega
      · have hl : (c.back (keepAll σ Mc) li).lay (c.nb + (b - (calE c hid big).m0)) = li := by
          show (if _ then _ else _) = _
          rw [if_pos (by rw [hlen]; omega)]
        rw [hl] at hj
        exact lm_bit hj
      · rw [back_new (by omega), show c.nb + (b - (calE c hid big).m0) - c.nb = b - (calE c hid big).m0 by omega, keepAll_get, if_pos (by omega)]
        rw [cellsOf_own (by omega)] at h2'
        rw [objCells_some' h2']
        rfl
  refine ⟨rfl, rfl, rfl, rfl, fun m => back_ext _ li m, hhp, R.ren hX r false a hn hr, ?_, ?_, fun b hb => ?_, fun b h1 h2 => ?_⟩
  · show c.M.n ≤ (c.M.pushAll _).n
    rw [pushAll_n]; omega
  · show (c.M.pushAll _).n ≤ _
    rw [pushAll_n, hlen]; omega
  · show (if _ then _ else _) = _
    rw [hnb] at hb
    rw [if_neg (by rw [hlen]; omega)]
  · show (if _ then _ else _) = _
    rw [hnb] at h2
    rw [if_pos (by rw [hlen]; omega)]

/-! ### Arguments and answers -/
theorem ownsL_append (l r : List DV) : ownsL (l ++ r) = ownsL l ++ ownsL r := by
  induction l with
  | nil => rfl
  | cons a l ih => simp only [List.cons_append, ownsL, ih, List.append_assoc]
theorem nrmArgs_ok {c d : Ctx} {hm u u' : Nat} {tg : Bool} {ids : List Nat} (hp : Hp c hm) (hh : Hand c d u u' tg ids) : ∀ {rs : List (Option RS)} {vs ws : List DV} {l : List AV}, (∀ k ∈ ownsL vs, k ∈ ids) → (ownsL vs ≠ [] → Sub hm u) → nrmArgs tg c.H rs vs = some ws → RL c u false vs l → RL d u' true ws l
  | rs, [], ws, l, _, _, h, hr => by
    have : ws = [] := by cases rs with
      | nil => simpa [nrmArgs] using h.symm
      | cons r rs => cases r <;> simpa [nrmArgs] using h.symm
    subst this
    simpa only [RL] using hr
  | rs, v :: vs, ws, l, hi, hu, h, hr => by
    rw [RL] at hr
    obtain ⟨a, as, rfl, k1, k2⟩ := hr
    have hi1 : ∀ k ∈ owns v, k ∈ ids := fun k hk => hi k (by simp [ownsL, hk])
    have hi2 : ∀ k ∈ ownsL vs, k ∈ ids := fun k hk => hi k (by simp [ownsL, hk])
    have hu1 : owns v ≠ [] → Sub hm u := fun hne => hu (fun e => hne (by simp only [ownsL, List.append_eq_nil_iff] at e; exact e.1))
    have hu2 : ownsL vs ≠ [] → Sub hm u := fun hne => hu (fun e => hne (by simp only [ownsL, List.append_eq_nil_iff] at e; exact e.2))
    have fin : ∀ (x : Option DV) (rs' : List (Option RS)), (∀ w, x = some w → R d u' true w a) → consD x (nrmArgs tg c.H rs' vs) = some ws → RL d u' true ws (a :: as) := by
      intro x rs' hx hc
      cases x with
      | none => simp [consD] at hc
      | some w =>
        cases h2 : nrmArgs tg c.H rs' vs with
        | none => rw [h2] at hc; simp [consD] at hc
        | some r =>
          rw [h2] at hc
          simp only [consD, Option.some.injEq] at hc
          subst hc
          rw [RL]
          exact ⟨a, as, rfl, hx w rfl, nrmArgs_ok hp hh hi2 hu2 h2 k2⟩
    cases rs with
    | nil =>
      simp only [nrmArgs] at h
      exact fin _ _ (fun w hw => fz_ok hp 4 ids hh v w a hi1 hu1 hw k1) h
    | cons r rs =>
      cases r with
      | none =>
        simp only [nrmArgs] at h
        exact fin _ _ (fun w hw => fz_ok hp 4 ids hh v w a hi1 hu1 hw k1) h
      | some r =>
        simp only [nrmArgs] at h
        exact fin _ _ (fun w hw => (nrmV_ok hp hh hi1 hu1 hw k1).1) h
theorem prjV_eq {r : RS} {d : DV} (hone : r.ag = false → ∃ x, r.css = [x]) (h : isRow r d = true) : prjV r d = d := by
  unfold prjV
  rw [rowCs_eq h]
  unfold isRow at h
  simp only [Bool.and_eq_true, beq_iff_eq] at h
  unfold mkRow
  cases hag : r.ag with
  | true =>
    rw [hag] at h
    rw [cond_true]
    cases d <;> first | rfl | (simp [DV.isAgg] at h)
  | false =>
    rw [hag] at h
    rw [cond_false]
    cases d <;> first | rfl | (simp [DV.isAgg] at h)
theorem isRow_nt {c : Ctx} {u : Nat} {r : RS} {d : DV} {a : AV} (h : isRow r d = true) (hr : R c u true d a) : nt d := by
  unfold isRow at h
  simp only [Bool.and_eq_true, beq_iff_eq] at h
  have := isCs_nt h.2 hr.cells
  cases hd : d.isAgg with
  | true => cases d <;> simp [DV.isAgg] at hd; simpa only [nt, DV.cells] using this
  | false =>
    have e : d.cells = [d] := by cases d <;> simp [DV.isAgg] at hd <;> rfl
    rw [e] at this
    simp only [ntL] at this
    exact this.1
def rsOk (rs : List RS) : Prop := ∀ r ∈ rs, r.ag = false → ∃ x, r.css = [x]
theorem allO_mem {l : List (Option RS)} : ∀ {rs : List RS}, allO l = some rs → ∀ r ∈ rs, some r ∈ l := by
  induction l with
  | nil => intro rs h; simp only [allO, Option.some.injEq] at h; subst h; simp
  | cons o l ih =>
    intro rs h
    cases o with
    | none => simp [allO] at h
    | some r =>
      simp only [allO] at h
      cases hl : allO l with
      | none => rw [hl] at h; cases h
      | some q =>
        rw [hl] at h
        cases h
        intro x hx
        rcases List.mem_cons.1 hx with rfl | hx
        · simp
        · exact List.mem_cons_of_mem _ (ih hl x hx)
theorem rsL_mem {ty : Nat → Option TyI} : ∀ {ts : List TypeId} {r : RS}, some r ∈ rsL ty ts → ∃ t, rsOf ty t = some r
  | [], r, h => by simp [rsL] at h
  | t :: ts, r, h => by
    simp only [rsL, List.mem_cons] at h
    rcases h with h | h
    · exact ⟨t, h.symm⟩
    · exact rsL_mem h
theorem rsOk_of {ty : Nat → Option TyI} {ts : List TypeId} {rs : List RS} (h : allO (rsL ty ts) = some rs) : rsOk rs := fun r hr => by
  obtain ⟨t, ht⟩ := rsL_mem (allO_mem h r hr)
  exact (rsOf_one ht).2
theorem isRess_ok {c : Ctx} {u : Nat} : ∀ {rs : List RS} {vs : List DV} {l : List AV}, rsOk rs → isRess rs vs = true → RL c u true vs l → ntL vs
  | [], [], _, _, _, _ => by simp [ntL]
  | r :: rs, v :: vs, l, hk, h, hr => by
    simp only [isRess, Bool.and_eq_true] at h
    rw [RL] at hr
    obtain ⟨a, as, rfl, k1, k2⟩ := hr
    simp only [ntL]
    exact ⟨isRow_nt h.1 k1, isRess_ok (fun x hx => hk x (by simp [hx])) h.2 k2⟩
  | [], _ :: _, _, _, h, _ => by simp [isRess] at h
  | _ :: _, [], _, _, h, _ => by simp [isRess] at h
theorem prjRs_eq : ∀ {rs : List RS} (pre vs : List DV), rsOk rs → isRess rs vs = true → prjRs rs pre.length (.tup (pre ++ vs)) = vs
  | [], pre, vs, _, h => by cases vs <;> simp [isRess] at h; rfl
  | r :: rs, pre, vs, hk, h => by
    cases vs with
    | nil => simp [isRess] at h
    | cons v vs =>
      simp only [isRess, Bool.and_eq_true] at h
      simp only [prjRs, tupL]
      have e : (pre ++ v :: vs).getD pre.length .undef = v := by simp
      rw [e, prjV_eq (hk r (by simp)) h.1]
      congr 1
      have := prjRs_eq (pre ++ [v]) vs (fun x hx => hk x (by simp [hx])) h.2
      rw [List.length_append] at this
      simpa using this
theorem isRes_ok {c : Ctx} {u : Nat} {rs : List RS} {d : DV} {a : AV} (hk : rsOk rs) (h : isRes rs d = true) (hr : R c u true d a) : nt d ∧ prjRes rs d = d := by
  have multi : (isTup d && isRess rs (tupL d)) = true → nt d ∧ DV.tup (prjRs rs 0 d) = d := by
    intro h
    simp only [Bool.and_eq_true] at h
    cases d <;> simp only [isTup] at h <;> first | (exact absurd h.1 (by decide)) | skip
    rename_i vs _
    simp only [R] at hr
    obtain ⟨l, rfl, hr⟩ := hr
    simp only [tupL] at h
    refine ⟨by simp only [nt]; exact isRess_ok hk h.2 hr, ?_⟩
    congr 1
    exact prjRs_eq [] vs hk h.2
  unfold isRes at h
  unfold prjRes
  split at h
  · rename_i r
    exact ⟨isRow_nt h hr, prjV_eq (hk r (by simp)) h⟩
  · rename_i hne
    have := multi h
    exact ⟨this.1, this.2⟩
def M1 : Mem := Mem.nil.push (.cells [])
/-- What S answers for a function that copies a slice of elements of one cell. -/
structure CloneFn (vt : VTab) (f : Nat) : Prop where
  nils : ∀ big ih E, Go.Sx.callF (stab vt big) ih E f [.nils] Mem.nil = some (.nils, Mem.nil)
  emp : ∀ big ih E z, Go.Sx.callF (stab vt big) ih E f [.emp z] Mem.nil = some (.slice (E.m0 + 0) 0 0 0 0, M1)
  sl : ∀ big ih E b o n c q, ∃ i : TyI, i.size = 1 ∧ appOk i = true ∧ ∀ v M', append2 E M1 i (.slice (E.m0 + 0) 0 0 0 0) (srcOf E M1 (.slice b o n c q) i) = some (v, M') → Go.Sx.callF (stab vt big) ih E f [.slice b o n c q] Mem.nil = some (v, M')
/-- What is asked of a table. -/
structure VOK (vt : VTab) : Prop where
  keep : vt.tab.keep = true
  cl : ∀ g, vt.kn g = true → CloneFn vt g
theorem nrows_ok {c : Ctx} {hm u : Nat} {x : DV} {a : AV} {s : Nat} {rows : List DV} (hp : Hp c hm) (hu : owns x ≠ [] → Sub hm u) (h : nrows c.H x = some (s, rows)) (hs1 : s = 1) (hr : R c u false x a) :
    ∃ rcs, RRows c u rows rcs ∧ (∀ l ∈ rcs, l.length = 1) ∧ ((rows = [] ∧ (a = .nils ∨ ∃ z, a = .emp z)) ∨ ∃ b o cap q, a = .slice b o rows.length cap q ∧ b < c.nb ∧ visM c.lay u b ∧ ∃ cs, cellsOf c.E c.M b = some cs ∧ rdIn o rows.length (some cs) = some rcs.flatten) := by
  subst hs1
  unfold nrows at h
  split at h
  · cases h
    simp only [R] at hr
    subst hr
    exact ⟨[], by simp [RRows], by simp, .inl ⟨rfl, .inl rfl⟩⟩
  · unfold rowsV at h
    split at h
    · cases h
      simp only [R] at hr
      obtain ⟨rcs, h1, h2, h3⟩ := hr
      refine ⟨rcs, h1, h2, ?_⟩
      rcases h3 with ⟨e1, e2 | ⟨z, e2, _⟩⟩ | ⟨b, o, cap, q, e2, _, _, hS, hrd⟩
      · exact .inl ⟨List.eq_nil_of_length_eq_zero e1, .inl e2⟩
      · exact .inl ⟨List.eq_nil_of_length_eq_zero e1, .inr ⟨z, e2⟩⟩
      · obtain ⟨cs, g1, g2⟩ := rd_cells hrd
        rw [Nat.mul_one] at g2
        exact .inr ⟨b, o, cap, q, e2, cells_lt g1, hS.2.2, cs, g1, g2⟩
    · rename_i k
      rw [R] at hr
      obtain ⟨_, hck, ho⟩ := hr
      obtain ⟨nn, o1, o2⟩ := own_rows hp h ho
      obtain ⟨rcs, h1, h2, h3⟩ := o2
      refine ⟨rcs, h1.sub (ck_or hck (hu (by simp [owns]))), h2, ?_⟩
      rcases o1 with ⟨k1, e | ⟨_, e | ⟨b', o, e, hS, e3⟩⟩⟩ | ⟨k1, q, _, e⟩
      · exact .inl ⟨k1, .inl e⟩
      · exact .inl ⟨k1, .inr ⟨true, e⟩⟩
      · obtain ⟨cs, g1, g2⟩ := rd_cells e3
        subst k1
        simp only [RRows] at h1
        subst h1
        exact .inr ⟨b', o, 0, 0, e, cells_lt g1, hS.2.2, cs, g1, g2⟩
      · have hB := h3 k1
        refine .inr ⟨_, 0, _, q, e, hB.lt, hB.vis.mono hck, _, hB.cells, ?_⟩
        have := flat_length h2
        rw [h1.length, Nat.mul_one] at this
        simp only [rdIn]
        rw [Nat.ble_eq_true_of_le (by omega), cond_true, List.drop_zero, ← this, List.take_length]
    · cases h
theorem get_M1 {i : Nat} : M1.get i = if i = 0 then some (.cells []) else none := by
  unfold M1
  rw [Mem.get_push]
  by_cases h : i = 0
  · subst h; rfl
  · rw [if_neg h, if_neg (by exact h), Mem.get_nil]
theorem ids_sub {cs l : List AV} {o n : Nat} (h : rdIn o n (some cs) = some l) : ∀ i ∈ AV.idsL l, i ∈ AV.idsL cs := by
  simp only [rdIn] at h
  cases hb : Nat.ble (o + n) cs.length with
  | true =>
    rw [hb] at h; cases h
    intro i hi
    rw [idsL_mem] at hi ⊢
    obtain ⟨a, h1, h2⟩ := hi
    exact ⟨a, List.mem_of_mem_drop (List.mem_of_mem_take h1), h2⟩
  | false => rw [hb] at h; cases h
/-- A copy of a slice. -/
theorem cloneK_ok {vt : VTab} (hv : VOK vt) {g : Nat} (hg : vt.kn g = true) (hsh : vt.tab.shares g = false) {H : VH} {k : K} {l : List DV} {r : DV} (h : cloneK H k l = some r) :
    ∃ H', k (.own H.length) H' = some r ∧ ∀ n, 2 ≤ n → ∀ big, ∀ (c : Ctx) (hm u mm : Nat) (li : Option Nat) (hid : Nat → Bool) (as : List AV), c.H = H → Hp c hm → (ownsL l ≠ [] → Sub hm u) → RL c u false l as →
      (∀ b, b < c.nb → visM c.lay u b → hid b = false) → (∀ b, b < c.nb → hid b = false → visM c.lay mm b) →
      ∃ a' c', pcall (stab vt big) (ev (stab vt big) n) c.E hid g as c.M = some (a', c'.M) ∧ Post c c' 2 li (mm ||| lm li) hm (.own H.length) a' H' := by
  unfold cloneK at h
  split at h
  · rename_i x
    unfold cloneR at h
    split at h
    · rename_i s rows hrow
      cases hb : (Nat.beq s 1 && decide (rows.length ≤ 1048576)) with
      | false => rw [hb] at h; cases h
      | true =>
        rw [hb, cond_true] at h
        simp only [Bool.and_eq_true, decide_eq_true_eq] at hb
        have hs1 := beqT hb.1
        refine ⟨_, h, fun n hn big c hm u mm li hid as hH hp hu ha hv1 hv2 => ?_⟩
        subst hH
        obtain ⟨n', rfl⟩ : ∃ n', n = n' + 1 := ⟨n - 1, by omega⟩
        simp only [RL] at ha
        obtain ⟨a, q', rfl, ha, rfl⟩ := ha
        obtain ⟨rcs, r1, r2, r3⟩ := nrows_ok hp (fun hne => hu (by simpa [ownsL] using hne)) hrow hs1 ha
        have hcf := hv.cl g hg
        -- the call in S
        have hpc : ∀ v Mc, Go.Sx.callF (stab vt big) (ev (stab vt big) n') (calE c hid big) g [a] Mem.nil = some (v, Mc) → pcall (stab vt big) (ev (stab vt big) (n' + 1)) c.E hid g [a] c.M = some (v.ren (shiftNo c.nb (calE c hid big).m0), c.M.pushAll (keepAll (shiftNo c.nb (calE c hid big).m0) Mc)) := fun v Mc hcall => by
          simp only [pcall, pcallAt]
          have ek : (stab vt big).keep = true := hv.keep
          show addTo c.M (compactR _ (c.E.m0 + c.M.n) (c.E.m0 + c.M.n + (stab vt big).big) (Go.Sx.callF (stab vt big) (ev (stab vt big) n') (calE c hid big) g [a] Mem.nil)) = _
          rw [hcall, ek]
          rfl
        have hnb : (calE c hid big).m0 = c.nb + big := rfl
        have hsh0 : ∀ j, shiftNo c.nb (calE c hid big).m0 ((calE c hid big).m0 + j) = c.nb + j := fun j => by rw [shiftNo_ge (Nat.le_add_right _ _)]; omega
        have hk1 : keepAll (shiftNo c.nb (calE c hid big).m0) M1 = [.cells []] := by
          simp only [keepAll]
          show ([0].map _) = _
          simp only [List.map, get_M1, if_true, keepObj, AV.renL]
        -- nothing but an empty block
        have hnomut : ¬ Mut (c.back [.cells []] li) c.nb := by
          rintro ⟨k, h1, h2⟩
          have h1' : Mutk c.H k := h1
          unfold Mutk at h1'
          have hlt : c.ρ k < c.nb := by
            split at h1'
            · rename_i e; obtain ⟨_, _, hB⟩ := hp.hr k _ e; exact hB.lt
            · rename_i e; obtain ⟨_, _, _, hB⟩ := hp.hr k _ e; exact (hB h1').lt
            · exact h1'.elim
          have h2' : c.ρ k = c.nb := h2
          omega
        have hsta0 : Sta (c.back [.cells []] li) (mm ||| lm li) false c.nb := by
          refine ⟨hnomut, fun _ ht => ?_, fun j hj => ?_⟩
          · have := hp.ta _ ht
            unfold Ctx.nb at this; omega
          · have : (c.back [.cells []] li).lay c.nb = li := by
              show (if _ then _ else _) = _
              rw [if_pos ⟨Nat.le_refl _, by simp⟩]
            rw [this] at hj
            exact lm_bit hj
        have hrd0 : rd (c.back [.cells []] li).E (c.back [.cells []] li).M c.nb 0 0 = some [] := by
          unfold rd
          rw [back_new (Nat.le_refl _), Nat.sub_self]; rfl
        have hbk : ∀ m, Ext c (c.back [.cells []] li) m m := fun m => back_ext _ li m
        have hbh : Hp (c.back [.cells []] li) hm := back_hp hp (fun i cs hi => by
            cases i with
            | zero => simp at hi; subst hi; rfl
            | succ i => simp at hi) (fun i cs hi j hj => by
            cases i with
            | zero => simp at hi; subst hi; simp [AV.idsL] at hj
            | succ i => simp at hi)
        have hbn : (c.back [.cells []] li).nb = c.nb + 1 := by rw [back_nb]; rfl
        have hbM : (c.back [.cells []] li).M.n = c.M.n + 1 := by
          show (c.M.pushAll [.cells []]).n = _
          rw [pushAll_n]; rfl
        have join : ∀ {c2 : Ctx} {rm : Nat} {v : DV} {a' : AV} {H' : VH} {K : Nat}, Post (c.back [.cells []] li) c2 K li rm hm v a' H' → K ≤ 1 → Post c c2 2 li rm hm v a' H' := fun {c2 rm v a' H' K} P hK => by
          refine ⟨P.E, P.Ta, P.Bq, P.H, Ext.trans hbk P.ext (fun j x hx => ⟨x, hx⟩), P.hp, P.r, ?_, ?_, fun b hb => ?_, fun b h1 h2 => ?_⟩
          · have := P.n1; omega
          · have := P.n2; omega
          · have hn2 : c.nb + 1 ≤ c2.nb := by
              have e1 : c2.nb = c2.E.m0 + c2.M.n := rfl
              have e2 : c2.E = c.E := P.E
              have := P.n1
              rw [e1, e2]; unfold Ctx.nb; omega
            rcases hb with hb | hb
            · rw [P.lay1 b (.inl (by omega))]
              show (if _ then _ else _) = _
              rw [if_neg (by omega)]
            · rw [P.lay1 b (.inr hb)]
              show (if c.nb ≤ b ∧ b < c.nb + 1 then _ else _) = _
              rw [if_neg (by omega)]
          · by_cases hb : b < c.nb + 1
            · have hn2 : c.nb + 1 ≤ c2.nb := by
                have e1 : c2.nb = c2.E.m0 + c2.M.n := rfl
                have e2 : c2.E = c.E := P.E
                have := P.n1
                rw [e1, e2]; unfold Ctx.nb; omega
              rw [P.lay1 b (.inl (by omega))]
              show (if c.nb ≤ b ∧ b < c.nb + 1 then _ else _) = _
              rw [if_pos ⟨h1, hb⟩]
            · exact P.lay2 b (by omega) h2
        have empty : rows = [] → Go.Sx.callF (stab vt big) (ev (stab vt big) n') (calE c hid big) g [a] Mem.nil = some (.slice ((calE c hid big).m0 + 0) 0 0 0 0, M1) →
            ∃ a' c', pcall (stab vt big) (ev (stab vt big) (n' + 1)) c.E hid g [a] c.M = some (a', c'.M) ∧ Post c c' 2 li (mm ||| lm li) hm (.own c.H.length) a' (pushB c.H (.row false 1 rows)) := fun he hcall => by
          subst he
          have hP := virt_post (c := c.back [.cells []] li) (li := li) (u := mm ||| lm li) (nn := false) (s := 1) (a := .slice c.nb 0 0 0 0) hbh (.inr ⟨rfl, .inr ⟨c.nb, 0, rfl, hsta0, hrd0⟩⟩)
          refine ⟨_, _, ?_, join hP (Nat.le_refl _)⟩
          rw [hpc _ _ hcall, hk1]
          simp only [AV.ren, hsh0]
          rfl
        rcases r3 with ⟨he, e | ⟨z, e⟩⟩ | ⟨b, o, cap, q, e, hbl, hvis, cs, g1, g2⟩
        · subst e
          subst he
          have hP := virt_post (c := c) (li := li) (u := mm ||| lm li) (nn := false) (s := 1) (a := .nils) hp (.inl rfl)
          refine ⟨_, _, ?_, hP.up (by omega)⟩
          rw [hpc _ _ (hcf.nils big _ _)]
          rfl
        · subst e
          exact empty he (hcf.emp big _ _ z)
        · subst e
          have hhid := hv1 b hbl hvis
          obtain ⟨i, i1, i2, i3⟩ := hcf.sl big (ev (stab vt big) n') (calE c hid big) b o rows.length cap q
          have hcs : cellsOf (calE c hid big) M1 b = some cs := by
            rw [cellsOf_ro (by rw [hnb]; omega)]
            show roOf c.E hid c.M b = _
            unfold roOf
            rw [hhid]; exact g1
          have hrd1 : rd (calE c hid big) M1 b o (rows.length * i.size) = some rcs.flatten := by
            unfold rd; rw [hcs, i1, Nat.mul_one]; exact g2
          have hsrc : srcOf (calE c hid big) M1 (.slice b o rows.length cap q) i = some (rows.length, rcs.flatten) := by
            simp only [srcOf, hrd1]
          by_cases h0 : rows.length = 0
          · refine empty (List.eq_nil_of_length_eq_zero h0) (i3 _ _ ?_)
            rw [hsrc, h0]
            exact append2_zero rfl
          · have hall : rcs.flatten.all AV.isCell = true := by
              have := hp.cell b cs g1
              simp only [rdIn] at g2
              cases hb : Nat.ble (o + rows.length) cs.length with
              | true =>
                rw [hb, cond_true, Option.some.injEq] at g2
                rw [← g2]
                rw [List.all_eq_true] at this ⊢
                exact fun x hx => this x (List.mem_of_mem_drop (List.mem_of_mem_take hx))
              | false => rw [hb] at g2; cases g2
            have hown : rd (calE c hid big) M1 ((calE c hid big).m0 + 0) 0 0 = some [] := by
              unfold rd cellsOf
              rw [bltOfN (Nat.le_add_right _ _), cond_false, Nat.add_sub_cancel_left, get_M1]
              rfl
            have hcall := i3 (.slice ((calE c hid big).m0 + 1) 0 rows.length rows.length 1) (M1.push (.cells rcs.flatten)) (by
              rw [hsrc, append2_pos h0 i2]
              simp only [append3]
              rw [Nat.ble_eq_true_of_le (show 0 + rows.length ≤ 1048576 by omega), cond_true, show Nat.ble (0 + rows.length) 0 = false by cases hh : Nat.ble (0 + rows.length) 0 with | false => rfl | true => exact absurd (bleT hh) (by omega), cond_false, Nat.beq_refl, cond_true, Nat.zero_mul, hown]
              simp only [moved, List.nil_append, Nat.zero_add]
              rw [newRow_ok hall, i1]
              rfl)
            have hids : ∀ j ∈ AV.idsL rcs.flatten, j < (calE c hid big).m0 := fun j hj => by
              have := ids_sub g2 j hj
              have hlt : j < c.nb := by
                by_cases hb0 : b < c.E.m0
                · have g1' := g1
                  rw [cellsOf_ro hb0] at g1'
                  have := hp.bm j ((hp.ro b cs hb0 g1').2 j this)
                  unfold Ctx.nb; omega
                · exact (hp.ids b cs (by omega) g1 j this).lt hp
              rw [hnb]; omega
            have hk2 : keepAll (shiftNo c.nb (calE c hid big).m0) (M1.push (.cells rcs.flatten)) = [.cells [], .cells rcs.flatten] := by
              have e0 : (M1.push (.cells rcs.flatten)).get 0 = some (.cells []) := by rw [Mem.get_push, if_neg (by decide), get_M1, if_pos rfl]
              have e1 : (M1.push (.cells rcs.flatten)).get 1 = some (.cells rcs.flatten) := by rw [Mem.get_push, if_pos (by rfl)]
              simp only [keepAll]
              show ([0, 1].map _) = _
              simp only [List.map, e0, e1, keepObj, AV.renL]
              rw [renL_fix rcs.flatten (fun j hj => shiftNo_lt (hids j hj))]
            have hx : ExtF c (c.back [.cells []] li) u mm := ⟨fun tg b' cs' hs hc => by
              have hlt := cells_lt hc
              obtain ⟨s1, s2⟩ := (hbk u).sta tg b' cs' hs hc
              refine ⟨⟨s1.1, s1.2.1, fun j hj => ?_⟩, s2⟩
              have : (c.back [.cells []] li).lay b' = c.lay b' := by
                show (if _ then _ else _) = _
                rw [if_neg (by unfold Ctx.nb; omega)]
              rw [this] at hj
              exact hv2 b' (by unfold Ctx.nb; exact hlt) (hv1 b' (by unfold Ctx.nb; exact hlt) hs.2.2) j hj⟩
            have hP := post_row (c := c.back [.cells []] li) (li := li) (nn := false) (s := 1) (q := 1) (u := mm) hbh (RRows.monoF hx rows rcs r1) r2 (.inr rfl) (fun e => absurd (by rw [e]; rfl) h0) hall
            refine ⟨_, _, ?_, join hP (Nat.le_refl _)⟩
            rw [hpc _ _ hcall, hk2]
            simp only [AV.ren, hsh0]
            rw [hbn]
            rfl
    · cases h
  · cases h
/-- A call of a function that is known. -/
theorem callK_ok {vt : VTab} {ih : VIh} (hC : CallS vt ih.call) (hkeep : VOK vt) {H : VH} {k : K} {x : Option (List DV)} {y : Option DV} {r : DV} (h : callK vt ih H k x y = some r) :
    ∃ ds fd v H' n0, x = some ds ∧ y = some fd ∧ k v H' = some r ∧ ∀ n, n0 ≤ n → ∀ big, n0 ≤ big → ∀ (c : Ctx) (hm u mm : Nat) (li : Option Nat) (hid : Nat → Bool) (as : List AV) (fa : AV), c.H = H → Hp c hm → (ownsL ds ≠ [] ∨ owns fd ≠ [] → Sub hm u) → RL c u false ds as → R c u false fd fa →
      (∀ b, b < c.nb → visM c.lay u b → hid b = false) → (∀ b, b < c.nb → hid b = false → visM c.lay mm b) →
      ∃ a' c', callV (stab vt big) (ev (stab vt big) n) c.E hid c.M as fa = some (a', c'.M) ∧ Post c c' n0 li (mm ||| lm li) hm v a' H' := by
  unfold callK at h
  split at h
  · rename_i ds g fs caps
    unfold call2V at h
    split at h
    · rename_i fn hfn
      cases hsh : vt.tab.shares g with
      | true => rw [hsh] at h; cases h
      | false =>
        rw [hsh, cond_false] at h
        cases hkn : vt.kn g with
        | true =>
          rw [hkn, cond_true] at h
          obtain ⟨H', h1, h2⟩ := cloneK_ok hkeep hkn hsh h
          refine ⟨ds, _, _, _, 2, rfl, rfl, h1, fun n hn big hb c hm u mm li hid as fa hH hp hu hr hf hv1 hv2 => ?_⟩
          simp only [R] at hf
          obtain ⟨xs, ys, rfl, hx, hy⟩ := hf
          obtain ⟨a', c', q1, q2⟩ := h2 n hn big c hm u mm li hid _ hH hp (by
            intro hne
            apply hu
            by_cases e : ownsL ds = []
            · right
              intro e2
              simp only [owns, List.append_eq_nil_iff] at e2
              apply hne
              rw [ownsL_append, ownsL_append, e, e2.1, e2.2]; rfl
            · exact .inl e) (hx.append (hr.append hy)) hv1 hv2
          exact ⟨a', c', by simp only [callV]; rw [show (stab vt big).shares g = false from hsh, cond_false]; exact q1, q2⟩
        | false =>
        rw [hkn, cond_false] at h
        unfold call3 at h
        split at h
        · rename_i fargs rs hfa hrs
          unfold bindC at h
          split at h
          · rename_i r0 hcall
            unfold resK at h
            cases hres : isRes rs r0 with
            | false => rw [hres] at h; cases h
            | true =>
              rw [hres, cond_true] at h
              obtain ⟨n0, hn0⟩ := hC g fargs r0 hcall
              refine ⟨ds, _, _, _, n0, rfl, rfl, h, fun n hn big hb c hm u mm li hid as fa hH hp hu hr hf hv1 hv2 => ?_⟩
              subst hH
              simp only [R] at hf
              obtain ⟨xs, ys, rfl, hx, hy⟩ := hf
              have hall : RL c u false (fs ++ (ds ++ caps)) (xs ++ (as ++ ys)) := hx.append (hr.append hy)
              have hu' : ownsL (fs ++ (ds ++ caps)) ≠ [] → Sub hm u := by
                intro hne
                apply hu
                by_cases e : ownsL ds = []
                · right
                  intro e2
                  simp only [owns, List.append_eq_nil_iff] at e2
                  apply hne
                  rw [ownsL_append, ownsL_append, e, e2.1, e2.2]; rfl
                · exact .inl e
              have main : ∀ c1 : Ctx, c1.H = (bif vt.al g then frzAll (ownsL (fs ++ (ds ++ caps))) c.H else c.H) → c1.E = c.E → c1.M = c.M → c1.Ta = c.Ta → c1.lay = c.lay → c1.B = c.B → (∀ m, Ext c c1 m m) → (∀ j x, nthB c.H j = some x → ∃ y, nthB c1.H j = some y) → Hp c1 hm →
                  RL (cx (calE c1 hid big) Mem.nil (calTa c1) (Okid c1)) 0 true fargs (xs ++ (as ++ ys)) →
                  ∃ a' c', callV (stab vt big) (ev (stab vt big) n) c.E hid c.M as (.func g xs ys) = some (a', c'.M) ∧ Post c c' n0 li (mm ||| lm li) hm (prjRes rs r0) a' (bif vt.al g then frzAll (ownsL (fs ++ (ds ++ caps))) c.H else c.H) := by
                intro c1 e1 e2 e3 e4 e5 eB e6 e7 hp1 ha
                obtain ⟨a, Mc, k1, k2, k3, k4⟩ := hn0 n hn big hb _ _ _ _ rfl (cal_hp hp1 hid big) ha
                obtain ⟨j1, j2⟩ := isRes_ok (rsOk_of hrs) hres k3
                have hb2 := back_ok (li := li) (mm := mm) hp1 k4 k3 j1 (fun b hb hh => by
                  rw [e5]; exact hv2 b (by unfold Ctx.nb at hb ⊢; rw [e2, e3] at hb; exact hb) hh)
                have hb3 := Post.after (c := c) e6 e7 e2 e4 eB (by rw [e3]) e5 hb2
                refine ⟨_, _, ?_, by rw [j2, ← e1]; exact hb3.up k2⟩
                · simp only [callV]
                  have : (stab vt big).shares g = false := hsh
                  rw [this, cond_false]
                  simp only [pcall, pcallAt]
                  have ek : (stab vt big).keep = true := hkeep.keep
                  have eE : ({ ro := roOf c.E hid c.M, m0 := c.E.m0 + c.M.n + (stab vt big).big, rnd := false } : Env) = calE c1 hid big := by
                    unfold calE; rw [e2, e3]; rfl
                  rw [eE, k1, ek]
                  simp only [compactR, cond_true, addTo]
                  have en : c.E.m0 + c.M.n = c1.nb := by unfold Ctx.nb; rw [e2, e3]
                  have em : c.E.m0 + c.M.n + (stab vt big).big = (calE c1 hid big).m0 := by unfold calE; rw [e2, e3]; rfl
                  rw [em, en, ← e3]
                  rfl
              cases hal : vt.al g with
              | true =>
                rw [hal] at hfa main
                simp only [Bool.not_true] at hfa
                obtain ⟨h1, h2, h3, h4, h5⟩ := frz_hand hp u (ownsL (fs ++ (ds ++ caps)))
                refine main (c.withH (frzAll (ownsL (fs ++ (ds ++ caps))) c.H)) rfl rfl rfl rfl rfl rfl h2 h4 h3 ?_
                have hx2 := cal_ext (u := u) (hid := hid) (big := big) h3 (fun b hb hvb => hv1 b hb hvb)
                refine nrmArgs_ok hp (u' := 0) ⟨⟨fun tg b cs g1 g2 => ?_⟩, fun k hk l B hB hne hl hck => ?_⟩ (fun k hk => hk) hu' hfa hall
                · obtain ⟨g3, g4⟩ := h1.ext.sta tg b cs g1 g2
                  exact hx2.sta tg b cs g3 g4
                · obtain ⟨g3, g4⟩ := h1.own k hk l B hB hne hl hck
                  exact hx2.sta false _ l g3 g4
              | false =>
                rw [hal] at hfa main
                simp only [Bool.not_false] at hfa
                refine main c rfl rfl rfl rfl rfl rfl (fun m => Ext.refl c m) (fun j x hx => ⟨x, hx⟩) hp ?_
                refine nrmArgs_ok hp (u' := 0) (ids := ownsL (fs ++ (ds ++ caps))) ⟨cal_ext hp hv1, fun k hk l B hB hne hl hck => ?_⟩ (fun k hk => hk) hu' hfa hall
                have hlt : c.ρ k < c.nb := hl.lt
                refine ⟨⟨cx_mut, by simp, fun j hj => by cases hj⟩, ?_⟩
                show cellsOf (calE c hid big) Mem.nil _ = _
                have : c.ρ k < (calE c hid big).m0 := by unfold Ctx.nb at hlt; unfold calE; simp only; omega
                rw [cellsOf_ro this]
                show roOf c.E hid c.M _ = _
                unfold roOf
                rw [hv1 _ hlt (hl.vis.mono hck), cond_false]
                exact hl.cells
          · cases h
        · cases h
    · cases h
  · cases h
end Go.Vx
/- V, text D: one operation; regions in their order. -/
namespace Go.Vx
open Go.Sx

def rmO (li : Option Nat) (mm u : Nat) : VTc → Nat
  | .none | .rd => u
  | .cal => mm ||| lm li
  | _ => u ||| lm li
def hmO (li : Option Nat) (u hm : Nat) : VTc → Nat
  | .wr => hm ||| (u ||| lm li)
  | _ => hm
/-- What S does of one operation that V has done. -/
def OpDone (vt : VTab) (T : VT) (H : VH) (op : Op) (v : DV) (H' : VH) (n0 : Nat) : Prop :=
  ∀ n, n0 ≤ n → ∀ big, n0 ≤ big → ∀ (c : Ctx) (hm u mm : Nat) (li : Option Nat) (hid : Nat → Bool) (TS : Tbl AV), c.H = H → Hp c hm → Opn c u T TS op.operands.toList → (hasOwn T op.operands.toList = true → Sub hm u) →
    (touchV T op = .cal → (∀ b, b < c.nb → visM c.lay u b → hid b = false) ∧ (∀ b, b < c.nb → hid b = false → visM c.lay mm b)) →
    ∃ a c', xop (stab vt big) (ev (stab vt big) n) c.E hid TS c.M op = some (a, c'.M) ∧ Post c c' n0 li (rmO li mm u (touchV T op)) (hmO li u hm (touchV T op)) v a H'
theorem xop_dop {tab : Tab} {ih : Ih} {E : Env} {hid : Nat → Bool} {T : Tbl AV} {M : Mem} {op : Op} (h : ∀ c, op ≠ .call c) : xop tab ih E hid T M op = dop tab.ty E T M op := by
  cases op <;> first | rfl | exact absurd rfl (h _)
theorem opnO {c : Ctx} {u : Nat} {T : VT} {TS : Tbl AV} {l : List Operand} (hO : Opn c u T TS l) {x : Operand} {d : DV} (hx : x ∈ l) (h : opdV T x = some d) : ∃ a, opd TS x = some a ∧ R c u false d a := hO x hx d h
theorem own_of {T : VT} {l : List Operand} {x : Operand} {d : DV} {hm u : Nat} (hu : hasOwn T l = true → Sub hm u) (hx : x ∈ l) (h : opdV T x = some d) : owns d ≠ [] → Sub hm u := fun hne => hu (hasOwn_of hx h hne)
theorem ownsL_of {T : VT} {l : List Operand} {hm u : Nat} (hu : hasOwn T l = true → Sub hm u) : ∀ {xs : List Operand} {ds : List DV}, (∀ x ∈ xs, x ∈ l) → opdsV T xs = some ds → ownsL ds ≠ [] → Sub hm u
  | [], ds, _, h, hne => by simp only [opdsV, Option.some.injEq] at h; subst h; exact absurd rfl hne
  | x :: xs, ds, hx, h, hne => by
    simp only [opdsV] at h
    cases h1 : opdV T x with
    | none => rw [h1] at h; simp [consD] at h
    | some d => cases h2 : opdsV T xs with
      | none => rw [h1, h2] at h; simp [consD] at h
      | some r =>
        rw [h1, h2] at h
        simp only [consD, Option.some.injEq] at h
        subst h
        by_cases e : owns d = []
        · refine ownsL_of hu (fun y hy => hx y (by simp [hy])) h2 (fun e2 => hne ?_)
          simp only [ownsL, e, e2]; rfl
        · exact own_of hu (hx x (by simp)) h1 e
theorem done_same {vt : VTab} {T : VT} {H : VH} {op : Op} {v : DV} (hnc : ∀ c, op ≠ .call c) (ht : touchV T op = .none ∨ touchV T op = .rd)
    (h : ∀ (c : Ctx) (hm u : Nat) (TS : Tbl AV), c.H = H → Hp c hm → Opn c u T TS op.operands.toList → (hasOwn T op.operands.toList = true → Sub hm u) → ∃ a, dop vt.tab.ty c.E TS c.M op = some (a, c.M) ∧ R c u false v a) : OpDone vt T H op v H 1 := by
  intro n _ big _ c hm u mm li hid TS hH hp hO hu _
  subst hH
  obtain ⟨a, h1, h2⟩ := h c hm u TS rfl hp hO hu
  refine ⟨a, c, by rw [xop_dop hnc]; exact h1, ?_⟩
  rcases ht with e | e <;> rw [e] <;> exact (Post.same hp h2 : Post c c 1 li u hm v a c.H)
theorem opK_ok {vt : VTab} {ih : VIh} (hC : CallS vt ih.call) (hkeep : VOK vt) {T : VT} {H : VH} {k : K} {op : Op} {r : DV} (h : opK vt ih T H k op = some r) :
    ∃ v H' n0, k v H' = some r ∧ OpDone vt T H op v H' n0 := by
  cases op <;> simp only [opK] at h <;> first | (cases h; done) | skip
  case move x =>
    obtain ⟨v, h1, h2⟩ := retK_ok h
    refine ⟨v, H, 1, h2, done_same (by simp) (.inl rfl) (fun c hm u TS _ _ hO _ => ?_)⟩
    obtain ⟨a, k1, k2⟩ := opnO hO (x := x) (by simp [Op.operands]) h1
    exact ⟨a, by simp only [dop, k1, d1], k2⟩
  case assign x =>
    obtain ⟨v, h1, h2⟩ := retK_ok h
    refine ⟨v, H, 1, h2, done_same (by simp) (.inl rfl) (fun c hm u TS _ _ hO _ => ?_)⟩
    obtain ⟨a, k1, k2⟩ := opnO hO (x := x) (by simp [Op.operands]) h1
    exact ⟨a, by simp only [dop, k1, d1], k2⟩
  case load t x =>
    obtain ⟨d, v, h1, h2, h3⟩ := loadK_ok h
    refine ⟨v, H, 1, h2, done_same (by simp) (.inr rfl) (fun c hm u TS hH hp hO hu => ?_)⟩
    obtain ⟨a, k1, k2⟩ := opnO hO (x := x) (by simp [Op.operands]) h1
    obtain ⟨a', j1, j2⟩ := h3 c hm u a hH hp (own_of hu (by simp [Op.operands]) h1) k2
    exact ⟨a', by simp only [dop, k1]; exact j1, j2⟩
  case store t x y =>
    obtain ⟨d, e, H', h1, h2, h3, h4⟩ := storeK_ok h
    refine ⟨.undef, H', 1, h3, fun n _ big _ c hm u mm li hid TS hH hp hO hu _ => ?_⟩
    obtain ⟨a, k1, k2⟩ := opnO hO (x := x) (by simp [Op.operands]) h1
    obtain ⟨b, k3, k4⟩ := opnO hO (x := y) (by simp [Op.operands]) h2
    obtain ⟨a', c', j1, j2⟩ := h4 c hm u li a b hH hp (own_of hu (by simp [Op.operands]) h1) k2 k4
    exact ⟨a', c', by rw [xop_dop (by simp)]; simp only [dop, k1, k3]; exact j1, j2⟩
  case binOp o t x y yt =>
    obtain ⟨d, e, v, h1, h2, h3, h4⟩ := binK_ok h
    refine ⟨v, H, 1, h3, done_same (by simp) (.inl rfl) (fun c hm u TS hH hp hO hu => ?_)⟩
    obtain ⟨a, k1, k2⟩ := opnO hO (x := x) (by simp [Op.operands]) h1
    obtain ⟨b, k3, k4⟩ := opnO hO (x := y) (by simp [Op.operands]) h2
    obtain ⟨a', j1, j2⟩ := h4 c hm u a b hH hp k2 k4
    exact ⟨a', by simp only [dop, k1, k3, dBin]; rw [show (vt.tab.ty) = vt.tab.ty from rfl, j1]; rfl, j2⟩
  case unOp o t x =>
    obtain ⟨d, v, h1, h2, h3⟩ := unK_ok h
    refine ⟨v, H, 1, h2, done_same (by simp) (.inl rfl) (fun c hm u TS hH hp hO hu => ?_)⟩
    obtain ⟨a, k1, k2⟩ := opnO hO (x := x) (by simp [Op.operands]) h1
    obtain ⟨a', j1, j2⟩ := h3 c u a k2
    exact ⟨a', by simp only [dop, k1, dUn, j1, d1], j2⟩
  case indexAddr t x y =>
    obtain ⟨d, e, v, h1, h2, h3, h4⟩ := ixAddrK_ok h
    refine ⟨v, H, 1, h3, done_same (by simp) (.inl rfl) (fun c hm u TS hH hp hO hu => ?_)⟩
    obtain ⟨a, k1, k2⟩ := opnO hO (x := x) (by simp [Op.operands]) h1
    obtain ⟨b, k3, k4⟩ := opnO hO (x := y) (by simp [Op.operands]) h2
    obtain ⟨a', j1, j2⟩ := h4 c hm u a b hH hp (own_of hu (by simp [Op.operands]) h1) k2 k4
    exact ⟨a', by simp only [dop, k1, k3]; exact j1, j2⟩
  case fieldAddr t x f =>
    obtain ⟨d, v, h1, h2, h3⟩ := fldAddrK_ok h
    refine ⟨v, H, 1, h2, done_same (by simp) (.inl rfl) (fun c hm u TS hH hp hO hu => ?_)⟩
    obtain ⟨a, k1, k2⟩ := opnO hO (x := x) (by simp [Op.operands]) h1
    obtain ⟨a', j1, j2⟩ := h3 c u a k2
    exact ⟨a', by simp only [dop, k1]; exact j1, j2⟩
  case field t x f =>
    obtain ⟨d, v, h1, h2, h3⟩ := fieldK_ok h
    refine ⟨v, H, 1, h2, done_same (by simp) (.inl rfl) (fun c hm u TS hH hp hO hu => ?_)⟩
    obtain ⟨a, k1, k2⟩ := opnO hO (x := x) (by simp [Op.operands]) h1
    obtain ⟨a', j1, j2⟩ := h3 c u a k2
    exact ⟨a', by simp only [dop, k1]; exact j1, j2⟩
  case index t x y =>
    obtain ⟨d, e, v, h1, h2, h3, h4⟩ := indexK_ok h
    refine ⟨v, H, 1, h3, done_same (by simp) (.inl rfl) (fun c hm u TS hH hp hO hu => ?_)⟩
    obtain ⟨a, k1, k2⟩ := opnO hO (x := x) (by simp [Op.operands]) h1
    obtain ⟨b, k3, k4⟩ := opnO hO (x := y) (by simp [Op.operands]) h2
    obtain ⟨a', j1, j2⟩ := h4 c u a b k2 k4
    exact ⟨a', by simp only [dop, k1, k3]; exact j1, j2⟩
  case extract x ix =>
    obtain ⟨d, v, h1, h2, h3⟩ := extK_ok h
    refine ⟨v, H, 1, h2, done_same (by simp) (.inl rfl) (fun c hm u TS hH hp hO hu => ?_)⟩
    obtain ⟨a, k1, k2⟩ := opnO hO (x := x) (by simp [Op.operands]) h1
    obtain ⟨a', j1, j2⟩ := h3 c u a k2
    exact ⟨a', by simp only [dop, k1]; exact j1, j2⟩
  case convert s d x =>
    obtain ⟨e, v, h1, h2, h3⟩ := convK_ok h
    refine ⟨v, H, 1, h2, done_same (by simp) (.inl rfl) (fun c hm u TS hH hp hO hu => ?_)⟩
    obtain ⟨a, k1, k2⟩ := opnO hO (x := x) (by simp [Op.operands]) h1
    obtain ⟨a', j1, j2⟩ := h3 c u a k2
    exact ⟨a', by simp only [dop, k1]; exact j1, j2⟩
  case nilCheck x =>
    obtain ⟨d, v, h1, h2, h3⟩ := nilCK_ok h
    refine ⟨v, H, 1, h2, done_same (by simp) (.inl rfl) (fun c hm u TS hH hp hO hu => ?_)⟩
    obtain ⟨a, k1, k2⟩ := opnO hO (x := x) (by simp [Op.operands]) h1
    obtain ⟨a', j1, j2⟩ := h3 c u a k2
    exact ⟨a', by simp only [dop, k1]; exact j1, j2⟩
  case alloc t =>
    obtain ⟨d, v, H', h1, h2, h3⟩ := boxK_ok h
    refine ⟨v, H', 1, h2, fun n _ big _ c hm u mm li hid TS hH hp hO hu _ => ?_⟩
    unfold zeroV at h1
    split at h1
    · rename_i i hi
      obtain ⟨a', c', j1, j2⟩ := h3 c hm u li i.zero hH hp (dvA_R _ _ h1).thaw
      refine ⟨a', c', ?_, j2⟩
      rw [xop_dop (by simp)]
      simp only [dop]
      have : (stab vt big).ty t = some i := hi
      rw [this]
      exact j1
    · cases h1
  case box t x =>
    obtain ⟨d, v, H', h1, h2, h3⟩ := boxK_ok h
    refine ⟨v, H', 1, h2, fun n _ big _ c hm u mm li hid TS hH hp hO hu _ => ?_⟩
    obtain ⟨a, k1, k2⟩ := opnO hO (x := x) (by simp [Op.operands]) h1
    obtain ⟨a', c', j1, j2⟩ := h3 c hm u li a hH hp k2
    exact ⟨a', c', by rw [xop_dop (by simp)]; simp only [dop, k1]; exact j1, j2⟩
  case build t parts =>
    obtain ⟨v, h1, h2⟩ := buildK_ok h
    refine ⟨v, H, 1, h1, done_same (by simp) (.inl rfl) (fun c hm u TS hH hp hO hu => ?_)⟩
    obtain ⟨a, j1, j2⟩ := h2 c u TS _ hO (fun p hp => by simp only [Op.operands]; exact List.mem_map_of_mem hp)
    exact ⟨a, by simp only [dop]; exact j1, j2⟩
  case buildSlice t len parts =>
    obtain ⟨v, H', h1, h2⟩ := bSliceK_ok h
    refine ⟨v, H', 1, h1, fun n _ big _ c hm u mm li hid TS hH hp hO hu _ => ?_⟩
    have hop : (Op.buildSlice t len parts).operands.toList = parts.toList.map (·.2) := by simp [Op.operands]
    rw [hop] at hO hu
    obtain ⟨a', c', j1, j2⟩ := h2 c hm u li TS hH hp hO hu
    refine ⟨a', c', ?_, j2⟩
    rw [xop_dop (by simp)]
    simp only [dop]
    rw [show elemTy (stab vt big).ty ((stab vt big).ty t) = tyO vt.tab.ty (elT (vt.tab.ty t)) from elT_ok.symm]
    exact j1
  case makeFunc f first caps =>
    cases f <;> simp only [fnK] at h <;> first | (cases h; done) | skip
    obtain ⟨xs, ys, v, h1, h2, h3, h4⟩ := mkFuncK_ok h
    refine ⟨v, H, 1, h3, done_same (by simp) (.inl rfl) (fun c hm u TS hH hp hO hu => ?_)⟩
    obtain ⟨l, k1, k2⟩ := opdsV_ok hO (fun x hx => by simp [Op.operands] at hx ⊢; exact .inl hx) h1
    obtain ⟨m, k3, k4⟩ := opdsV_ok hO (fun x hx => by simp [Op.operands] at hx ⊢; exact .inr hx) h2
    obtain ⟨a', j1, j2⟩ := h4 c u l m k2 k4
    exact ⟨a', by simp only [dop, dMkFunc, k1, k3]; exact j1, j2⟩
  case makeSlice t x y =>
    obtain ⟨d, d', v, H', h1, h2, h3, h4⟩ := makeK_ok h
    refine ⟨v, H', 1, h3, fun n _ big _ c hm u mm li hid TS hH hp hO hu _ => ?_⟩
    obtain ⟨a, k1, k2⟩ := opnO hO (x := x) (by simp [Op.operands]) h1
    obtain ⟨b, k3, k4⟩ := opnO hO (x := y) (by simp [Op.operands]) h2
    obtain ⟨a', c', j1, j2⟩ := h4 c hm u li a b hH hp k2 k4
    refine ⟨a', c', ?_, j2⟩
    rw [xop_dop (by simp)]
    simp only [dop, k1, k3]
    rw [show elemTy (stab vt big).ty ((stab vt big).ty t) = tyO vt.tab.ty (elT (vt.tab.ty t)) from elT_ok.symm]
    exact j1
  case slice t x lo hi mx =>
    obtain ⟨d, v, H', h1, h2, h3⟩ := sliceK_ok h
    refine ⟨v, H', 1, h2, fun n _ big _ c hm u mm li hid TS hH hp hO hu _ => ?_⟩
    obtain ⟨a, k1, k2⟩ := opnO hO (x := x) (by simp [Op.operands]) h1
    obtain ⟨a', c', j1, j2⟩ := h3 c hm u li TS _ a hH hp hO (fun o ho => by
      simp only [Op.operands, Array.toList_append, List.mem_append, Option.toList_toArray]
      rcases ho with rfl | rfl | rfl <;> simp) (own_of hu (by simp [Op.operands]) h1) k2
    exact ⟨a', c', by rw [xop_dop (by simp)]; simp only [dop, k1]; exact j1, j2⟩
  case pick x y z =>
    unfold pickK at h
    split at h
    · rename_i t ht
      have h' := splitB_ok h
      refine (?_ : ∃ v H' n0, _)
      have hb : ∃ w, (bif t then opdV T y else opdV T z) = some w ∧ k w H = some r := by
        cases t with
        | true => simp only [cond_true] at h' ⊢; exact retK_ok h'
        | false => simp only [cond_false] at h' ⊢; exact retK_ok h'
      obtain ⟨w, hw, hk⟩ := hb
      refine ⟨w, H, 1, hk, done_same (by simp) (.inl rfl) (fun c hm u TS hH hp hO hu => ?_)⟩
      obtain ⟨a, k1, k2⟩ := opnO hO (x := x) (by simp [Op.operands]) ht
      simp only [R] at k2
      subst k2
      cases t with
      | true =>
        rw [cond_true] at hw
        obtain ⟨a', j1, j2⟩ := opnO hO (x := y) (by simp [Op.operands]) hw
        exact ⟨a', by simp only [dop, k1, dPick, cond_true, j1, d1], j2⟩
      | false =>
        rw [cond_false] at hw
        obtain ⟨a', j1, j2⟩ := opnO hO (x := z) (by simp [Op.operands]) hw
        exact ⟨a', by simp only [dop, k1, dPick, cond_false, j1, d1], j2⟩
    · cases h
  case call q =>
    unfold callOpK at h
    split at h
    · rename_i f hf
      obtain ⟨ds, fd, v, H', n0, h1, h2, h3, h4⟩ := callK_ok hC hkeep h
      refine ⟨v, H', n0, h3, fun n hn big hb c hm u mm li hid TS hH hp hO hu hv => ?_⟩
      have hops : (Op.call q).operands.toList = f :: q.args.toList := by simp [Op.operands, Call.operands, hf]
      rw [hops] at hO hu
      obtain ⟨as, k1, k2⟩ := opdsV_ok hO (fun x hx => by simp [hx]) h1
      obtain ⟨fa, k3, k4⟩ := opnO hO (x := f) (by simp) h2
      have ht : touchV T (.call q) = .cal := by simp only [touchV, hf]
      obtain ⟨v1, v2⟩ := hv ht
      obtain ⟨a', c', j1, j2⟩ := h4 n hn big hb c hm u mm li hid as fa hH hp (fun e => by
        rcases e with e | e
        · exact ownsL_of hu (fun x hx => by simp [hx]) h1 e
        · exact own_of hu (by simp) h2 e) k2 k4 v1 v2
      rw [ht]
      refine ⟨a', c', ?_, j2⟩
      simp only [xop, callOp, hf, k1, k3, callV?]
      exact j1
    · rename_i b hb
      have hops : (Op.call q).operands.toList = q.args.toList := by simp [Op.operands, Call.operands, hb]
      have hx : ∀ (big n : Nat) (E : Env) (hid : Nat → Bool) (TS : Tbl AV) (M : Mem), xop (stab vt big) (ev (stab vt big) n) E hid TS M (.call q) = dBuiltin vt.tab.ty E M b q.argTypes.toList (opds TS q.args.toList) := by
        intro big n E hid TS M
        simp only [xop, callOp, hb]; rfl
      cases b <;> simp only [builtinK] at h <;> first | (cases h; done) | skip
      case len =>
        unfold oneK at h
        split at h
        · rename_i d hd
          obtain ⟨v, h1, h2⟩ := lenK_ok h
          refine ⟨v, H, 1, h1, fun n _ big _ c hm u mm li hid TS hH hp hO hu _ => ?_⟩
          rw [hops] at hO
          obtain ⟨as, k1, k2⟩ := opdsV_ok hO (fun x hx => hx) hd
          simp only [RL] at k2
          obtain ⟨a, _, rfl, k3, rfl⟩ := k2
          obtain ⟨a', j1, j2⟩ := h2 c u a hH k3
          have ht : touchV T (.call q) = .none := by simp only [touchV, hb]
          rw [ht]
          subst hH
          exact ⟨a', c, by rw [hx, k1]; exact j1, Post.same hp j2⟩
        · cases h
      case append =>
        obtain ⟨ds, v, H', h1, h2, h3⟩ := appK_ok h
        refine ⟨v, H', 1, h2, fun n _ big _ c hm u mm li hid TS hH hp hO hu _ => ?_⟩
        rw [hops] at hO hu
        obtain ⟨as, k1, k2⟩ := opdsV_ok hO (fun x hx => hx) h1
        obtain ⟨a', c', j1, j2⟩ := h3 c hm u li as hH hp (ownsL_of hu (fun x hx => hx) h1) k2
        have ht : touchV T (.call q) = .wr := by simp only [touchV, hb]
        rw [ht]
        exact ⟨a', c', by rw [hx, k1]; exact j1, j2⟩
      case max =>
        obtain ⟨ds, v, h1, h2, h3⟩ := mmK_ok h
        refine ⟨v, H, 1, h2, fun n _ big _ c hm u mm li hid TS hH hp hO hu _ => ?_⟩
        rw [hops] at hO
        obtain ⟨as, k1, k2⟩ := opdsV_ok hO (fun x hx => hx) h1
        obtain ⟨a', j1, j2⟩ := h3 c u as k2
        have ht : touchV T (.call q) = .none := by simp only [touchV, hb]
        rw [ht]
        subst hH
        exact ⟨a', c, by rw [hx, k1]; exact j1, Post.same hp j2⟩
      case min =>
        obtain ⟨ds, v, h1, h2, h3⟩ := mmK_ok h
        refine ⟨v, H, 1, h2, fun n _ big _ c hm u mm li hid TS hH hp hO hu _ => ?_⟩
        rw [hops] at hO
        obtain ⟨as, k1, k2⟩ := opdsV_ok hO (fun x hx => hx) h1
        obtain ⟨a', j1, j2⟩ := h3 c u as k2
        have ht : touchV T (.call q) = .none := by simp only [touchV, hb]
        rw [ht]
        subst hH
        exact ⟨a', c, by rw [hx, k1]; exact j1, Post.same hp j2⟩
    · cases h
end Go.Vx
/- V, text E: regions. -/
namespace Go.Vx
open Go.Sx

/-- The frame between regions. -/
structure FS (c : Ctx) (T : VT) (TS : Tbl AV) : Prop where
  hp : Hp c 0
  tr : TRel c (fun _ => 0) T TS
  lay : ∀ b, c.lay b = none
  ck : ∀ k, c.ck k = 0
structure Ste (c c' : Ctx) (K : Nat) : Prop where
  E : c'.E = c.E
  Ta : c'.Ta = c.Ta
  Bq : c'.B = c.B
  n1 : c.M.n ≤ c'.M.n
  n2 : c'.M.n ≤ c.M.n + K
theorem Ste.refl (c : Ctx) (K : Nat) : Ste c c K := ⟨rfl, rfl, rfl, Nat.le_refl _, by omega⟩
theorem Ste.trans {c c' c'' : Ctx} {K K' : Nat} (h : Ste c c' K) (k : Ste c' c'' K') : Ste c c'' (K + K') :=
  ⟨k.E.trans h.E, k.Ta.trans h.Ta, k.Bq.trans h.Bq, Nat.le_trans h.n1 k.n1, by have := h.n2; have := k.n2; omega⟩
theorem Ste.up {c c' : Ctx} {K K' : Nat} (h : Ste c c' K) (k : K ≤ K') : Ste c c' K' := ⟨h.E, h.Ta, h.Bq, h.n1, by have := h.n2; omega⟩
theorem Post.ste {c c' : Ctx} {K : Nat} {li : Option Nat} {rm hm' : Nat} {v : DV} {a : AV} {H' : VH} (h : Post c c' K li rm hm' v a H') : Ste c c' K := ⟨h.E, h.Ta, h.Bq, h.n1, h.n2⟩
theorem sub_zero (m : Nat) : Sub 0 m := fun j h => by simp at h
/-- A drawn region's marks are forgotten. -/
def Ctx.forget (c : Ctx) : Ctx := { c with lay := fun _ => none, ck := fun _ => 0 }
theorem forget_sta {c : Ctx} {m m' : Nat} {tg : Bool} {b : Nat} (h : Sta c m tg b) : Sta c.forget m' tg b := ⟨h.1, h.2.1, fun j hj => by cases hj⟩
theorem forget_ext (c : Ctx) (m m' : Nat) : Ext c c.forget m m' := by
  refine ⟨fun tg b cs h1 h2 => ⟨forget_sta h1, h2⟩, fun k a ho => ?_, fun k o a h => h, fun k i o a h => h, fun k _ _ => sub_zero _⟩
  obtain ⟨x, hx⟩ := ho.some
  unfold OwnR at ho ⊢
  rw [hx] at ho
  rw [show nthB c.forget.H k = some x from hx]
  have hv : ∀ nn s rows, OwnV c m nn s k rows a → OwnV c.forget m' nn s k rows a := by
    intro nn s rows hv
    rcases hv with ⟨k1, e | ⟨k2, e | ⟨b, o, k3, k4, k5⟩⟩⟩ | hv
    · exact .inl ⟨k1, .inl e⟩
    · exact .inl ⟨k1, .inr ⟨k2, .inl e⟩⟩
    · exact .inl ⟨k1, .inr ⟨k2, .inr ⟨b, o, k3, forget_sta k4, k5⟩⟩⟩
    · exact .inr hv
  cases x <;> first | exact hv _ _ _ ho | exact ho
theorem forget_hp {c : Ctx} {hm : Nat} (h : Hp c hm) : Hp c.forget 0 := by
  refine ⟨h.inj, fun k B hB => ?_, h.ta, h.bm, h.cell, h.ro, h.ids⟩
  have hr := h.hr k B hB
  have hb : ∀ l, Blk c k l → Blk c.forget k l := fun l e => ⟨e.lo, e.get, fun j hj => by cases hj⟩
  cases B with
  | box cs => obtain ⟨l, h1, h2⟩ := hr; exact ⟨l, RL.mono (forget_ext c _ _) _ _ _ h1, hb l h2⟩
  | fbx cs => obtain ⟨l, h1, h2, h3⟩ := hr; exact ⟨l, RL.mono (forget_ext c _ _) _ _ _ h1, hb l h2, forget_sta h3⟩
  | row nn s rows => obtain ⟨rcs, h1, h2, h3⟩ := hr; exact ⟨rcs, RRows.mono (forget_ext c _ _) _ _ h1, h2, fun e => hb _ (h3 e)⟩
  | frz s rows => obtain ⟨⟨rcs, h1, h2, h3⟩, h4⟩ := hr; exact ⟨⟨rcs, RRows.mono (forget_ext c _ _) _ _ h1, h2, fun e => hb _ (h3 e)⟩, fun e => forget_sta (h4 e)⟩
  | dead => trivial
theorem TRel.forget {c : Ctx} {pv : Nat → Nat} {T : VT} {TS : Tbl AV} (h : TRel c pv T TS) : TRel c.forget (fun _ => 0) T TS := fun t v hv => by
  obtain ⟨a, h1, h2⟩ := h t v hv
  exact ⟨a, h1, R.mono (forget_ext c _ _) _ _ _ h2⟩
theorem FS.of {c : Ctx} {hm : Nat} {pv : Nat → Nat} {T : VT} {TS : Tbl AV} (h1 : Hp c hm) (h2 : TRel c pv T TS) : FS c.forget T TS := ⟨forget_hp h1, h2.forget, fun _ => rfl, fun _ => rfl⟩
theorem TRel.mono {c c' : Ctx} {pv : Nat → Nat} {T : VT} {TS : Tbl AV} (h : TRel c pv T TS) (hx : ∀ m, Ext c c' m m) : TRel c' pv T TS := fun t v hv => by
  obtain ⟨a, h1, h2⟩ := h t v hv
  exact ⟨a, h1, R.mono (hx _) _ _ _ h2⟩
theorem TRel.put {c : Ctx} {pv : Nat → Nat} {T : VT} {TS : Tbl AV} (h : TRel c pv T TS) {m : Nat} {v : DV} {a : AV} (hr : R c m false v a) (d : Option Tmp) : TRel c (fun t => if d = some t then m else pv t) (putV T v d) (putT TS a d) := by
  cases d with
  | none => intro t v hv; simpa [putV, putT] using h t v hv
  | some d =>
    intro t w hw
    simp only [putV, putT] at hw ⊢
    rw [Tbl.get_set] at hw ⊢
    by_cases e : t = d
    · subst e
      rw [if_pos rfl] at hw ⊢
      cases hw
      rw [if_pos rfl]
      exact ⟨a, rfl, hr⟩
    · rw [if_neg e] at hw ⊢
      rw [if_neg (by simpa using fun e' => e e'.symm)]
      exact h t w hw
theorem TRel.bool {c : Ctx} {pv : Nat → Nat} {T : VT} {TS : Tbl AV} (h : TRel c pv T TS) {t : Nat} {b : Bool} (ht : T.get t = some (.bool b)) : TRel c pv (T.set t (.bool b)) TS := by
  intro s v hv
  rw [Tbl.get_set] at hv
  by_cases e : s = t
  · subst e
    rw [if_pos rfl] at hv
    cases hv
    exact h _ _ ht
  · rw [if_neg e] at hv; exact h s v hv
/-- A guard. -/
theorem guardK_ok {ops : List Oper} {T : VT} {yes no : VT → Res} {g : Option (Nat × Bool)} {r : DV} (h : guardK ops T yes no g = some r) :
    ∃ T1, (∀ (c : Ctx) (pv : Nat → Nat) (TS : Tbl AV), TRel c pv T TS → TRel c pv T1 TS) ∧
      ((yes T1 = some r ∧ ∀ (c : Ctx) (pv : Nat → Nat) (TS : Tbl AV), TRel c pv T TS → wantedA ops TS g = true) ∨ (no T1 = some r ∧ ∀ (c : Ctx) (pv : Nat → Nat) (TS : Tbl AV), TRel c pv T TS → wantedA ops TS g = false)) := by
  unfold guardK at h
  split at h
  · exact ⟨T, fun _ _ _ h => h, .inl ⟨h, fun _ _ _ _ => rfl⟩⟩
  · rename_i j want
    simp only [wantedA]
    cases hd : dstOf ops j with
    | none =>
      rw [hd] at h
      exact ⟨T, fun _ _ _ h => h, .inr ⟨h, fun _ _ _ _ => rfl⟩⟩
    | some t =>
      rw [hd] at h
      simp only [guardD] at h
      unfold guardT at h
      split at h
      · rename_i b hb
        have h' := splitB_ok h
        have hT : ∀ (c : Ctx) (pv : Nat → Nat) (TS : Tbl AV), TRel c pv T TS → TRel c pv (T.set t (.bool b)) TS := fun c pv TS hr => hr.bool hb
        have hw : ∀ (c : Ctx) (pv : Nat → Nat) (TS : Tbl AV), TRel c pv T TS → wantT TS want (some t) = (b == want) := by
          intro c pv TS hr
          obtain ⟨a, h1, h2⟩ := hr t _ hb
          simp only [R] at h2
          subst h2
          simp only [wantT, h1, orUndef, isB]
        cases hbw : (b == want) with
        | true => rw [hbw] at h'; exact ⟨_, hT, .inl ⟨h', fun c pv TS hr => (hw c pv TS hr).trans hbw⟩⟩
        | false => rw [hbw] at h'; exact ⟨_, hT, .inr ⟨h', fun c pv TS hr => (hw c pv TS hr).trans hbw⟩⟩
      · rename_i v hv hnb
        refine ⟨T, fun _ _ _ h => h, .inr ⟨h, fun c pv TS hr => ?_⟩⟩
        obtain ⟨a, h1, h2⟩ := hr t _ hnb
        simp only [wantT, h1, orUndef]
        cases a <;> simp only [isB]
        rename_i b
        cases v <;> simp only [R] at h2 <;> first | (cases h2; done) | skip
        · cases h2; exact absurd rfl (hv _)
        · obtain ⟨rcs, _, _, h3⟩ := h2; exact absurd h3.sl (by simp [isSlV])
        · obtain ⟨l, e, _⟩ := h2; cases e
        · obtain ⟨l, e, _⟩ := h2; cases e
        · obtain ⟨l, m, e, _⟩ := h2; cases e
        · exact absurd h2.2.2.sl (by simp [isSlV])
        · obtain ⟨_, _, _, e⟩ := h2; cases e
        · obtain ⟨b', base, l, e, _⟩ := h2; cases e
        · exact absurd h2.2.2.pt (by simp [isPtrV])
      · cases h
theorem opn_zero {c : Ctx} {T : VT} {TS : Tbl AV} (h : TRel c (fun _ => 0) T TS) (l : List Operand) : Opn c 0 T TS l := opn_of h (fun t _ => Sub.refl 0)
theorem rmO_none {tc : VTc} : rmO none 0 0 tc = 0 := by cases tc <;> rfl
theorem hmO_none {tc : VTc} : hmO none 0 0 tc = 0 := by cases tc <;> rfl
/-- A region in its order. -/
theorem opsK_ok {vt : VTab} {ih : VIh} (hC : CallS vt ih.call) (hkeep : VOK vt) {ops : List Oper} : ∀ {l : List Oper} {T : VT} {H : VH} {k : KT} {r : DV}, opsK vt ih ops l T H k = some r →
    ∃ T' H' n0, k T' H' = some r ∧ ∀ n, n0 ≤ n → ∀ big, n0 ≤ big → ∀ (c : Ctx) (TS : Tbl AV), c.H = H → FS c T TS → ∃ TS' c', opsRun (stab vt big) (ev (stab vt big) n) c.E ops l TS c.M = some (TS', c'.M) ∧ c'.H = H' ∧ FS c' T' TS' ∧ Ste c c' n0
  | [], T, H, k, r, h => ⟨T, H, 0, h, fun n _ big _ c TS hH hF => ⟨TS, c, rfl, hH, hF, Ste.refl c 0⟩⟩
  | o :: l, T, H, k, r, h => by
    simp only [opsK] at h
    obtain ⟨T1, hT1, hg⟩ := guardK_ok h
    rcases hg with ⟨hy, hw⟩ | ⟨hn, hw⟩
    · obtain ⟨v, H1, n1, h1, h2⟩ := opK_ok hC hkeep hy
      obtain ⟨T', H', n2, h3, h4⟩ := opsK_ok hC hkeep h1
      refine ⟨T', H', n1 + n2, h3, fun n hn big hb c TS hH hF => ?_⟩
      have hTR := hT1 c _ TS hF.tr
      obtain ⟨a, c1, j1, j2⟩ := h2 n (by omega) big (by omega) c 0 0 0 none noneHid TS hH hF.hp (opn_zero hTR _) (fun _ => Sub.refl 0) (fun _ => ⟨fun b _ _ => rfl, fun b _ _ => by intro j hj; rw [hF.lay] at hj; cases hj⟩)
      rw [rmO_none, hmO_none] at j2
      have hF1 : FS c1.forget (putV T1 v o.dst) (putT TS a o.dst) := FS.of j2.hp ((hTR.mono j2.ext).put j2.r o.dst)
      obtain ⟨TS', c', q1, q2, q3, q4⟩ := h4 n (by omega) big (by omega) c1.forget (putT TS a o.dst) j2.H hF1
      refine ⟨TS', c', ?_, q2, q3, ?_⟩
      · simp only [opsRun]
        rw [hw c _ TS hF.tr, cond_true, j1]
        simp only [opsNext]
        have eE : c1.forget.E = c.E := j2.E
        rw [eE] at q1
        exact q1
      · have s1 : Ste c c1.forget n1 := ⟨j2.E, j2.Ta, j2.Bq, j2.n1, j2.n2⟩
        exact s1.trans q4
    · obtain ⟨T', H', n2, h3, h4⟩ := opsK_ok hC hkeep hn
      refine ⟨T', H', n2, h3, fun n hn big hb c TS hH hF => ?_⟩
      have hTR := hT1 c _ TS hF.tr
      have hF1 : FS c (putV T1 .undef o.dst) (putT TS .undef o.dst) := by
        refine ⟨hF.hp, ?_, hF.lay, hF.ck⟩
        have := hTR.put (m := 0) (v := .undef) (a := .undef) (by simp only [R]) o.dst
        intro t w hw
        obtain ⟨a, k1, k2⟩ := this t w hw
        refine ⟨a, k1, ?_⟩
        refine k2.sub ?_
        show Sub (if o.dst = some t then 0 else (0 : Nat)) 0
        split <;> exact Sub.refl 0
      obtain ⟨TS', c', q1, q2, q3, q4⟩ := h4 n hn big hb c _ hH hF1
      refine ⟨TS', c', ?_, q2, q3, q4⟩
      simp only [opsRun]
      rw [hw c _ TS hF.tr, cond_false]
      exact q1
end Go.Vx
/- V, text F: regions that draw their order. -/
namespace Go.Vx
open Go.Sx

def TcR : VTc → Tch → Prop
  | .none, t => t = .none
  | .nw, t => t = .new
  | .rd, t => t = .none ∨ ∃ b, t = .rdB b
  | .cal, t => t = .cal
  | .wr, t => t ≠ .all
/-- The own box that is touched. -/
def TbR (c : Ctx) (bk : Option Nat) (t : Tch) : Prop := ∀ k, bk = some k → t = .none ∨ ((t = .rdB (c.ρ k) ∨ t = .wrB (c.ρ k)) ∧ ∃ o, PtrR c k o (.ptr (c.ρ k) o))
theorem TbR.mono {c c' : Ctx} (h : ∀ k o a, PtrR c k o a → PtrR c' k o a) {bk : Option Nat} {t : Tch} (ht : TbR c bk t) : TbR c' bk t := by
  intro k hk
  rcases ht k hk with e | ⟨e, o, ho⟩
  · exact .inl e
  · have h' := h k o _ ho
    have e2 : c.ρ k = c'.ρ k := by have := h'.2; injection this
    rw [e2] at e h'
    exact .inr ⟨e, o, h'⟩
inductive DsR (c : Ctx) : List VDn → List Done → Prop
  | nil : DsR c [] []
  | cons {v : VDn} {d : Done} {l : List VDn} {r : List Done} (h1 : v.ix = d.ix) (h2 : TcR v.tc d.tch) (hb : TbR c v.bk d.tch) (h3 : DsR c l r) : DsR c (v :: l) (d :: r)
theorem DsR.mono {c c' : Ctx} (h : ∀ k o a, PtrR c k o a → PtrR c' k o a) {l : List VDn} {r : List Done} (hd : DsR c l r) : DsR c' l r := by
  induction hd with
  | nil => exact .nil
  | cons h1 h2 hb _ ih => exact .cons h1 h2 (hb.mono h) ih
structure DI (c : Ctx) (ds : List Done) : Prop where
  l1 : ∀ b j, c.lay b = some j → ∃ d ∈ ds, d.ix = j ∧ d.lo ≤ b ∧ b < d.hi
  l2 : ∀ d ∈ ds, ∀ b, d.lo ≤ b → b < d.hi → c.lay b = some d.ix
  hi : ∀ d ∈ ds, d.hi ≤ c.nb
def pvf (pv : Tbl Nat) (t : Nat) : Nat := match pv.get t with
  | some m => m
  | none => 0
theorem maskT_tmp (pv : Tbl Nat) (t : Nat) : maskT pv (.tmp t) = pvf pv t := rfl
theorem maskL_sub {pv : Tbl Nat} : ∀ {l : List Operand} {t : Nat}, .tmp t ∈ l → Sub (pvf pv t) (maskL pv l)
  | x :: l, t, h => by
    simp only [maskL]
    rcases List.mem_cons.1 h with e | h
    · subst e; exact Sub.orl _ _
    · exact Sub.trans (maskL_sub h) (Sub.orr _ _)
theorem hidden_vis {c : Ctx} {ds : List Done} {m u : Nat} (h2 : ∀ d ∈ ds, ∀ b, d.lo ≤ b → b < d.hi → c.lay b = some d.ix) (hu : Sub u m) {b : Nat} (hv : visM c.lay u b) : hidden m ds b = false := by
  induction ds with
  | nil => rfl
  | cons d ds ih =>
    simp only [hidden]
    cases hc : (!(m.testBit d.ix) && Nat.ble d.lo b && Nat.blt b d.hi) with
    | false => rw [cond_false]; exact ih (fun x hx => h2 x (by simp [hx]))
    | true =>
      simp only [Bool.and_eq_true, Bool.not_eq_true'] at hc
      have := hu _ (hv _ (h2 d (by simp) b (bleT hc.1.2) (bltT hc.2)))
      rw [this] at hc
      exact absurd hc.1.1 (by simp)
theorem vis_hidden {ds : List Done} {m b : Nat} (h : hidden m ds b = false) : ∀ d ∈ ds, d.lo ≤ b → b < d.hi → m.testBit d.ix = true := by
  induction ds with
  | nil => intro d hd; simp at hd
  | cons e ds ih =>
    intro d hd h1 h2
    simp only [hidden] at h
    cases hc : (!(m.testBit e.ix) && Nat.ble e.lo b && Nat.blt b e.hi) with
    | true => rw [hc] at h; cases h
    | false =>
      rw [hc, cond_false] at h
      rcases List.mem_cons.1 hd with rfl | hd
      · rw [Nat.ble_eq_true_of_le h1, bltOf h2] at hc
        simpa using hc
      · exact ih h d hd h1 h2
theorem apartAll_ok {c : Ctx} {m u : Nat} {t : Tch} {dv : List VDn} {ds : List Done} (hds : DsR c dv ds) (h2 : ∀ d ∈ ds, ∀ b, d.lo ≤ b → b < d.hi → c.lay b = some d.ix) (hu : tchR t ≠ [] → Sub u m) (hv : ∀ b ∈ tchR t, visM c.lay u b)
    (hap : ∀ v ∈ dv, m.testBit v.ix = false → ∀ t', TcR v.tc t' → TbR c v.bk t' → apart t t' = true) : apartAll m t ds = true := by
  induction hds with
  | nil => rfl
  | @cons v d l r e1 e2 eb e3 ih =>
    simp only [apartAll]
    have hrest := ih (fun x hx => h2 x (by simp [hx])) (fun x hx => hap x (by simp [hx]))
    cases hm : m.testBit d.ix with
    | true => rw [Bool.true_or, cond_true]; exact hrest
    | false =>
      have ha := hap v (by simp) (by rw [e1]; exact hm) d.tch e2 eb
      have ho : ∀ l : List Nat, (∀ b ∈ l, b ∈ tchR t) → outside d.lo d.hi l = true := by
        intro l hl
        induction l with
        | nil => rfl
        | cons b l ih2 =>
          simp only [outside]
          cases hc : (Nat.ble d.lo b && Nat.blt b d.hi) with
          | false => rw [cond_false]; exact ih2 (fun x hx => hl x (by simp [hx]))
          | true =>
            simp only [Bool.and_eq_true] at hc
            have hb := hl b (by simp)
            have := hu (by intro e; rw [e] at hb; simp at hb) _ (hv b hb _ (h2 d (by simp) b (bleT hc.1) (bltT hc.2)))
            rw [this] at hm; cases hm
      rw [ha, ho _ (fun _ h => h), Bool.and_self, Bool.or_true, cond_true]
      exact hrest
theorem allIn_mem {m : Nat} {H : VH} {bk : Option Nat} {f : VTc → Bool} : ∀ {ds : List VDn}, allIn m H bk f ds = true → ∀ v ∈ ds, m.testBit v.ix = false → diffB H bk v.bk = false → f v.tc = false
  | d :: ds, h, v, hv, hm, hd => by
    simp only [allIn, Bool.and_eq_true, Bool.or_eq_true, Bool.not_eq_true'] at h
    rcases List.mem_cons.1 hv with rfl | hv
    · rcases h.1 with e | e | e
      · exact e
      · rw [e] at hm; cases hm
      · rw [e] at hd; cases hd
    · exact allIn_mem h.2 v hv hm hd
theorem beqNe {a b : Nat} : Nat.beq a b = false ↔ a ≠ b := by
  constructor
  · intro h e; subst e; rw [Nat.beq_refl] at h; cases h
  · intro h; cases e : Nat.beq a b with
    | false => rfl
    | true => exact absurd (Nat.eq_of_beq_eq_true e) h
theorem isBoxB_mut {H : VH} {k : Nat} (h : isBoxB (nthB H k) = true) : Mutk H k := by
  unfold Mutk
  cases e : nthB H k with
  | none => rw [e] at h; simp [isBoxB] at h
  | some B => cases B <;> rw [e] at h <;> simp [isBoxB] at h ⊢
theorem diffB_apart {c : Ctx} {hm : Nat} (hp : Hp c hm) {bk bk' : Option Nat} {t t' : Tch} (hd : diffB c.H bk bk' = true) (h : TbR c bk t) (h' : TbR c bk' t') : apart t t' = true := by
  cases bk with
  | none => simp [diffB] at hd
  | some k => cases bk' with
    | none => simp [diffB] at hd
    | some k' =>
      simp only [diffB, Bool.and_eq_true, Bool.not_eq_true', beqNe] at hd
      have hne := hp.inj k k' (isBoxB_mut hd.2.1) (isBoxB_mut hd.2.2) hd.1
      rcases h k rfl with e | ⟨e, _⟩
      · subst e; cases t' <;> rfl
      · rcases h' k' rfl with e' | ⟨e', _⟩
        · subst e'; cases t <;> rfl
        · rcases e with e | e <;> rcases e' with e' | e' <;> subst e <;> subst e' <;> first | rfl | (simp only [apart, Bool.not_eq_true', beqNe]; exact hne)
/-- Where a value points. -/
theorem R.visP {c : Ctx} {hm u : Nat} (hp : Hp c hm) {d : DV} {b o : Nat} (h : R c u false d (.ptr b o)) (hl : (∃ k o, d = .ptr k o) ∨ (∃ tg cs o, d = .fbp tg cs o) ∨ (∃ k i o s rows, d = .elp k i o ∧ rowsO (nthB c.H k) = some (s, rows))) : visM c.lay u b ∧ b < c.nb := by
  rcases hl with ⟨k0, o0, e⟩ | ⟨tg, cs, o', e⟩ | ⟨k, i, o', s, rows, e, hrow⟩
  · subst e
    rw [R] at h
    obtain ⟨_, hck, ⟨cs, hb⟩, e⟩ := h
    cases e
    obtain ⟨l, _, h2⟩ := boxO_some hp hb
    exact ⟨h2.vis.mono hck, h2.lt⟩
  · subst e
    rw [R] at h
    obtain ⟨b', base, l, e, h2, h3, _⟩ := h
    cases e
    obtain ⟨cs', h4, _⟩ := rd_cells h3
    exact ⟨h2.2.2, cells_lt h4⟩
  · subst e
    rw [R] at h
    obtain ⟨_, hck, he⟩ := h
    obtain ⟨e, x, rcs, _, _, hB, _⟩ := elp_row hp hrow he
    cases e
    exact ⟨hB.vis.mono hck, hB.lt⟩
theorem R.visS {c : Ctx} {hm u : Nat} (hp : Hp c hm) {d : DV} {b o n cap q : Nat} (h : R c u false d (.slice b o n cap q)) (hd : ∀ k, d = .own k → nthB c.H k ≠ some .dead) : visM c.lay u b ∧ b < c.nb := by
  cases d <;> simp only [R] at h <;> first | (cases h; done) | skip
  · obtain ⟨rcs, _, _, h3⟩ := h
    rcases h3 with ⟨_, e | ⟨_, e, _⟩⟩ | ⟨b', o', cap', q', e, _, _, h4, h5⟩
    · cases e
    · cases e
    · cases e
      obtain ⟨cs', h6, _⟩ := rd_cells h5
      exact ⟨h4.2.2, cells_lt h6⟩
  · obtain ⟨l, e, _⟩ := h; cases e
  · obtain ⟨l, e, _⟩ := h; cases e
  · obtain ⟨l, m, e, _⟩ := h; cases e
  · rename_i k
    obtain ⟨_, hck, ho⟩ := h
    have key : ∀ nn s rows, (rows ≠ [] → ∃ l, Blk c k l) → OwnV c u nn s k rows (.slice b o n cap q) → visM c.lay u b ∧ b < c.nb := by
      intro nn s rows hb hv
      rcases hv with ⟨_, e | ⟨_, e | ⟨b', o', e, h4, h5⟩⟩⟩ | ⟨e1, q', _, e⟩
      · cases e
      · cases e
      · cases e
        obtain ⟨cs', h6, _⟩ := rd_cells h5
        exact ⟨h4.2.2, cells_lt h6⟩
      · cases e
        obtain ⟨l, hl⟩ := hb e1
        exact ⟨hl.vis.mono hck, hl.lt⟩
    unfold OwnR at ho
    split at ho
    · rename_i e; exact key _ _ _ (fun hne => by obtain ⟨rcs, _, _, h3⟩ := hp.hr k _ e; exact ⟨_, h3 hne⟩) ho
    · rename_i e; exact key _ _ _ (fun hne => by obtain ⟨⟨rcs, _, _, h3⟩, _⟩ := hp.hr k _ e; exact ⟨_, h3 hne⟩) ho
    · rename_i e; exact absurd e (hd k rfl)
    · exact ho.elim
  · obtain ⟨_, _, _, e⟩ := h; cases e
  · obtain ⟨b', base, l, e, _⟩ := h; cases e
  · exact absurd h.2.2.pt (by simp [isPtrV])
theorem inside_ok {hi : Nat} : ∀ {l : List Nat}, (∀ b ∈ l, b < hi) → inside hi l = true
  | [], _ => rfl
  | b :: l, h => by
    simp only [inside]
    rw [bltOf (h b (by simp)), cond_true]
    exact inside_ok (fun x hx => h x (by simp [hx]))

theorem rowsO_notdead {H : VH} {k s : Nat} {rows : List DV} (h : rowsO (nthB H k) = some (s, rows)) : nthB H k ≠ some .dead := by
  intro e; rw [e] at h; simp [rowsO] at h
def TchS (c : Ctx) (u : Nat) (tc : VTc) (t : Tch) : Prop := TcR tc t ∧ ∀ b ∈ tchR t, visM c.lay u b ∧ b < c.nb
theorem tch_none {c : Ctx} {u : Nat} {t : Tch} (h : t = .none) : TchS c u .none t := by subst h; exact ⟨rfl, by simp [tchR]⟩
theorem tch_new {c : Ctx} {u : Nat} {t : Tch} (h : t = .new) : TchS c u .nw t := by subst h; exact ⟨rfl, by simp [tchR]⟩
theorem touch_ok {vt : VTab} {ih : VIh} {T : VT} {H : VH} {k : K} {op : Op} {r : DV} (h : opK vt ih T H k op = some r) (big : Nat) {c : Ctx} {hm u : Nat} {TS : Tbl AV} (hH : c.H = H) (hp : Hp c hm) (hO : Opn c u T TS op.operands.toList) :
    TchS c u (touchV T op) (touch (stab vt big) TS op) := by
  cases op <;> simp only [opK] at h <;> first | (cases h; done) | skip
  case load t x =>
    have hx : ∃ d, opdV T x = some d ∧ ((∃ k o, d = .ptr k o) ∨ (∃ tg cs o, d = .fbp tg cs o) ∨ (∃ k i o s rows, d = .elp k i o ∧ rowsO (nthB c.H k) = some (s, rows))) := by
      unfold loadK at h
      split at h
      · rename_i e _; exact ⟨_, e, .inl ⟨_, _, rfl⟩⟩
      · rename_i e _; exact ⟨_, e, .inr (.inl ⟨_, _, _, rfl⟩)⟩
      · rename_i e _
        unfold loadR at h
        split at h
        · rename_i hrow; exact ⟨_, e, .inr (.inr ⟨_, _, _, _, _, rfl, by rw [hH]; exact hrow⟩)⟩
        · cases h
      · cases h
    obtain ⟨d, h1, h2⟩ := hx
    obtain ⟨a, k1, k2⟩ := hO x (by simp [Op.operands]) d h1
    simp only [touch, k1, touchV]
    cases a <;> simp only [tchP] <;> first | exact ⟨.inl rfl, by simp [tchR]⟩ | skip
    obtain ⟨v1, v2⟩ := R.visP hp k2 h2
    exact ⟨.inr ⟨_, rfl⟩, by simp only [tchR, List.mem_singleton]; rintro b rfl; exact ⟨v1, v2⟩⟩
  case store t x y =>
    have hx : ∃ d, opdV T x = some d ∧ ((∃ k o, d = .ptr k o) ∨ (∃ tg cs o, d = .fbp tg cs o) ∨ (∃ k i o s rows, d = .elp k i o ∧ rowsO (nthB c.H k) = some (s, rows))) := by
      unfold storeK at h
      split at h
      · rename_i e _ _; exact ⟨_, e, .inl ⟨_, _, rfl⟩⟩
      · rename_i b ix o v i e _ _
        unfold storeR at h
        split at h
        · rename_i rs nn s rows _ hrow
          refine ⟨_, e, .inr (.inr ⟨b, ix, o, s, rows, rfl, ?_⟩)⟩
          obtain ⟨_, _, f3, _, f5⟩ := frzAll_ok (owns v) c hp
          rw [← hH] at hrow
          have hl := nthB_lt hrow
          rw [f5] at hl
          have hB : nthB c.H b = some c.H[b] := by rw [nthB_get, List.getElem?_eq_getElem hl]
          rcases f3 b _ hB with e | e
          · rw [hrow, Option.some.injEq] at e
            rw [hB, ← e]; rfl
          · rw [hrow] at e
            rw [hB]
            cases hc : c.H[b] <;> rw [hc] at e <;> simp [frzB] at e
        · cases h
      · cases h
    obtain ⟨d, h1, h2⟩ := hx
    obtain ⟨a, k1, k2⟩ := hO x (by simp [Op.operands]) d h1
    simp only [touch, k1, touchV]
    cases a <;> simp only [tchP] <;> first | (refine ⟨by simp [TcR], ?_⟩; intro b hb; simp [tchR] at hb; done) | skip
    obtain ⟨v1, v2⟩ := R.visP hp k2 h2
    exact ⟨by simp [TcR], by simp only [tchR, List.mem_singleton]; rintro b rfl; exact ⟨v1, v2⟩⟩
  case call q =>
    unfold callOpK at h
    split at h
    · rename_i f hf
      simp only [touch, tchC, hf, touchV]
      have hops : (Op.call q).operands.toList = f :: q.args.toList := by simp [Op.operands, Call.operands, hf]
      rw [hops] at hO
      unfold callK at h
      split at h
      · rename_i ds g fs caps _ hfv
        obtain ⟨fa, k1, k2⟩ := hO f (by simp) _ hfv
        simp only [R] at k2
        obtain ⟨x, y, rfl, _, _⟩ := k2
        unfold call2V at h
        split at h
        · cases hsh : vt.tab.shares g with
          | true => rw [hsh] at h; cases h
          | false =>
            have : (stab vt big).shares g = false := hsh
            simp only [k1, tchCall, this, cond_false]
            exact ⟨rfl, by simp [tchR]⟩
        · cases h
      · cases h
    · rename_i b hb
      have hops : (Op.call q).operands.toList = q.args.toList := by simp [Op.operands, Call.operands, hb]
      rw [hops] at hO
      cases b <;> simp only [builtinK] at h <;> first | (cases h; done) | skip
      case append =>
        simp only [touch, tchC, hb, touchV]
        unfold appK at h
        split at h
        · rename_i x y hxy
          obtain ⟨as, k1, k2⟩ := opdsV_ok hO (fun x hx => hx) hxy
          rw [RL] at k2
          obtain ⟨a, r1, rfl, k3, k4⟩ := k2
          rw [RL] at k4
          obtain ⟨b, r2, rfl, k5, k6⟩ := k4
          simp only [RL] at k6
          subst k6
          have hlive : (∀ j, x = .own j → nthB c.H j ≠ some .dead) ∧ (∀ j, y = .own j → nthB c.H j ≠ some .dead) := by
            split at h
            · cases hsl : isSlT (vt.tab.ty _) with
              | false => rw [hsl] at h; cases h
              | true =>
                rw [hsl, cond_true] at h
                unfold app1 at h
                split at h
                · rename_i i _
                  cases hok : appOk i with
                  | false => rw [hok] at h; cases h
                  | true =>
                    rw [hok, cond_true] at h
                    have h3 : ∀ {s : Nat} {new : List DV}, app3 s H k x new = some r → ∀ j, x = .own j → nthB c.H j ≠ some .dead := by
                      intro s new h j e
                      subst e
                      simp only [app3] at h
                      rw [hH]
                      intro e2
                      rw [e2] at h
                      cases h
                    split at h
                    · exact ⟨h3 h, fun j e => by cases e⟩
                    · unfold app2 at h
                      split at h
                      · rename_i s' new hrow
                        cases hs : Nat.beq i.size s' with
                        | false => rw [hs] at h; cases h
                        | true =>
                          rw [hs, cond_true] at h
                          refine ⟨h3 h, fun j e => ?_⟩
                          subst e
                          simp only [rowsV] at hrow
                          rw [hH]
                          exact rowsO_notdead hrow
                      · cases h
                · cases h
            · cases h
          rw [k1]
          have va : ∀ {b' o n cap q}, a = .slice b' o n cap q → visM c.lay u b' ∧ b' < c.nb := fun e => by subst e; exact R.visS hp k3 hlive.1
          have vb : ∀ {b' o n cap q}, b = .slice b' o n cap q → visM c.lay u b' ∧ b' < c.nb := fun e => by subst e; exact R.visS hp k5 hlive.2
          unfold tchApp
          split
          · rename_i e; cases e
            refine ⟨by simp [TcR], ?_⟩
            simp only [tchR, List.mem_cons, List.not_mem_nil, or_false]
            rintro z (rfl | rfl)
            · exact va rfl
            · exact vb rfl
          · rename_i e; cases e
            refine ⟨by simp [TcR], ?_⟩
            simp only [tchR, List.mem_cons, List.not_mem_nil, or_false]
            rintro z (rfl | rfl) <;> exact va rfl
          · rename_i e; cases e
            refine ⟨by simp [TcR], ?_⟩
            simp only [tchR, List.mem_cons, List.not_mem_nil, or_false]
            rintro z rfl; exact vb rfl
          · exact ⟨by simp [TcR], by simp [tchR]⟩
        · cases h
      all_goals (simp only [touch, tchC, hb, touchV]; exact tch_none rfl)
    · cases h
  case alloc => exact tch_new rfl
  case box => exact tch_new rfl
  case buildSlice => exact tch_new rfl
  case makeSlice => exact tch_new rfl
  all_goals exact tch_none rfl
theorem touchB_ok {big : Nat} {vt : VTab} {T : VT} {op : Op} {c : Ctx} {u : Nat} {TS : Tbl AV} (hO : Opn c u T TS op.operands.toList) : TbR c (touchB T op) (touch (stab vt big) TS op) := by
  have key : ∀ x, x ∈ op.operands.toList → ∀ k, ptrK (opdV T x) = some k → ∃ o, opd TS x = some (.ptr (c.ρ k) o) ∧ PtrR c k o (.ptr (c.ρ k) o) := by
    intro x hx k hk
    cases e : opdV T x with
    | none => rw [e] at hk; simp [ptrK] at hk
    | some d =>
      rw [e] at hk
      cases d <;> simp only [ptrK, Option.some.injEq, reduceCtorEq] at hk
      subst hk
      rename_i o
      obtain ⟨a, h1, h2⟩ := hO x hx _ e
      rw [R] at h2
      obtain ⟨_, _, h3⟩ := h2
      have := h3.2
      subst this
      exact ⟨o, h1, h3⟩
  intro k hk
  cases op <;> simp only [touchB, reduceCtorEq] at hk
  case load t x =>
    obtain ⟨o, h1, h2⟩ := key x (by simp [Op.operands]) k hk
    exact .inr ⟨.inl (by simp only [touch, h1, tchP]), o, h2⟩
  case store t x y =>
    obtain ⟨o, h1, h2⟩ := key x (by simp [Op.operands]) k hk
    exact .inr ⟨.inr (by simp only [touch, h1, tchP]), o, h2⟩
end Go.Vx
/- V, text G: drawn regions, code. -/
namespace Go.Vx
open Go.Sx

theorem resM_eq (i m u : Nat) (tc : VTc) : rmO (some i) m u tc = resM i m u tc := by cases tc <;> rfl
theorem hmM_eq (i u hm : Nat) (tc : VTc) : hmO (some i) u hm tc = hmM i u hm tc := by cases tc <;> rfl
theorem pvf_put {pv : Tbl Nat} {m : Nat} {d : Option Tmp} : pvf (putM pv m d) = fun t => if d = some t then m else pvf pv t := by
  funext t
  cases d with
  | none => simp [putM]
  | some d =>
    simp only [putM, pvf]
    rw [Tbl.get_set]
    by_cases e : t = d
    · subst e; simp
    · rw [if_neg e, if_neg (by simpa using fun e' => e e'.symm)]
theorem drawOkV_apart {c : Ctx} {hm0 : Nat} (hp : Hp c hm0) {bk : Option Nat} {m u : Nat} {dv : List VDn} {tc : VTc} {t : Tch} (h : drawOkV m u c.H bk dv tc = true) (ht : TcR tc t) (htb : TbR c bk t) : ∀ v ∈ dv, m.testBit v.ix = false → ∀ t', TcR v.tc t' → TbR c v.bk t' → apart t t' = true := by
  intro v hv hm t' ht' htb'
  cases hdb : diffB c.H bk v.bk with
  | true => exact diffB_apart hp hdb htb htb'
  | false => ?_
  cases tc with
  | none => simp only [TcR] at ht; subst ht; cases t' <;> rfl
  | nw =>
    simp only [TcR] at ht; subst ht
    cases hvt : v.tc <;> rw [hvt] at ht' <;> simp only [TcR] at ht'
    · subst ht'; rfl
    · rcases ht' with e | ⟨b, e⟩ <;> subst e <;> rfl
    · cases t' <;> first | rfl | exact absurd rfl ht'
    · subst ht'; rfl
    · subst ht'; rfl
  | rd =>
    simp only [drawOkV, Bool.and_eq_true] at h
    have := allIn_mem h.2 v hv hm hdb
    have hnw : t' = .none ∨ (∃ b, t' = .rdB b) ∨ t' = .cal ∨ t' = .new := by
      cases hvt : v.tc <;> rw [hvt] at ht' this <;> simp only [TcR] at ht'
      · exact .inl ht'
      · rcases ht' with e | e
        · exact .inl e
        · exact .inr (.inl e)
      · simp [tWr] at this
      · exact .inr (.inr (.inl ht'))
      · exact .inr (.inr (.inr ht'))
    rcases ht with e | ⟨b, e⟩ <;> subst e <;> rcases hnw with e | ⟨b', e⟩ | e | e <;> subst e <;> rfl
  | cal =>
    simp only [drawOkV, Bool.and_eq_true] at h
    have := allIn_mem h.2 v hv hm hdb
    have hnw : t' = .none ∨ (∃ b, t' = .rdB b) ∨ t' = .cal ∨ t' = .new := by
      cases hvt : v.tc <;> rw [hvt] at ht' this <;> simp only [TcR] at ht'
      · exact .inl ht'
      · rcases ht' with e | e
        · exact .inl e
        · exact .inr (.inl e)
      · simp [tWr] at this
      · exact .inr (.inr (.inl ht'))
      · exact .inr (.inr (.inr ht'))
    simp only [TcR] at ht
    subst ht
    rcases hnw with e | ⟨b', e⟩ | e | e <;> subst e <;> rfl
  | wr =>
    simp only [drawOkV, Bool.and_eq_true] at h
    have := allIn_mem h.2 v hv hm hdb
    have hnw : t' = .none ∨ t' = .new := by
      cases hvt : v.tc <;> rw [hvt] at ht' this <;> simp only [TcR] at ht' <;> first | exact .inl ht' | exact .inr ht' | (simp [tAny] at this)
    simp only [TcR] at ht
    rcases hnw with e | e <;> subst e <;> cases t <;> first | rfl | exact absurd rfl ht
theorem drawK_ok {vt : VTab} {ih : VIh} (hC : CallS vt ih.call) (hkeep : VOK vt) {ops : List Oper} : ∀ {l : List Oper} {bf : List Nat} {i : Nat} {dv : List VDn} {pv : Tbl Nat} {hm : Nat} {T : VT} {H : VH} {k : KT} {r : DV}, drawK vt ih ops l bf i dv pv hm T H k = some r →
    ∃ T' H' n0, k T' H' = some r ∧ ∀ n, n0 ≤ n → ∀ big, n0 ≤ big → ∀ (c : Ctx) (TS : Tbl AV) (ds : List Done), c.H = H → Hp c hm → TRel c (pvf pv) T TS → DI c ds → DsR c dv ds →
      ∃ TS' c' pv' hm', drawRun (stab vt big) (ev (stab vt big) n) c.E ops l bf i ds TS c.M = some (TS', c'.M) ∧ c'.H = H' ∧ Hp c' hm' ∧ TRel c' pv' T' TS' ∧ Ste c c' n0
  | [], bf, i, dv, pv, hm, T, H, k, r, h => ⟨T, H, 0, by simpa only [drawK] using h, fun n _ big _ c TS ds hH hp ht _ _ => ⟨TS, c, pvf pv, hm, by simp only [drawRun], hH, hp, ht, Ste.refl c 0⟩⟩
  | o :: l, [], i, dv, pv, hm, T, H, k, r, h => by simp [drawK] at h
  | o :: l, m :: bf, i, dv, pv, hm, T, H, k, r, h => by
    simp only [drawK] at h
    obtain ⟨T1, hT1, hg⟩ := guardK_ok h
    rcases hg with ⟨hy, hw⟩ | ⟨hn, hw⟩
    · cases hd : drawOkV m (usedM T1 pv hm o.op) H (touchB T1 o.op) dv (touchV T1 o.op) with
      | false => rw [hd] at hy; cases hy
      | true =>
        rw [hd, cond_true] at hy
        obtain ⟨v, H1, n1, h1, h2⟩ := opK_ok hC hkeep hy
        obtain ⟨T', H', n2, h3, h4⟩ := drawK_ok hC hkeep h1
        refine ⟨T', H', n1 + n2, h3, fun n hn big hb c TS ds hH hp hF hDI hDs => ?_⟩
        have hTR := hT1 c _ TS hF
        generalize hu : usedM T1 pv hm o.op = u at hd h1 h4
        have hO : Opn c u T1 TS o.op.operands.toList := opn_of hTR (fun t ht => by
          rw [← hu]; unfold usedM; exact Sub.trans (maskL_sub ht) (Sub.orl _ _))
        have hOw : hasOwn T1 o.op.operands.toList = true → Sub hm u := fun e => by
          rw [← hu]; unfold usedM; rw [e, cond_true]; exact Sub.orr _ _
        obtain ⟨t1, t2⟩ := touch_ok hy big hH hp hO
        have hsubm : (tchR (touch (stab vt big) TS o.op) ≠ [] ∨ touchV T1 o.op = .cal) → Sub u m := by
          intro hne
          cases htc : touchV T1 o.op with
          | none =>
            rw [htc] at t1 hne
            simp only [TcR] at t1
            rcases hne with hne | hne
            · rw [t1] at hne; exact absurd rfl hne
            · cases hne
          | nw =>
            rw [htc] at t1 hne
            simp only [TcR] at t1
            rcases hne with hne | hne
            · rw [t1] at hne; exact absurd rfl hne
            · cases hne
          | rd => rw [htc] at hd; simp only [drawOkV, Bool.and_eq_true] at hd; exact subM_iff hd.1
          | wr => rw [htc] at hd; simp only [drawOkV, Bool.and_eq_true] at hd; exact subM_iff hd.1
          | cal => rw [htc] at hd; simp only [drawOkV, Bool.and_eq_true] at hd; exact subM_iff hd.1
        obtain ⟨a, c1, j1, j2⟩ := h2 n (by omega) big (by omega) c hm u m (some i) (hidden m ds) TS hH hp hO hOw (fun hc => ⟨fun b _ hvb => hidden_vis hDI.l2 (hsubm (.inr hc)) hvb, fun b _ hh j hj => by
          obtain ⟨d, d1, d2, d3, d4⟩ := hDI.l1 b j hj
          rw [← d2]
          exact vis_hidden hh d d1 d3 d4⟩)
        rw [resM_eq, hmM_eq] at j2
        have hTR1 : TRel c1 (pvf (putM pv (resM i m u (touchV T1 o.op)) o.dst)) (putV T1 v o.dst) (putT TS a o.dst) := by
          rw [pvf_put]
          exact (hTR.mono j2.ext).put j2.r o.dst
        have hnb : c1.nb = c.E.m0 + c1.M.n := by unfold Ctx.nb; rw [j2.E]
        have hDI1 : DI c1 (note i (touch (stab vt big) TS o.op) (c.E.m0 + c.M.n) (c.E.m0 + c1.M.n) ds) := by
          have hle : c.nb ≤ c1.nb := by rw [hnb]; unfold Ctx.nb; have := j2.n1; omega
          refine ⟨fun b j hj => ?_, fun d hd b q1 q2 => ?_, fun d hd => ?_⟩
          · by_cases hin : c.nb ≤ b ∧ b < c1.nb
            · rw [j2.lay2 b hin.1 hin.2] at hj
              cases hj
              exact ⟨_, List.mem_cons_self, rfl, hin.1, by rw [hnb] at hin; exact hin.2⟩
            · rw [j2.lay1 b (by omega)] at hj
              obtain ⟨d, d1, d2⟩ := hDI.l1 b j hj
              exact ⟨d, List.mem_cons_of_mem _ d1, d2⟩
          · rcases List.mem_cons.1 hd with rfl | hd
            · exact j2.lay2 b q1 (by rw [hnb]; exact q2)
            · have := hDI.hi d hd
              rw [j2.lay1 b (.inl (by omega))]
              exact hDI.l2 d hd b q1 q2
          · rcases List.mem_cons.1 hd with rfl | hd
            · rw [hnb]; exact Nat.le_refl _
            · exact Nat.le_trans (hDI.hi d hd) hle
        obtain ⟨TS', c', pv', hm', q1, q2, q3, q4, q5⟩ := h4 n (by omega) big (by omega) c1 (putT TS a o.dst) _ j2.H j2.hp hTR1 hDI1 (DsR.cons rfl t1 ((touchB_ok hO).mono (fun k o a h => (j2.ext 0).box k o a h)) (hDs.mono (fun k o a h => (j2.ext 0).box k o a h)))
        refine ⟨TS', c', pv', hm', ?_, q2, q3, q4, (j2.ste).trans q5⟩
        simp only [drawRun]
        rw [hw c _ TS hF, cond_true]
        simp only [draw1]
        have hap := apartAll_ok (t := touch (stab vt big) TS o.op) hDs hDI.l2 (fun hne => hsubm (.inl hne)) (fun b hb => (t2 b hb).1) (drawOkV_apart hp (by rw [hH]; exact hd) t1 (touchB_ok hO))
        have hin : inside (c.E.m0 + c.M.n) (tchR (touch (stab vt big) TS o.op)) = true := inside_ok (fun b hb => (t2 b hb).2)
        rw [hap, hin, Bool.and_self, cond_true, j1]
        simp only [drawNext]
        rw [Nat.ble_eq_true_of_le j2.n1, cond_true]
        rw [j2.E] at q1
        exact q1
    · obtain ⟨T', H', n2, h3, h4⟩ := drawK_ok hC hkeep hn
      refine ⟨T', H', n2, h3, fun n hn big hb c TS ds hH hp hF hDI hDs => ?_⟩
      have hTR := hT1 c _ TS hF
      have hTR1 : TRel c (pvf (putM pv 0 o.dst)) (putV T1 .undef o.dst) (putT TS .undef o.dst) := by
        rw [pvf_put]
        exact hTR.put (m := 0) (v := .undef) (a := .undef) (by simp only [R]) o.dst
      obtain ⟨TS', c', pv', hm', q1, q2⟩ := h4 n hn big hb c _ ds hH hp hTR1 hDI hDs
      refine ⟨TS', c', pv', hm', ?_, q2⟩
      simp only [drawRun]
      rw [hw c _ TS hF, cond_false]
      exact q1
/-- A region. -/
theorem region_ok {vt : VTab} {ih : VIh} (hC : CallS vt ih.call) (hkeep : VOK vt) {ops : Array Oper} {draw : Bool} {T : VT} {H : VH} {k : KT} {r : DV}
    (h : (bif draw then drawK vt ih ops.toList ops.toList (Region.before ops).toList 0 [] .leaf 0 T H k else opsK vt ih ops.toList ops.toList T H k) = some r) :
    ∃ T' H' n0, k T' H' = some r ∧ ∀ n, n0 ≤ n → ∀ big, n0 ≤ big → ∀ (c : Ctx) (TS : Tbl AV), c.H = H → FS c T TS →
      ∃ TS' c', (bif draw then drawEnd (stab vt big) c.M.n (drawRun (stab vt big) (ev (stab vt big) n) c.E ops.toList ops.toList (Region.before ops).toList 0 [] TS c.M) else opsRun (stab vt big) (ev (stab vt big) n) c.E ops.toList ops.toList TS c.M) = some (TS', c'.M) ∧ c'.H = H' ∧ FS c' T' TS' ∧ Ste c c' n0 := by
  cases draw with
  | false =>
    rw [cond_false] at h
    exact opsK_ok hC hkeep h
  | true =>
    rw [cond_true] at h
    obtain ⟨T', H', n0, h1, h2⟩ := drawK_ok hC hkeep h
    refine ⟨T', H', n0, h1, fun n hn big hb c TS hH hF => ?_⟩
    obtain ⟨TS', c', pv', hm', q1, q2, q3, q4, q5⟩ := h2 n hn big hb c TS [] hH hF.hp hF.tr ⟨fun b j hj => (by rw [hF.lay] at hj; cases hj), fun d hd => by simp at hd, fun d hd => by simp at hd⟩ DsR.nil
    refine ⟨TS', c'.forget, ?_, q2, FS.of q3 q4, ⟨q5.E, q5.Ta, q5.Bq, q5.n1, q5.n2⟩⟩
    rw [cond_true, q1]
    simp only [drawEnd]
    have e : (stab vt big).big = big := rfl
    rw [e, Nat.ble_eq_true_of_le (by have := q5.n2; omega), cond_true]
    rfl
end Go.Vx
/- V, text H: a loop's head: the state in its one form. -/
namespace Go.Vx
open Go.Sx

/-- A step of V's alone. -/
structure Vst (c c' : Ctx) : Prop where
  E : c'.E = c.E
  M : c'.M = c.M
  Ta : c'.Ta = c.Ta
  Bq : c'.B = c.B
  lay : c'.lay = c.lay
  ext : ∀ m, Ext c c' m m
  hp : Hp c' 0
  ck : ∀ k, c'.ck k = 0
theorem coV_ok {s : Nat} {co : Co} {H : VH} {v : DV} {k : DV → VH → Res} {r : DV} (h : coV s co H v k = some r) :
    ∃ v' H', k v' H' = some r ∧ ∀ (c : Ctx) (a : AV), c.H = H → Hp c 0 → (∀ k, c.ck k = 0) → R c 0 false v a → ∃ c', Vst c c' ∧ c'.H = H' ∧ R c' 0 false v' a ∧ (∀ b cs, nthB c.H b = some (.box cs) → nthB H' b = some (.box cs)) := by
  unfold coV at h
  split at h
  · rename_i s
    split at h
    · refine ⟨_, _, h, fun c a hH hp hck hr => ?_⟩
      subst hH
      simp only [R] at hr
      subst hr
      obtain ⟨h1, h2⟩ := virt_ok hp true s 0
      have hpost := virt_post (li := none) (u := 0) (s := s) (nn := true) (a := .nils) hp (.inl rfl)
      refine ⟨c.virt (.row true s []) 0, ⟨rfl, rfl, rfl, rfl, rfl, h1, h2, fun k => ?_⟩, rfl, hpost.r, fun b cs hb => ?_⟩
      · show updN c.ck c.H.length 0 k = 0
        unfold updN; split <;> first | rfl | exact hck k
      · rw [nthB_push, if_neg (by have := nthB_lt hb; omega)]; exact hb
    · refine ⟨_, _, h, fun c a hH hp hck hr => ⟨c, ⟨rfl, rfl, rfl, rfl, rfl, fun m => Ext.refl c m, hp, hck⟩, hH, hr, fun b cs hb => by rw [← hH]; exact hb⟩⟩
    · cases h
  · rename_i s
    split at h
    · refine ⟨_, _, h, fun c a hH hp hck hr => ⟨c, ⟨rfl, rfl, rfl, rfl, rfl, fun m => Ext.refl c m, hp, hck⟩, hH, ?_, fun b cs hb => by rw [← hH]; exact hb⟩⟩
      simp only [R] at hr ⊢
      exact ⟨[], by simp [RRows], by simp, .inl ⟨rfl, .inl hr⟩⟩
    · rename_i ex s' rows
      cases hs : Nat.beq s s' with
      | false => rw [hs] at h; cases h
      | true =>
        rw [hs, cond_true] at h
        have := Nat.eq_of_beq_eq_true hs
        subst this
        refine ⟨_, _, h, fun c a hH hp hck hr => ⟨c, ⟨rfl, rfl, rfl, rfl, rfl, fun m => Ext.refl c m, hp, hck⟩, hH, ?_, fun b cs hb => by rw [← hH]; exact hb⟩⟩
        simp only [R] at hr ⊢
        obtain ⟨rcs, h1, h2, h3⟩ := hr
        exact ⟨rcs, h1, h2, h3.tag rfl⟩
    · rename_i b
      split at h
      · rename_i s' rows hrow
        cases hs : Nat.beq s s' with
        | false => rw [hs] at h; cases h
        | true =>
          rw [hs, cond_true] at h
          have := Nat.eq_of_beq_eq_true hs
          subst this
          refine ⟨_, _, h, fun c a hH hp hck hr => ?_⟩
          subst hH
          obtain ⟨g1, g2, g3, g4, g5⟩ := frz_hand hp 0 [b]
          rw [R] at hr
          obtain ⟨_, hckb, ho⟩ := hr
          obtain ⟨nn, o1, o2⟩ := own_rows hp hrow ho
          have hl := o1.list g1 (.inr (by simp)) (rowsO_B hrow) o2 hckb (Sub.refl 0)
          refine ⟨c.withH (frzAt c.H b), ⟨rfl, rfl, rfl, rfl, rfl, g2, g3, hck⟩, rfl, hl.thaw, fun b' cs hb => ?_⟩
          have hne : b' ≠ b := by
            intro e; subst e; rw [hb] at hrow; simp [rowsO] at hrow
          unfold frzAt
          cases hbb : nthB c.H b with
          | none => exact hb
          | some B => simp only []; rw [nthB_set hbb, if_neg hne]; exact hb
      · cases h
    · cases h
theorem Vst.trans {c c' c'' : Ctx} (h : Vst c c') (k : Vst c' c'') (hs : ∀ j x, nthB c.H j = some x → ∃ y, nthB c'.H j = some y) : Vst c c'' :=
  ⟨k.E.trans h.E, k.M.trans h.M, k.Ta.trans h.Ta, k.Bq.trans h.Bq, k.lay.trans h.lay, Ext.trans h.ext k.ext hs, k.hp, k.ck⟩
theorem Vst.has {c c' : Ctx} (h : Vst c c') (hl : c.H.length ≤ c'.H.length) : ∀ j x, nthB c.H j = some x → ∃ y, nthB c'.H j = some y := fun j x hx => by
  have := nthB_lt hx
  rw [nthB_get]
  exact ⟨_, List.getElem?_eq_getElem (by omega)⟩
theorem coV_len {s : Nat} {co : Co} {H : VH} {v : DV} {k : DV → VH → Res} {r : DV} (h : coV s co H v k = some r) : ∃ v' H', k v' H' = some r ∧ H.length ≤ H'.length := by
  unfold coV at h
  split at h
  · split at h
    · exact ⟨_, _, h, by unfold pushB; simp⟩
    · exact ⟨_, _, h, Nat.le_refl _⟩
    · cases h
  · split at h
    · exact ⟨_, _, h, Nat.le_refl _⟩
    · rename_i s' _
      cases hs : Nat.beq _ s' <;> rw [hs] at h
      · cases h
      · exact ⟨_, _, h, Nat.le_refl _⟩
    · split at h
      · rename_i s' rows _
        cases hs : Nat.beq _ s' <;> rw [hs] at h
        · cases h
        · refine ⟨_, _, h, ?_⟩
          unfold frzAt
          split
          · rw [setB_set]; simp
          · exact Nat.le_refl _
      · cases h
    · cases h
theorem Ext_has {c c' : Ctx} {m : Nat} (h : Ext c c' m m) : True := trivial
theorem coK_ok : ∀ {l : List CoS} {T : VT} {H : VH} {k : VT → VH → Res} {r : DV}, coK l T H k = some r →
    ∃ T' H', k T' H' = some r ∧ ∀ (c : Ctx) (TS : Tbl AV), c.H = H → Hp c 0 → (∀ k, c.ck k = 0) → TRel c (fun _ => 0) T TS → ∃ c', c'.E = c.E ∧ c'.M = c.M ∧ c'.Ta = c.Ta ∧ c'.B = c.B ∧ c'.lay = c.lay ∧ Hp c' 0 ∧ (∀ k, c'.ck k = 0) ∧ c'.H = H' ∧ TRel c' (fun _ => 0) T' TS
  | [], T, H, k, r, h => ⟨T, H, h, fun c TS hH hp hck ht => ⟨c, rfl, rfl, rfl, rfl, rfl, hp, hck, hH, ht⟩⟩
  | q :: l, T, H, k, r, h => by
    simp only [coK] at h
    split at h
    · cases h
    · rename_i v hv
      split at h
      · obtain ⟨v', H1, h1, h2⟩ := coV_ok h
        obtain ⟨T', H', h3, h4⟩ := coK_ok h1
        refine ⟨T', H', h3, fun c TS hH hp hck ht => ?_⟩
        obtain ⟨a, k1, k2⟩ := ht _ v hv
        obtain ⟨c1, j1, j2, j3, j4⟩ := h2 c a hH hp hck k2
        have ht1 : TRel c1 (fun _ => 0) (T.set q.t v') TS := by
          intro t w hw
          rw [Tbl.get_set] at hw
          by_cases e : t = q.t
          · subst e
            rw [if_pos rfl] at hw; cases hw
            exact ⟨a, k1, j3⟩
          · rw [if_neg e] at hw
            exact ht.mono j1.ext t w hw
        obtain ⟨c', e1, e2, e3, e4, e5, e6⟩ := h4 c1 TS j2 j1.hp j1.ck ht1
        exact ⟨c', e1.trans j1.E, e2.trans j1.M, e3.trans j1.Ta, e4.trans j1.Bq, e5.trans j1.lay, e6⟩
      · rename_i o _
        split at h
        · rename_i b p
          split at h
          · rename_i cs hb
            unfold coBox at h
            split at h
            · rename_i w hw
              obtain ⟨v', H1, h1, h2⟩ := coV_ok h
              obtain ⟨T', H', h3, h4⟩ := coK_ok h1
              refine ⟨T', H', h3, fun c TS hH hp hck ht => ?_⟩
              obtain ⟨a, k1, k2⟩ := ht _ _ hv
              subst hH
              obtain ⟨ll, b1, b2⟩ := hp.hr b _ hb
              have b1' : RL c 0 false cs ll := b1.sub (by rw [hck]; exact Sub.refl 0)
              obtain ⟨aw, g1, g2⟩ := b1'.get hw
              obtain ⟨c1, j1, j2, j3, j4⟩ := h2 c aw rfl hp hck g2
              have hb1 : nthB c1.H b = some (.box cs) := by rw [j2]; exact j4 b cs hb
              obtain ⟨ll1, d1, d2⟩ := j1.hp.hr b _ hb1
              have d1' : RL c1 0 false cs ll1 := d1.sub (by rw [j1.ck]; exact Sub.refl 0)
              have hll : ll1 = ll := by
                have e1 := d2.cells
                have hpt := (j1.ext 0).box b 0 (.ptr (c.ρ b) 0) ⟨⟨cs, by rw [hb]; rfl⟩, rfl⟩
                obtain ⟨_, e2⟩ := hpt
                have e3 : c.ρ b = c1.ρ b := by injection e2
                rw [← e3, j1.E, j1.M, b2.cells] at e1
                injection e1 with e1
                exact e1.symm
              subst hll
              have hK : Kin (.box cs) (.box (spliceD cs (p + o) [v'])) := trivial
              have hX := fun m => upd_ext j1.hp hb1 hK (.inl rfl) m
              have hsp : splice ll1 (p + o) [aw] = ll1 := by
                obtain ⟨q1, q2⟩ := List.getElem?_eq_some_iff.1 g1
                unfold splice
                rw [List.append_assoc]
                have : [aw] ++ ll1.drop (p + o + [aw].length) = ll1.drop (p + o) := by
                  rw [List.drop_eq_getElem_cons q1, q2]; rfl
                rw [this, List.take_append_drop]
              have hR : RL (c1.upd b (.box (spliceD cs (p + o) [v'])) c1.M) 0 false (spliceD cs (p + o) [v']) ll1 := by
                have := RL.splice (o := p + o) (RL.mono (hX 0) _ _ _ d1') (RL.one (R.mono (hX 0) _ _ _ j3))
                rw [hsp] at this
                exact this
              have hp2 := upd_hp j1.hp (Sub.refl 0) hb1 hK (.inl rfl) (⟨ll1, hR.sub (sub_zero _), d2.keep rfl rfl rfl d2.get rfl⟩ : HRk (c1.upd b (.box (spliceD cs (p + o) [v'])) c1.M) 0 b (.box (spliceD cs (p + o) [v'])))
              have ht2 : TRel (c1.upd b (.box (spliceD cs (p + o) [v'])) c1.M) (fun _ => 0) T TS := (ht.mono j1.ext).mono hX
              obtain ⟨c', e1, e2, e3, e4, e5, e6⟩ := h4 (c1.upd b (.box (spliceD cs (p + o) [v'])) c1.M) TS (by show setB c1.H b _ = _; rw [j2]) hp2 j1.ck ht2
              exact ⟨c', e1.trans j1.E, e2.trans j1.M, e3.trans j1.Ta, e4.trans j1.Bq, e5.trans j1.lay, e6⟩
            · cases h
          · cases h
        · cases h

/-! ### Renumbering -/
theorem posN_ok : ∀ {l : List Nat} {b : Nat}, b ∈ l → l[posN l b]? = some b
  | x :: l, b, h => by
    simp only [posN]
    cases hx : Nat.beq x b with
    | true => have := Nat.eq_of_beq_eq_true hx; subst this; rfl
    | false =>
      rw [cond_false]
      have hne : b ≠ x := fun e => by subst e; rw [Nat.beq_refl] at hx; cases hx
      simpa using posN_ok ((List.mem_cons.1 h).resolve_left hne)
theorem takeB_get (H : VH) (σ : Nat → Nat) : ∀ (l : List Nat) (i : Nat), nthB (takeB H σ l) i = (l[i]?).map (fun b => renB σ (nthB H b))
  | [], i => by simp [takeB, nthB]
  | b :: l, 0 => by simp [takeB, nthB]
  | b :: l, i + 1 => by simp [takeB, nthB, takeB_get H σ l i]
theorem memN_mem {b : Nat} : ∀ {l : List Nat}, memN b l = true ↔ b ∈ l
  | [] => by simp [memN]
  | x :: l => by
    simp only [memN, List.mem_cons]
    cases h : Nat.beq x b with
    | true => simp [Nat.eq_of_beq_eq_true h]
    | false => simp only [cond_false, memN_mem (l := l)]; exact ⟨.inr, fun e => e.resolve_left (fun e' => by subst e'; rw [Nat.beq_refl] at h; cases h)⟩
theorem reachV_ok {H : VH} : ∀ (n : Nat) (found todo res : List Nat), reachV H n found todo = some res → found.Nodup → (∀ b ∈ found, ∀ i ∈ boxIds (nthB H b), i ∈ found ∨ i ∈ todo) →
    res.Nodup ∧ (∀ b ∈ found, b ∈ res) ∧ (∀ b ∈ todo, b ∈ res) ∧ (∀ b ∈ res, ∀ i ∈ boxIds (nthB H b), i ∈ res)
  | 0, _, _, _, h, _, _ => by simp [reachV] at h
  | n + 1, found, [], res, h, hd, hc => by
    simp only [reachV, Option.some.injEq] at h; subst h
    exact ⟨hd, fun b hb => hb, by simp, fun b hb i hi => (hc b hb i hi).resolve_right (by simp)⟩
  | n + 1, found, b :: todo, res, h, hd, hc => by
    simp only [reachV] at h
    cases hm : memN b found with
    | true =>
      rw [hm, cond_true] at h
      have hb := memN_mem.1 hm
      obtain ⟨r1, r2, r3, r4⟩ := reachV_ok n found todo res h hd (fun k hk i hi => by
        rcases hc k hk i hi with e | e
        · exact .inl e
        · rcases List.mem_cons.1 e with rfl | e
          · exact .inl hb
          · exact .inr e)
      exact ⟨r1, r2, fun k hk => by
        rcases List.mem_cons.1 hk with rfl | hk
        · exact r2 _ hb
        · exact r3 k hk, r4⟩
    | false =>
      rw [hm, cond_false] at h
      have hb : b ∉ found := fun e => by rw [memN_mem.2 e] at hm; cases hm
      obtain ⟨r1, r2, r3, r4⟩ := reachV_ok n (found ++ [b]) (todo ++ boxIds (nthB H b)) res h (by
        rw [List.nodup_append]
        refine ⟨hd, by simp, fun x hx y hy => ?_⟩
        simp only [List.mem_singleton] at hy
        subst hy
        exact fun e => hb (e ▸ hx)) (fun k hk i hi => by
        rcases List.mem_append.1 hk with hk | hk
        · rcases hc k hk i hi with e | e
          · exact .inl (by simp [e])
          · rcases List.mem_cons.1 e with rfl | e
            · exact .inl (by simp)
            · exact .inr (by simp [e])
        · simp only [List.mem_singleton] at hk
          subst hk
          exact .inr (by simp [hi]))
      exact ⟨r1, fun k hk => r2 k (by simp [hk]), fun k hk => by
        rcases List.mem_cons.1 hk with rfl | hk
        · exact r2 _ (by simp)
        · exact r3 k (by simp [hk]), r4⟩
def Ctx.renum (c : Ctx) (found : List Nat) : Ctx := { c with H := takeB c.H (posN found) found, ρ := fun i => c.ρ (found[i]?.getD 0), ck := fun _ => 0 }
theorem renum_get {c : Ctx} {found : List Nat} {b : Nat} (hb : b ∈ found) : nthB (c.renum found).H (posN found b) = some (renB (posN found) (nthB c.H b)) ∧ (c.renum found).ρ (posN found b) = c.ρ b := by
  have := posN_ok hb
  refine ⟨?_, ?_⟩
  · show nthB (takeB c.H _ found) _ = _
    rw [takeB_get, this]; rfl
  · show c.ρ (found[posN found b]?.getD 0) = _
    rw [this]; rfl
theorem renum_mut {c : Ctx} {found : List Nat} {i : Nat} (h : Mutk (c.renum found).H i) : ∃ b, found[i]? = some b ∧ Mutk c.H b := by
  unfold Mutk at h
  have e : nthB (c.renum found).H i = (found[i]?).map (fun b => renB (posN found) (nthB c.H b)) := takeB_get _ _ _ _
  rw [e] at h
  cases hf : found[i]? with
  | none => rw [hf] at h; exact h.elim
  | some b =>
    rw [hf, Option.map_some] at h
    refine ⟨b, rfl, ?_⟩
    unfold Mutk
    cases hB : nthB c.H b with
    | none => rw [hB] at h; simp [renB] at h
    | some B => rw [hB] at h; cases B <;> simp only [renB] at h <;> first | trivial | exact h
theorem renum_sta {c : Ctx} {found : List Nat} {m : Nat} {tg : Bool} {b : Nat} (h : Sta c m tg b) : Sta (c.renum found) m tg b := by
  refine ⟨fun ⟨i, h1, h2⟩ => ?_, h.2.1, h.2.2⟩
  obtain ⟨b', k1, k2⟩ := renum_mut h1
  refine h.1 ⟨b', k2, ?_⟩
  have : (c.renum found).ρ i = c.ρ (found[i]?.getD 0) := rfl
  rw [this, k1] at h2
  exact h2
theorem renum_extF (c : Ctx) (found : List Nat) (m : Nat) : ExtF c (c.renum found) m m := ⟨fun tg b cs h1 h2 => ⟨renum_sta h1, h2⟩⟩
mutual
theorem R.renum {c : Ctx} {found : List Nat} : ∀ (v : DV) (z : Bool) (a : AV), (∀ k ∈ owns v, k ∈ found) → R c 0 z v a → R (c.renum found) 0 z (renD (posN found) v) a
  | .int _, _, _, _, e => by simpa only [R, renD] using e
  | .bool _, _, _, _, e => by simpa only [R, renD] using e
  | .nilp, _, _, _, e => by simpa only [R, renD] using e
  | .nils, _, _, _, e => by simpa only [R, renD] using e
  | .nilf, _, _, _, e => by simpa only [R, renD] using e
  | .undef, _, _, _, e => by simpa only [R, renD] using e
  | .list tg ex s rows, z, a, _, e => by
    simp only [renD]
    have e' : R c 0 true (.list tg ex s rows) a := by simpa only [R] using e
    exact R.monoF (renum_extF c found 0) _ z a e'
  | .fbp tg cs o, z, a, _, e => by
    simp only [renD]
    have e' : R c 0 true (.fbp tg cs o) a := by simpa only [R] using e
    exact R.monoF (renum_extF c found 0) _ z a e'
  | .agg cs, z, _, hk, e => by
    simp only [R, renD] at e ⊢
    obtain ⟨l, h1, h2⟩ := e
    exact ⟨l, h1, RL.renum cs z l (fun k h => hk k (by simpa [owns] using h)) h2⟩
  | .tup cs, z, _, hk, e => by
    simp only [R, renD] at e ⊢
    obtain ⟨l, h1, h2⟩ := e
    exact ⟨l, h1, RL.renum cs z l (fun k h => hk k (by simpa [owns] using h)) h2⟩
  | .func f fs caps, z, _, hk, e => by
    simp only [R, renD] at e ⊢
    obtain ⟨x, y, h1, h2, h3⟩ := e
    exact ⟨x, y, h1, RL.renum fs z x (fun k h => hk k (by simp [owns, h])) h2, RL.renum caps z y (fun k h => hk k (by simp [owns, h])) h3⟩
  | .own k, z, a, hk, e => by
    simp only [R, renD] at e ⊢
    obtain ⟨h1, h2, h3⟩ := e
    obtain ⟨g1, g2⟩ := renum_get (c := c) (hk k (by simp [owns]))
    refine ⟨h1, sub_zero _, ?_⟩
    unfold OwnR at h3 ⊢
    rw [g1]
    have hv : ∀ nn s rows, OwnV c 0 nn s k rows a → OwnV (c.renum found) 0 nn s (posN found k) rows a := by
      intro nn s rows hv
      rcases hv with ⟨k1, e | ⟨k2, e | ⟨b, o, k3, k4, k5⟩⟩⟩ | ⟨k1, q, k2, k3⟩
      · exact .inl ⟨k1, .inl e⟩
      · exact .inl ⟨k1, .inr ⟨k2, .inl e⟩⟩
      · exact .inl ⟨k1, .inr ⟨k2, .inr ⟨b, o, k3, renum_sta k4, k5⟩⟩⟩
      · exact .inr ⟨k1, q, k2, by rw [g2]; exact k3⟩
    cases hB : nthB c.H k with
    | none => rw [hB] at h3; exact h3.elim
    | some B => rw [hB] at h3; cases B <;> simp only [renB] <;> first | exact hv _ _ _ h3 | exact h3
  | .ptr k o, z, a, hk, e => by
    simp only [R, renD] at e ⊢
    obtain ⟨h1, h2, ⟨cs, h3⟩, h4⟩ := e
    obtain ⟨g1, g2⟩ := renum_get (c := c) (hk k (by simp [owns]))
    refine ⟨h1, sub_zero _, ?_, by rw [g2]; exact h4⟩
    rw [g1]
    cases hB : nthB c.H k with
    | none => rw [hB] at h3; simp [boxO] at h3
    | some B => rw [hB] at h3; cases B <;> simp only [boxO] at h3 <;> first | (cases h3; done) | exact ⟨_, rfl⟩
  | .elp k i o, z, a, hk, e => by
    simp only [R, renD] at e ⊢
    obtain ⟨h1, h2, h3⟩ := e
    obtain ⟨g1, g2⟩ := renum_get (c := c) (hk k (by simp [owns]))
    refine ⟨h1, sub_zero _, ?_⟩
    unfold ElpR at h3 ⊢
    rw [g1]
    cases hB : nthB c.H k with
    | none => rw [hB] at h3; exact h3.elim
    | some B => rw [hB] at h3; cases B <;> simp only [renB] at h3 ⊢ <;> first | (rw [g2]; exact h3) | exact h3
theorem RL.renum {c : Ctx} {found : List Nat} : ∀ (ds : List DV) (z : Bool) (l : List AV), (∀ k ∈ ownsL ds, k ∈ found) → RL c 0 z ds l → RL (c.renum found) 0 z (renDL (posN found) ds) l
  | [], _, _, _, e => by simpa only [RL, renDL] using e
  | d :: ds, z, _, hk, e => by
    simp only [RL, renDL] at e ⊢
    obtain ⟨a, r, h1, h2, h3⟩ := e
    exact ⟨a, r, h1, R.renum d z a (fun k h => hk k (by simp [ownsL, h])) h2, RL.renum ds z r (fun k h => hk k (by simp [ownsL, h])) h3⟩
end
theorem renum_hp {c : Ctx} (hp : Hp c 0) (hck : ∀ k, c.ck k = 0) {found : List Nat} (hd : found.Nodup) (hcl : ∀ b ∈ found, ∀ i ∈ boxIds (nthB c.H b), i ∈ found) (hlay : ∀ b, c.lay b = none) : Hp (c.renum found) 0 := by
  have hρ : ∀ {i b : Nat}, found[i]? = some b → (c.renum found).ρ i = c.ρ b := fun h => by
    show c.ρ (found[_]?.getD 0) = _
    rw [h]; rfl
  refine ⟨fun i j h1 h2 hne => ?_, fun i B hB => ?_, hp.ta, hp.bm, hp.cell, hp.ro, hp.ids⟩
  · obtain ⟨b1, e1, m1⟩ := renum_mut h1
    obtain ⟨b2, e2, m2⟩ := renum_mut h2
    rw [hρ e1, hρ e2]
    refine hp.inj b1 b2 m1 m2 (fun e => hne ?_)
    subst e
    exact (List.getElem?_inj (List.getElem?_eq_some_iff.1 e1).1 hd).1 (e1.trans e2.symm)
  · have hB' : (found[i]?).map (fun b => renB (posN found) (nthB c.H b)) = some B := by rw [← takeB_get]; exact hB
    cases hf : found[i]? with
    | none => rw [hf] at hB'; cases hB'
    | some b =>
      rw [hf, Option.map_some, Option.some.injEq] at hB'
      have hbm : b ∈ found := List.mem_of_getElem? hf
      have hblk : ∀ l, Blk c b l → Blk (c.renum found) i l := fun l hl => ⟨by rw [hρ hf]; exact hl.lo, by rw [hρ hf]; exact hl.get, fun j hj => by rw [show (c.renum found).lay = c.lay from rfl, hlay] at hj; cases hj⟩
      have e0 : c.ck b ||| 0 = 0 := by rw [hck]; rfl
      cases hbB : nthB c.H b with
      | none => rw [hbB] at hB'; subst hB'; trivial
      | some B0 =>
        rw [hbB] at hB'
        have hr := hp.hr b B0 hbB
        have hcl' := hcl b hbm
        rw [hbB] at hcl'
        cases B0 with
        | box cs =>
          subst hB'
          obtain ⟨l, h1, h2⟩ := hr
          rw [e0] at h1
          exact ⟨l, (RL.renum cs false l hcl' h1).sub (sub_zero _), hblk l h2⟩
        | fbx cs =>
          subst hB'
          obtain ⟨l, h1, h2, h3⟩ := hr
          rw [e0] at h1
          refine ⟨l, (RL.renum cs false l hcl' h1).sub (sub_zero _), hblk l h2, ?_⟩
          rw [hρ hf]
          rw [hck] at h3
          exact (renum_sta h3).mono (sub_zero _)
        | row nn s rows =>
          subst hB'
          obtain ⟨rcs, h1, h2, h3⟩ := hr
          rw [e0] at h1
          exact ⟨rcs, (RRows.monoF (renum_extF c found 0) _ _ h1).sub (sub_zero _), h2, fun e => hblk _ (h3 e)⟩
        | frz s rows =>
          subst hB'
          obtain ⟨⟨rcs, h1, h2, h3⟩, h4⟩ := hr
          rw [e0] at h1
          refine ⟨⟨rcs, (RRows.monoF (renum_extF c found 0) _ _ h1).sub (sub_zero _), h2, fun e => hblk _ (h3 e)⟩, fun e => ?_⟩
          rw [hρ hf]
          have := h4 e
          rw [hck] at this
          exact (renum_sta this).mono (sub_zero _)
        | dead => subst hB'; trivial
theorem getAll_ok {T : VT} : ∀ {l : List Nat} {vs : List DV}, getAll T l = some vs → ∀ (σ : Nat → Nat) (T0 : VT) (t : Nat) (w : DV), (setAll σ l vs T0).get t = some w → (∃ v, v ∈ vs ∧ T.get t = some v ∧ w = renD σ v) ∨ T0.get t = some w
  | [], vs, h, σ, T0, t, w, hw => by
    simp only [getAll, Option.some.injEq] at h; subst h
    exact .inr hw
  | x :: l, vs, h, σ, T0, t, w, hw => by
    simp only [getAll] at h
    cases h1 : T.get x with
    | none => rw [h1] at h; simp [consD] at h
    | some v => cases h2 : getAll T l with
      | none => rw [h1, h2] at h; simp [consD] at h
      | some r =>
        rw [h1, h2] at h
        simp only [consD, Option.some.injEq] at h
        subst h
        simp only [setAll] at hw
        rcases getAll_ok h2 σ _ t w hw with ⟨v', k1, k2, k3⟩ | hw
        · exact .inl ⟨v', by simp [k1], k2, k3⟩
        · rw [Tbl.get_set] at hw
          by_cases e : t = x
          · subst e
            rw [if_pos rfl] at hw; cases hw
            exact .inl ⟨v, by simp, h1, rfl⟩
          · rw [if_neg e] at hw; exact .inr hw
theorem headK_ok {co : List CoS} {live : List Nat} {T : VT} {H : VH} {k : VT → VH → Res} {r : DV} (h : headK co live T H k = some r) :
    ∃ T' H', k T' H' = some r ∧ ∀ (c : Ctx) (TS : Tbl AV), c.H = H → FS c T TS → ∃ c', c'.M = c.M ∧ c'.H = H' ∧ FS c' T' TS ∧ Ste c c' 0 := by
  unfold headK at h
  obtain ⟨T1, H1, h1, h2⟩ := coK_ok h
  unfold canonK canon2 at h1
  split at h1
  · rename_i vs hvs
    unfold canon3 at h1
    split at h1
    · rename_i found hf
      refine ⟨_, _, h1, fun c TS hH hF => ?_⟩
      obtain ⟨c1, e1, e2, e3, e4, e5, e6, e7, e8, e9⟩ := h2 c TS hH hF.hp hF.ck hF.tr
      subst e8
      obtain ⟨r1, r2, r3, r4⟩ := reachV_ok _ _ _ _ hf (by simp) (by simp)
      have hlay : ∀ b, c1.lay b = none := fun b => by rw [e5]; exact hF.lay b
      have hhp := renum_hp e6 e7 r1 r4 hlay
      refine ⟨c1.renum found, e2, rfl, ⟨hhp, fun t w hw => ?_, hlay, fun _ => rfl⟩, ⟨e1, e3, e4, ?_, ?_⟩⟩
      · rcases getAll_ok hvs _ _ t w hw with ⟨v, k1, k2, k3⟩ | hw
        · obtain ⟨a, j1, j2⟩ := e9 t v k2
          refine ⟨a, j1, ?_⟩
          rw [k3]
          exact R.renum v false a (fun k hk => r3 k (owns_mem k1 k hk)) j2
        · simp [Tbl.get] at hw
      · show c.M.n ≤ c1.M.n
        rw [e2]; exact Nat.le_refl _
      · show c1.M.n ≤ c.M.n + 0
        rw [e2]; exact Nat.le_refl _
    · cases h1
  · cases h1
end Go.Vx
