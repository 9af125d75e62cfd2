/- ModalShapes of the given program answers true Part 2 of 10. -/
import Derived.Laws.StructEq
import Derived.ChangeKeysEq
import Derived.Test.YteolnmnikcobcaaMs1
/- S, text G: code; functions. -/
namespace Go.Sx
open Go.RowKit
def DrawSpec (P : Program) (tab : Tab) (ih : Ih) : Prop :=
  ∀ (E : Env) (F : Fence) (ops : Array Oper) (dlo : Nat) (φ : Phi) (w0 : World) (T : Tbl AV) (M : Mem) (a : Act) (w : World) (T' : Tbl AV) (M' : Mem) (Q : Exit → Act → World → Prop) (id : Nat), FE E F →
    drawEnd tab M.n (drawRun tab ih E ops.toList ops.toList (Region.before ops).toList 0 [] T M) = some (T', M') → St E φ w0 M T dlo a w → ops.toList.all (dstLt a.tmps.size) = true → drawOk ops = true →
    (∀ a' w', KPost E φ w0 M dlo a w .normal T' M' .normal a' w' → Q .normal a' w') → (Code.region id ops true).wpIn F 0 P Q a w
section
variable {P : Program} {tab : Tab} {E : Env} {w0 : World} {φ : Phi} {H : Heap} {w : World} {M M' : Mem} {v : AV}

/-! ### The statement that ranges over a function -/
theorem run_rangeCall {g : Operand} {a : Act} {h l : Nat} {xs ys : List Value} (he : a.eval g = .func (.func h) ⟨xs⟩ ⟨ys⟩) {fn : Func} (hT : TabOK P tab) (hf : tab.fn h = some fn) :
    (resolve a.eval (rangeCall g l) 0).run P w = .ok { target := .fn (.func h) ⟨ys⟩, args := ⟨xs⟩ ++ #[.func (.yield l) #[] #[]] } w ∧
    (invoke (.fn (.func h) ⟨ys⟩) (⟨xs⟩ ++ #[.func (.yield l) #[] #[]])).run P w = .ok (.enter h (xs ++ (.func (.yield l) #[] #[] :: ys)).toArray) w := by
  constructor
  · simp [resolve, rangeCall, he, Deferred.ofValue]; rfl
  · simp only [invoke]
    rw [run_callFunc hT hf]
    congr 2
    apply Array.ext'; simp
theorem range_ok (hT : TabOK P tab) {ih : Ih} (hC : CallSpec P tab ih) {F : Fence} (hF : FE E F) {ps : Array Tmp} {asg body : Code} {g : Operand} {T T' : Tbl AV} {x : Ex} {dlo : Nat} {a : Act} (h : rangeA ih E ps asg body T M (opd T g) = some (x, T', M'))
    (hS : St E φ w0 M T dlo a w) (hok : codeOk a.tmps.size (.rangeFunc g ps asg body) = true) {Q : Exit → Act → World → Prop} (hQ : ∀ e a' w', KPost E φ w0 M dlo a w x T' M' e a' w' → Q e a' w') : (Code.rangeFunc g ps asg body).wpIn F 0 P Q a w := by
  unfold rangeA at h
  split at h <;> try (cases h; done)
  rename_i hf fs caps hopd
  cases hr : E.rnd with
  | true => rw [hr] at h; cases h
  | false =>
    rw [hr, cond_false] at h
    have hFw : F = Fence.wide := by
      rcases hF with ⟨_, e⟩ | ⟨e, _⟩
      · exact e
      · rw [hr] at e; cases e
    subst hFw
    generalize hM2 : (M.push .dead).push (.loop { st := 0, jump := none, T, ps, asg, body }) = M2 at h
    have hfR := (opd_ok hS.tr g).get hopd
    simp only [VR] at hfR
    obtain ⟨xs, ys, he, hxs, hys⟩ := hfR
    cases hcall : ih.call E hf (fs ++ (.yld (E.m0 + (M.n + 1)) :: caps)) M2 with
    | none => rw [hcall] at h; simp [range1] at h
    | some r =>
      obtain ⟨v1, M3⟩ := r
      rw [hcall] at h
      simp only [range1] at h
      obtain ⟨⟨fn, hfn⟩, hcs⟩ := hC _ _ _ _ _ _ hcall hr
      simp only [codeOk, Bool.and_eq_true, List.all_eq_true] at hok
      obtain ⟨⟨hok1, hok2⟩, hok3⟩ := hok
      refine wpIn_rangeFunc (fun fid _ => ?_)
      obtain ⟨q1, q2⟩ := run_rangeCall (P := P) (w := (w.alloc (.deferred (some []))).alloc (.loop { state := .ready, pending := none, fn := fid, tmps := a.tmps, params := ps, assign := asg, body, defers := w.heap.size })) (l := w.heap.size + 1) he hT hfn
      refine ⟨_, _, _, _, _, hf, _, _, run_enterLoop_outer fid a.tmps ps asg body, q1, fun _ _ => trivial, q2, fun h => by simp [Fence.wide] at h, ?_⟩
      generalize hw2 : (w.alloc (.deferred (some []))).alloc (.loop { state := .ready, pending := none, fn := fid, tmps := a.tmps, params := ps, assign := asg, body, defers := w.heap.size }) = w2
      have hkw : KW w w2 := by rw [← hw2]; exact KW.of_below (((Below.refl _ _).alloc (Nat.le_refl _) _).alloc (by simp) _)
      have hbel : Below w.heap.size w w2 := by rw [← hw2]; exact ((Below.refl _ _).alloc (Nat.le_refl _) _).alloc (by simp) _
      have hmark : w2.heap[w.heap.size]? = some (Obj.deferred (some [])) := by rw [← hw2, heap_alloc_old _ _ _ (by simp)]; exact World.alloc_heap_new _ _
      have hrec : w2.heap[w.heap.size + 1]? = some (Obj.loop { state := .ready, pending := none, fn := fid, tmps := a.tmps, params := ps, assign := asg, body, defers := w.heap.size }) := by
        rw [← hw2]
        have := World.alloc_heap_new (w.alloc (.deferred (some []))) (.loop { state := .ready, pending := none, fn := fid, tmps := a.tmps, params := ps, assign := asg, body, defers := w.heap.size })
        simpa using this
      let φ1 : Phi := φ.upd (E.m0 + (M.n + 1)) (w.heap.size + 1, 0, 0)
      have hle1 : φ.Le φ1 := Phi.upd_le (hS.free _ (by omega)) _
      have hn1 : NewIn φ φ1 (E.m0 + M.n) (E.m0 + M2.n) := by
        intro k hk
        by_cases e : k = E.m0 + (M.n + 1)
        · subst e; rw [← hM2]; simp [Mem.push]
        · exact absurd (show φ1 k = φ k by simp [φ1, Phi.upd, e]) hk
      have hM2n : M2.n = M.n + 2 := by rw [← hM2]; rfl
      have hh2 : heapOf E M2 = ((heapOf E M).upd (E.m0 + M.n) .dead).upd (E.m0 + (M.n + 1)) (.loop { st := 0, jump := none, T, ps, asg, body }) := by
        rw [← hM2, heapOf_push, heapOf_push]; rfl
      have hI2 : Inv φ1 w0 (heapOf E M2) w2 := by
        rw [hh2]
        refine ((hS.inv.kill (E.m0 + M.n)).new (hS.free _ (by omega)) hbel (Nat.le_succ _) ?_)
        refine ⟨w.heap.size + 1, _, Phi.upd_same _ _ _, Nat.le_succ_of_le hS.inv.below.size, hrec, ?_⟩
        exact ⟨rfl, rfl, hS.tr.mono hle1, rfl, rfl, rfl, fun p hp => bltT (hok1 p hp), hok2, hok3⟩
      refine (hcs φ1 w0 w2 _ (hS.ro.mono hle1) hI2 ((VRL.mono hle1 _ _ hxs).append (VRL.cons ?_ (VRL.mono hle1 _ _ hys))) (hS.free.new hn1 (by rw [hM2n]; omega))).mono ?_
      · simp only [VR]; exact ⟨_, Phi.upd_same _ _ _, rfl⟩
      · rintro e w3 ⟨vC, rfl, φ3, f1, f2, f3, f4, f5, f6⟩
        simp only [rangePost]
        cases hl : loopAt M3 (M.n + 1) with
        | none => rw [hl] at h; simp [range2] at h
        | some r3 =>
          rw [hl] at h
          simp only [range2] at h
          cases hst : Nat.beq r3.st 1 with
          | true => rw [hst] at h; cases h
          | false =>
            rw [hst, cond_false] at h
            have hst' := beqN hst
            obtain ⟨hH3, hin3, g3, rec3, hφ3, hB3, hg3, hL3⟩ := loop_at f4 hl
            have hφ3' := f2 _ _ (Phi.upd_same φ (E.m0 + (M.n + 1)) (w.heap.size + 1, 0, 0))
            rw [hφ3'] at hφ3; cases hφ3
            obtain ⟨s1, s2⟩ := loop_dead (rec2 := { rec3 with state := .exhausted }) f4 hH3 hφ3' hg3
            refine ⟨rec3.pending, _, run_endLoop hg3 ?_, ?_⟩
            · rw [hL3.st]
              intro e
              match hq : r3.st, e with
              | 0, e => simp [stOf] at e
              | 1, _ => exact hst' hq
              | 2, e => simp [stOf] at e
              | n + 3, e => simp [stOf] at e
            · have hK : ∀ x', range3 T (M3.put (M.n + 1) .dead) r3.jump = some (x, T', M') → x = x' → KPost E φ w0 M dlo a w x T' M' (exOf x') { a with defers := [{ target := .collected w.heap.size, args := #[] }] ++ a.defers } (w3.putObj (w.heap.size + 1) (.loop { rec3 with state := .exhausted })) := by
                intro x' hr3 hx
                subst hx
                have hTM : T' = T ∧ M' = M3.put (M.n + 1) .dead := by
                  unfold range3 at hr3
                  split at hr3 <;> first | (cases hr3; exact ⟨rfl, rfl⟩) | cases hr3
                obtain ⟨rfl, rfl⟩ := hTM
                have hlen : M2.n ≤ M3.n := f5
                refine ⟨rfl, ⟨φ3, hle1.trans f2, hn1.trans f3 (by omega) (by show E.m0 + M2.n ≤ E.m0 + M3.n; omega), ?_⟩, rfl, by show M.n ≤ M3.n; omega, hkw.trans (f6.trans s2)⟩
                refine ⟨(hS.ro.mono hle1).mono f2, by rw [heapOf_put E M3 _ _ hin3]; exact s1, ?_, (hS.tr.mono hle1).mono f2, ?_⟩
                · exact (hS.free.new hn1 (by omega)).new f3 (by show E.m0 + M2.n ≤ E.m0 + M3.n; omega)
                · obtain ⟨gs, d1, d2, d3⟩ := hS.dfr.gs
                  refine ⟨hS.dfr.lo, Nat.le_trans hS.dfr.hi (hkw.trans (f6.trans s2)).1, w.heap.size :: gs, by simp [d1], List.nodup_cons.2 ⟨fun hm => ?_, d2⟩, ?_⟩
                  · have := (Array.getElem?_eq_some_iff.1 (d3 _ hm).2).1; omega
                  · intro k hk
                    rcases List.mem_cons.1 hk with rfl | hk
                    · exact ⟨hS.dfr.hi, (f6.trans s2).2 _ _ hmark⟩
                    · exact ⟨(d3 k hk).1, (hkw.trans (f6.trans s2)).2 _ _ (d3 k hk).2⟩
              have hj := hL3.jump
              have key : ∀ pend, rec3.pending = pend → (match pend with
                  | none => Q .normal { a with defers := [{ target := .collected w.heap.size, args := #[] }] ++ a.defers } (w3.putObj (w.heap.size + 1) (.loop { rec3 with state := .exhausted }))
                  | some c => c.wpIn Fence.wide 0 P Q { a with defers := [{ target := .collected w.heap.size, args := #[] }] ++ a.defers } (w3.putObj (w.heap.size + 1) (.loop { rec3 with state := .exhausted }))) := by
                intro pend hp
                rw [hj] at hp
                cases pend with
                | none =>
                  rw [hp] at h hK
                  have hx : x = .normal := by simp only [range3, Option.some.injEq, Prod.mk.injEq] at h; exact h.1.symm
                  exact hQ _ _ _ (hK .normal h hx)
                | some c =>
                  rw [hp] at h hK
                  cases c <;> simp only [range3] at h <;> first | (cases h; done) | skip
                  case exit id =>
                    have hx : x = .exit id := by simp only [Option.some.injEq, Prod.mk.injEq] at h; exact h.1.symm
                    exact wpIn_exit (hQ _ _ _ (hK (.exit id) h hx))
                  case ret =>
                    have hx : x = .ret := by simp only [Option.some.injEq, Prod.mk.injEq] at h; exact h.1.symm
                    exact wpIn_ret (hQ _ _ _ (hK .ret h hx))
              exact key _ rfl
end
end Go.Sx
/- S, text H: code; functions. -/
namespace Go.Sx
open Go.RowKit
section
variable {P : Program} {tab : Tab} {E : Env} {w0 : World} {φ : Phi} {H : Heap} {w : World} {M M' : Mem} {v : AV}

theorem exit_then {next : Act → World → Prop} {Q : Exit → Act → World → Prop} {e : Exit} {a : Act} {w : World} (h : e ≠ .normal) (hq : Q e a w) : Exit.then next Q e a w := by
  cases e <;> first | exact absurd rfl h | exact hq
theorem codeF_ok (hT : TabOK P tab) {n : Nat} {ih : Ih} (hC : CallSpec P tab ih) (hK : CodeSpec P ih n) (hD : DrawSpec P tab ih) : ∀ (c : Code) (E : Env) (T : Tbl AV) (M : Mem) (x : Ex) (T' : Tbl AV) (M' : Mem), codeF tab ih E c T M = some (x, T', M') →
    ∀ (F : Fence) (φ : Phi) (w0 : World) (dlo : Nat) (a : Act) (w : World) (Q : Exit → Act → World → Prop), FE E F → codeOk a.tmps.size c = true → St E φ w0 M T dlo a w →
      (∀ e a' w', KPost E φ w0 M dlo a w x T' M' e a' w' → Q e a' w') → c.wpIn F 0 P Q a w ∧ ∀ b, c = .loop b → Code.roundsIn F 0 P b Q (n + 1) a w
  | .skip, E, T, M, x, T', M', h, F, φ, w0, dlo, a, w, Q, hF, hok, hS, hQ => by
    simp only [codeF, Option.some.injEq, Prod.mk.injEq] at h
    obtain ⟨rfl, rfl, rfl⟩ := h
    exact ⟨wpIn_skip (hQ _ _ _ (KPost.here hS .normal)), by simp⟩
  | .label l, E, T, M, x, T', M', h, F, φ, w0, dlo, a, w, Q, hF, hok, hS, hQ => by
    simp only [codeF, Option.some.injEq, Prod.mk.injEq] at h
    obtain ⟨rfl, rfl, rfl⟩ := h
    exact ⟨wpIn_label (hQ _ _ _ (KPost.here hS .normal)), by simp⟩
  | .exit id, E, T, M, x, T', M', h, F, φ, w0, dlo, a, w, Q, hF, hok, hS, hQ => by
    simp only [codeF, Option.some.injEq, Prod.mk.injEq] at h
    obtain ⟨rfl, rfl, rfl⟩ := h
    exact ⟨wpIn_exit (hQ _ _ _ (KPost.here hS (.exit id))), by simp⟩
  | .ret, E, T, M, x, T', M', h, F, φ, w0, dlo, a, w, Q, hF, hok, hS, hQ => by
    simp only [codeF, Option.some.injEq, Prod.mk.injEq] at h
    obtain ⟨rfl, rfl, rfl⟩ := h
    exact ⟨wpIn_ret (hQ _ _ _ (KPost.here hS .ret)), by simp⟩
  | .region id ops draw, E, T, M, x, T', M', h, F, φ, w0, dlo, a, w, Q, hF, hok, hS, hQ => by
    simp only [codeF] at h
    simp only [codeOk, Bool.and_eq_true, Bool.or_eq_true, Bool.not_eq_true'] at hok
    refine ⟨?_, by simp⟩
    cases draw with
    | true =>
      rw [cond_true] at h
      cases hd : drawEnd tab M.n (drawRun tab ih E ops.toList ops.toList (Region.before ops).toList 0 [] T M) with
      | none => rw [hd] at h; simp [normalR] at h
      | some r =>
        obtain ⟨T1, M1⟩ := r
        rw [hd] at h
        simp only [normalR, Option.some.injEq, Prod.mk.injEq] at h
        obtain ⟨rfl, rfl, rfl⟩ := h
        exact hD E F ops dlo φ w0 T M a w _ _ Q id hF hd hS hok.1 (hok.2.resolve_left (by simp)) (fun a' w' hk => hQ _ _ _ hk)
    | false =>
      rw [cond_false] at h
      cases hd : opsRun tab ih E ops.toList ops.toList T M with
      | none => rw [hd] at h; simp [normalR] at h
      | some r =>
        obtain ⟨T1, M1⟩ := r
        rw [hd] at h
        simp only [normalR, Option.some.injEq, Prod.mk.injEq] at h
        obtain ⟨rfl, rfl, rfl⟩ := h
        refine wpIn_region ?_
        have := ops_ok hT hC hK hF (ops := ops) (Q := Q) (dlo := dlo) ops.toList 0 rfl φ T M a w hd hS hok.1 (fun a' w' hk => hQ _ _ _ hk)
        rwa [List.range_eq_range', ← Array.length_toList]
  | .seq c1 c2, E, T, M, x, T', M', h, F, φ, w0, dlo, a, w, Q, hF, hok, hS, hQ => by
    simp only [codeF] at h
    simp only [codeOk, Bool.and_eq_true] at hok
    refine ⟨wpIn_seq ?_, by simp⟩
    cases h1 : codeF tab ih E c1 T M with
    | none => rw [h1] at h; simp [thenR] at h
    | some r =>
      obtain ⟨x1, T1, M1⟩ := r
      rw [h1] at h
      refine (codeF_ok hT hC hK hD c1 E T M x1 T1 M1 h1 F φ w0 dlo a w _ hF hok.1 hS ?_).1
      rintro e a1 w1 hk
      obtain ⟨rfl, ⟨φ1, f1, f2, f3⟩, f4, f5, f6⟩ := hk
      cases x1 with
      | normal =>
        simp only [thenR] at h
        exact (codeF_ok hT hC hK hD c2 E T1 M1 x T' M' h F φ1 w0 dlo a1 w1 Q hF (by rw [f4]; exact hok.2) f3 (fun e' a' w' hk' => hQ _ _ _ (hk'.after f1 f2 f5 f6 f4))).1
      | exit id =>
        simp only [thenR, Option.some.injEq, Prod.mk.injEq] at h
        obtain ⟨rfl, rfl, rfl⟩ := h
        exact hQ _ _ _ ⟨rfl, ⟨φ1, f1, f2, f3⟩, f4, f5, f6⟩
      | ret =>
        simp only [thenR, Option.some.injEq, Prod.mk.injEq] at h
        obtain ⟨rfl, rfl, rfl⟩ := h
        exact hQ _ _ _ ⟨rfl, ⟨φ1, f1, f2, f3⟩, f4, f5, f6⟩
  | .cond o c1 c2, E, T, M, x, T', M', h, F, φ, w0, dlo, a, w, Q, hF, hok, hS, hQ => by
    simp only [codeF] at h
    simp only [codeOk, Bool.and_eq_true] at hok
    refine ⟨?_, by simp⟩
    cases ho : opd T o with
    | none => rw [ho] at h; simp [boolO] at h
    | some u =>
      rw [ho] at h
      have hv := (opd_ok hS.tr o).get ho
      cases u <;> simp only [boolO] at h <;> first | (cases h; done) | skip
      rename_i t
      simp only [VR] at hv
      refine wpIn_cond hv ?_
      cases t with
      | true => exact (codeF_ok hT hC hK hD c1 E T M x T' M' h F φ w0 dlo a w Q hF hok.1 hS hQ).1
      | false => exact (codeF_ok hT hC hK hD c2 E T M x T' M' h F φ w0 dlo a w Q hF hok.2 hS hQ).1
  | .block id c, E, T, M, x, T', M', h, F, φ, w0, dlo, a, w, Q, hF, hok, hS, hQ => by
    simp only [codeF] at h
    simp only [codeOk] at hok
    refine ⟨wpIn_block ?_, by simp⟩
    cases h1 : codeF tab ih E c T M with
    | none => rw [h1] at h; simp [blockR] at h
    | some r =>
      obtain ⟨x1, T1, M1⟩ := r
      rw [h1] at h
      simp only [blockR, Option.some.injEq, Prod.mk.injEq] at h
      obtain ⟨hx, rfl, rfl⟩ := h
      refine (codeF_ok hT hC hK hD c E T M x1 T1 M1 h1 F φ w0 dlo a w _ hF hok hS ?_).1
      rintro e a1 w1 ⟨rfl, k1, k2, k3, k4⟩
      cases x1 with
      | normal => subst hx; exact hQ _ _ _ ⟨rfl, k1, k2, k3, k4⟩
      | ret => subst hx; exact hQ _ _ _ ⟨rfl, k1, k2, k3, k4⟩
      | exit j =>
        simp only [inBlockA] at hx
        simp only [exOf, Exit.inBlock]
        cases hj : Nat.beq j id with
        | true =>
          rw [hj, cond_true] at hx; subst hx
          rw [if_pos (beqT hj)]; exact hQ _ _ _ ⟨rfl, k1, k2, k3, k4⟩
        | false =>
          rw [hj, cond_false] at hx; subst hx
          rw [if_neg (beqN hj)]; exact hQ _ _ _ ⟨rfl, k1, k2, k3, k4⟩
  | .loop c, E, T, M, x, T', M', h, F, φ, w0, dlo, a, w, Q, hF, hok, hS, hQ => by
    simp only [codeF] at h
    have hok' : codeOk a.tmps.size c = true := by simpa only [codeOk] using hok
    have hr : Code.roundsIn F 0 P c Q (n + 1) a w := by
      rw [roundsIn_succ]
      cases h1 : codeF tab ih E c T M with
      | none => rw [h1] at h; simp [thenR] at h
      | some r =>
        obtain ⟨x1, T1, M1⟩ := r
        rw [h1] at h
        refine (codeF_ok hT hC hK hD c E T M x1 T1 M1 h1 F φ w0 dlo a w _ hF hok' hS ?_).1
        rintro e a1 w1 hk
        obtain ⟨rfl, ⟨φ1, f1, f2, f3⟩, f4, f5, f6⟩ := hk
        cases x1 with
        | normal =>
          simp only [thenR] at h
          exact (hK E (.loop c) T1 M1 x T' M' h F φ1 w0 dlo a1 w1 Q hF (by rw [f4]; exact hok) f3 (fun e' a' w' hk' => hQ _ _ _ (hk'.after f1 f2 f5 f6 f4))).2 c rfl
        | exit id =>
          simp only [thenR, Option.some.injEq, Prod.mk.injEq] at h
          obtain ⟨rfl, rfl, rfl⟩ := h
          exact hQ _ _ _ ⟨rfl, ⟨φ1, f1, f2, f3⟩, f4, f5, f6⟩
        | ret =>
          simp only [thenR, Option.some.injEq, Prod.mk.injEq] at h
          obtain ⟨rfl, rfl, rfl⟩ := h
          exact hQ _ _ _ ⟨rfl, ⟨φ1, f1, f2, f3⟩, f4, f5, f6⟩
    exact ⟨wpIn_loop_rounds _ hr, fun b hb => by cases hb; exact hr⟩
  | .rangeFunc g ps asg body, E, T, M, x, T', M', h, F, φ, w0, dlo, a, w, Q, hF, hok, hS, hQ => by
    simp only [codeF] at h
    exact ⟨range_ok hT hC hF h hS hok hQ, by simp⟩
  | .goto l, E, T, M, x, T', M', h, _, _, _, _, _, _, _, _, _, _, _ => by simp [codeF] at h
  | .scope c, E, T, M, x, T', M', h, _, _, _, _, _, _, _, _, _, _, _ => by simp [codeF] at h
  | .refuse s, E, T, M, x, T', M', h, _, _, _, _, _, _, _, _, _, _, _ => by simp [codeF] at h

/-! ### Functions -/
theorem argsT_get : ∀ (l : List AV) (k : Nat) (T : Tbl AV) (j : Nat), (argsT l k T).get j = if k ≤ j ∧ j < k + l.length then l[j - k]? else T.get j
  | [], k, T, j => by simp only [argsT, List.length_nil]; rw [if_neg (by omega)]
  | a :: l, k, T, j => by
    simp only [argsT, argsT_get l (k + 1), List.length_cons, Tbl.get_set]
    by_cases h : j = k
    · subst h
      rw [if_neg (by omega), if_pos rfl, if_pos (by omega)]; simp
    · by_cases h2 : k + 1 ≤ j ∧ j < k + 1 + l.length
      · rw [if_pos h2, if_pos (by omega), show j - k = (j - (k + 1)) + 1 by omega]; simp
      · rw [if_neg h2, if_neg h, if_neg (by omega)]
theorem args_TR {args : List AV} {vs : List Value} (h : VRL φ args vs) (m : Nat) : TR φ (argsT args 0 .leaf) (vs.toArray ++ Array.replicate m undef) := by
  refine ⟨fun t => ?_⟩
  rw [argsT_get]
  by_cases ht : t < args.length
  · rw [if_pos (by omega)]
    obtain ⟨x, h1, h2⟩ := h.get (j := t) (a := args[t]) (by simp [ht])
    rw [Nat.sub_zero, List.getElem?_eq_getElem ht]
    have hl := h.length
    have : (vs.toArray ++ Array.replicate m undef).getD t undef = x := by
      rw [Array.getD_eq_getD_getElem?, Array.getElem?_append_left (by simp; omega), List.getElem?_toArray, h1]; rfl
    rw [this]; exact h2
  · rw [if_neg (by omega)]
    have hl := h.length
    have : (vs.toArray ++ Array.replicate m undef).getD t undef = undef := by
      rw [Array.getD_eq_getD_getElem?, Array.getElem?_append_right (by simp; omega)]
      simp only [Array.getElem?_replicate]
      split <;> rfl
    rw [this]
    simp [Tbl.get, orUndef, VR]
def resV (tmps : Array Value) : ResultVar → Sem Value
  | .tmp t => pure (tmps.getD t undef)
  | .cell a t => do loadVar t (← asAddr (tmps.getD a undef))
theorem results_eq (fn : Func) (tmps : Array Value) : results fn tmps = (do
  let vs ← fn.results.mapM (resV tmps)
  pure (if h : vs.size = 1 then vs[0] else .tuple vs)) := by
  unfold results
  have : (fun x : ResultVar => match x with
    | .tmp t => (pure (tmps.getD t undef) : Sem Value)
    | .cell a t => do loadVar t (← asAddr (tmps.getD a undef))) = resV tmps := by funext x; cases x <;> rfl
  rw [← this]
  rfl
theorem results_ok (hA : At P tab E w0 φ (heapOf E M) w) {T : Tbl AV} {tmps : Array Value} (hTR : TR φ T tmps) : ∀ (rs : List ResultVar) (vs : List AV), resAll tab E T M rs = some vs → ∃ g : ResultVar → Value,
    (∀ r ∈ rs, (resV tmps r).run P w = .ok (g r) w) ∧ VRL φ vs (rs.map g)
  | rs, vs, h => by
    have one : ∀ r u, resOne tab E T M r = some u → ∃ x, (resV tmps r).run P w = .ok x w ∧ VR φ u x := by
      intro r u hr
      cases r with
      | tmp t => simp only [resOne, Option.some.injEq] at hr; subst hr; exact ⟨_, rfl, hTR.at_ t⟩
      | cell ad t =>
        simp only [resOne] at hr
        cases hl : dLoad E M (some (orUndef (T.get ad))) (tab.ty t) with
        | none => rw [hl] at hr; simp [fstR] at hr
        | some p =>
          obtain ⟨u', M2⟩ := p
          rw [hl] at hr
          simp only [fstR, Option.some.injEq] at hr; subst hr
          obtain ⟨x, k1, k2, _⟩ := load_ok hA hl (y := tmps.getD ad undef) (fun u hu => by cases hu; exact hTR.at_ ad) (fun b o _ _ => rfl)
          refine ⟨x, ?_, k2⟩
          show (do loadVar t (← asAddr (tmps.getD ad undef)) : Sem Value).run P w = _
          generalize tmps.getD ad undef = y at k1
          cases y <;> simp [Instr.loadAt, Instr.sureAddr] at k1
          rename_i pa
          cases pa <;> simp at k1
          simpa [asAddr] using k1
    let g : ResultVar → Value := fun r => match (resV tmps r).run P w with
      | Result.ok x _ => x
      | _ => undef
    have hg : ∀ r u, resOne tab E T M r = some u → (resV tmps r).run P w = .ok (g r) w ∧ VR φ u (g r) := by
      intro r u hr
      obtain ⟨x, h1, h2⟩ := one r u hr
      have : g r = x := by show (match (resV tmps r).run P w with | Result.ok x _ => x | _ => undef) = x; rw [h1]
      rw [this]; exact ⟨h1, h2⟩
    refine ⟨g, ?_⟩
    clear one
    induction rs generalizing vs with
    | nil => simp only [resAll, Option.some.injEq] at h; subst h; exact ⟨by simp, VRL.nil⟩
    | cons r rs ih =>
      simp only [resAll] at h
      cases h1 : resOne tab E T M r with
      | none => rw [h1] at h; simp [cons?] at h
      | some u => cases h2 : resAll tab E T M rs with
        | none => rw [h1, h2] at h; simp [cons?] at h
        | some us =>
          rw [h1, h2] at h
          simp only [cons?, Option.some.injEq] at h; subst h
          obtain ⟨k1, k2⟩ := ih us h2
          obtain ⟨j1, j2⟩ := hg r u h1
          refine ⟨fun q hq => ?_, VRL.cons j2 k2⟩
          rcases List.mem_cons.1 hq with rfl | hq
          · exact j1
          · exact k1 q hq
theorem run_results {fn : Func} {tmps : Array Value} {T : Tbl AV} (hA : At P tab E w0 φ (heapOf E M) w) (hTR : TR φ T tmps) (h : tupOf M (resAll tab E T M fn.results.toList) = some (v, M')) : ∃ vC, (results fn tmps).run P w = .ok vC w ∧ VR φ v vC ∧ M' = M := by
  cases hr : resAll tab E T M fn.results.toList with
  | none => rw [hr] at h; simp [tupOf] at h
  | some vs =>
    rw [hr] at h
    obtain ⟨g, h1, h2⟩ := results_ok hA hTR _ _ hr
    have hm := arr_mapM_run P w _ g fn.results h1
    have hmt : (fn.results.map g).toList = fn.results.toList.map g := by simp
    unfold tupOf at h
    split at h
    · rename_i u hv
      simp only [Option.some.injEq, Prod.mk.injEq] at h hv
      subst hv
      obtain ⟨rfl, rfl⟩ := h
      obtain ⟨x, hx, hxv⟩ := h2.single
      have harr : fn.results.map g = #[x] := one_list (by rw [hmt]; exact hx)
      refine ⟨x, ?_, hxv, rfl⟩
      rw [results_eq]
      simp only [Sem.run_bind]
      rw [hm]
      simp [harr]
    · rename_i us hne hv
      simp only [Option.some.injEq, Prod.mk.injEq] at h hv
      subst hv
      obtain ⟨rfl, rfl⟩ := h
      have hsz : (fn.results.map g).size ≠ 1 := fun e => by
        have hl := h2.length
        rw [← hmt, Array.length_toList, e] at hl
        match vs, hl with
        | [u], _ => exact hne u rfl
      refine ⟨.tuple (fn.results.map g), ?_, by simp only [VR]; exact ⟨fn.results.toList.map g, by congr 1; apply Array.ext'; simp, h2⟩, rfl⟩
      rw [results_eq]
      simp only [Sem.run_bind]
      rw [hm]
      simp only [Result.andThen_ok, Sem.run_pure]
      rw [dif_neg hsz]
    · cases h
end
end Go.Sx
/- S, text I: functions; the whole, by induction on the depth. -/
namespace Go.Sx
open Go.RowKit
section
variable {P : Program} {tab : Tab} {E : Env} {w0 : World} {φ : Phi} {H : Heap} {w : World} {M M' : Mem} {v : AV}

theorem Inv.mark (h : Inv φ w0 H w) {g : Nat} {x : Option (List Deferred)} {o : Obj} (hg : w.heap[g]? = some (Obj.deferred x)) (hlo : w0.heap.size ≤ g) : Inv φ w0 H (w.putObj g o) := by
  have hgr := grownBy_putObj w g o
  refine ⟨h.below.grown hgr h.below.size (fun k e => by cases e; exact hlo), fun b o' hb => ?_, h.sep⟩
  have hold := h.obj b o' hb
  cases o' with
  | dead => trivial
  | cells cs =>
    obtain ⟨g', base, ext, h1, h2, h3⟩ := hold
    have hne : g' ≠ g := fun e => by
      subst e
      obtain ⟨c, e, fr, k1, _⟩ := h3
      rw [k1] at hg; cases hg
    exact ⟨g', base, ext, h1, h2, h3.same (hgr.block g' h3.lt (fun e => hne (by cases e; rfl)))⟩
  | loop r =>
    obtain ⟨g', rec, h1, h2, h3, h4⟩ := hold
    have hne : g' ≠ g := fun e => by subst e; rw [h3] at hg; cases hg
    exact ⟨g', rec, h1, h2, (hgr.block g' (Array.getElem?_eq_some_iff.1 h3).1 (fun e => hne (by cases e; rfl))).trans h3, h4⟩
theorem leaves_ok {fn : Func} {tmps : Array Value} {T' : Tbl AV} {φ' : Phi} {M1 : Mem} {wc : World} (hT : TabOK P tab) (hro : RoOK φ' E w0) (hTR : TR φ' T' tmps) (hlo : w0.heap.size ≤ wc.heap.size) (h : tupOf M1 (resAll tab E T' M1 fn.results.toList) = some (v, M'))
    {R : Ending → World → Prop} (hR : ∀ vC w', VR φ' v vC → M' = M1 → Inv φ' w0 (heapOf E M1) w' → KW wc w' → R (.returned vC) w') :
    ∀ (gs : List Nat) (w' : World), gs.Nodup → (∀ g ∈ gs, wc.heap.size ≤ g ∧ w'.heap[g]? = some (Obj.deferred (some []))) → Inv φ' w0 (heapOf E M1) w' → KW wc w' →
      LeavesInM Fence.wide 0 P fn tmps R (gs.map (fun g => { target := .collected g, args := #[] })) .returning w'
  | [], w', _, _, hI, hk => by
    obtain ⟨vC, k1, k2, k3⟩ := run_results (P := P) (w := w') ⟨hT.ty, hro, hI⟩ hTR h
    exact ⟨vC, k1, hR vC w' k2 k3 hI hk⟩
  | g :: gs, w', hnd, hg, hI, hk => by
    obtain ⟨hg1, hg2⟩ := hg g (by simp)
    simp only [List.map_cons, LeavesInM]
    refine ⟨by simp, .inl ⟨g, _, rfl, run_takeDeferred hg2, ?_⟩⟩
    have hnd' := List.nodup_cons.1 hnd
    refine leaves_ok hT hro hTR hlo h hR gs _ hnd'.2 (fun k hkm => ?_) (hI.mark hg2 (by omega)) ?_
    · have hne : k ≠ g := fun e => hnd'.1 (e ▸ hkm)
      refine ⟨(hg k (by simp [hkm])).1, ?_⟩
      rw [World.putObj_heap_other hne]
      exact (hg k (by simp [hkm])).2
    · refine ⟨by have := hk.1; simpa [World.putObj] using this, fun k x hx => ?_⟩
      have hlt := (Array.getElem?_eq_some_iff.1 hx).1
      rw [World.putObj_heap_other (by omega)]
      exact hk.2 k x hx
theorem callF_ok (hT : TabOK P tab) {n : Nat} {ih : Ih} (hC : CallSpec P tab ih) (hK : CodeSpec P ih n) (hD : DrawSpec P tab ih) {E : Env} {f : Nat} {args : List AV} {M M' : Mem} {v : AV} (h : callF tab ih E f args M = some (v, M')) (hrnd : E.rnd = false) :
    (∃ fn, tab.fn f = some fn) ∧ ∀ (φ : Phi) (w0 w : World) (vs : List Value), RoOK φ E w0 → Inv φ w0 (heapOf E M) w → VRL φ args vs → Free φ (E.m0 + M.n) → CallsIn Fence.wide 0 P f vs.toArray w (CPost w w0 φ E M v M') := by
  unfold callF at h
  cases hfn : tab.fn f with
  | none => rw [hfn] at h; cases h
  | some fn =>
    rw [hfn] at h
    refine ⟨⟨fn, rfl⟩, fun φ w0 w vs hro hI hvs hfree => ?_⟩
    obtain ⟨hP, _, c, hbody, hok⟩ := hT.fn f fn hfn
    simp only [] at h
    cases hpr : tab.prim f with
    | true =>
      rw [hpr, cond_true] at h
      cases args with
      | cons a l => simp [primA] at h
      | nil =>
        simp only [primA, Option.some.injEq, Prod.mk.injEq] at h
        obtain ⟨rfl, rfl⟩ := h
        cases vs with
        | cons a l => simp [VRL] at hvs
        | nil =>
          refine (hT.prim f hpr w).mono ?_
          rintro e w' ⟨rfl, hb⟩
          exact ⟨.bool true, rfl, φ, by simp [VR], Phi.Le.refl φ, fun k hk => absurd rfl hk, hI.later hb, Nat.le_refl _, KW.of_below hb⟩
    | false =>
    rw [hpr, cond_false] at h
    cases hle : Nat.ble args.length fn.ntmps with
    | false => rw [hle] at h; cases h
    | true =>
      rw [hle, cond_true, hbody] at h
      have hle' := bleT hle
      simp only [call1] at h
      cases hc : codeF tab ih E c (argsT args 0 .leaf) M with
      | none => rw [hc] at h; simp [call2] at h
      | some r =>
        obtain ⟨x, T1, M1⟩ := r
        rw [hc] at h
        have hl := hvs.length
        have hsz : (vs.toArray ++ Array.replicate (fn.ntmps - vs.toArray.size) undef).size = fn.ntmps := by simp; omega
        have hx : (x = .normal ∨ x = .ret) ∧ tupOf M1 (resAll tab E T1 M1 fn.results.toList) = some (v, M') := by
          cases x with
          | normal => exact ⟨.inl rfl, h⟩
          | ret => exact ⟨.inr rfl, h⟩
          | exit id => simp [call2] at h
        refine callsIn_of_wp_marks hP hbody trivial ?_
        refine (codeF_ok hT hC hK hD c E _ M x T1 M1 hc Fence.wide φ w0 w.heap.size { tmps := vs.toArray ++ Array.replicate (fn.ntmps - vs.toArray.size) undef, defers := [] } w _ (.inl ⟨hrnd, rfl⟩) (by simp only [hsz]; exact hok) ?_ ?_).1
        · exact ⟨hro, hI, hfree, args_TR hvs _, ⟨hI.below.size, Nat.le_refl _, [], rfl, List.nodup_nil, by simp⟩⟩
        · rintro e a' w' ⟨rfl, ⟨φ', f1, f2, f3⟩, f4, f5, f6⟩
          obtain ⟨gs, d1, d2, d3⟩ := f3.dfr.gs
          have hl := leaves_ok (fn := fn) (R := CPost w w0 φ E M v M') hT f3.ro f3.tr hI.below.size hx.2 (fun vC w2 k1 k2 k3 k4 => by
            subst k2
            exact ⟨vC, rfl, φ', k1, f1, f2, k3, f5, k4⟩) gs w' d2 d3 f3.inv f6
          rw [← d1] at hl
          rcases hx.1 with rfl | rfl
          · exact hl
          · exact hl
theorem ev_ok (hT : TabOK P tab) (hD : ∀ n, CallSpec P tab (ev tab n) → CodeSpec P (ev tab n) n → DrawSpec P tab (ev tab n)) : ∀ n, CallSpec P tab (ev tab n) ∧ CodeSpec P (ev tab n) n
  | 0 => ⟨fun _ _ _ _ _ _ h => by simp [ev] at h, fun _ _ _ _ _ _ _ h => by simp [ev] at h⟩
  | n + 1 => by
    obtain ⟨hC, hK⟩ := ev_ok hT hD n
    have hDn := hD n hC hK
    exact ⟨fun E f args M v M' h hr => callF_ok hT hC hK hDn h hr, fun E c T M x T' M' h F φ w0 dlo a w Q hF hok hS hQ => codeF_ok hT hC hK hDn c E T M x T' M' h F φ w0 dlo a w Q hF hok hS hQ⟩
end
end Go.Sx
/- S, text J: what an operation leaves alone (S alone); what an operation looks at. -/
namespace Go.Sx
open Go.RowKit
section
variable {tab : Tab} {E : Env} {M M' : Mem} {v : AV}

/-- M' is M but for the blocks W and for new ones. -/
structure Fr (E : Env) (M M' : Mem) (W : List Nat) : Prop where
  le : M.n ≤ M'.n
  same : ∀ b, b ∉ W → (b < E.m0 + M.n ∨ E.m0 + M'.n ≤ b) → heapOf E M' b = heapOf E M b
theorem Fr.refl (W : List Nat) : Fr E M M W := ⟨Nat.le_refl _, fun _ _ _ => rfl⟩
theorem Fr.push {W : List Nat} (o : AObj) : Fr E M (M.push o) W := ⟨Nat.le_succ _, fun b _ hb => by
  rw [heapOf_push]; unfold Heap.upd
  rw [if_neg]
  simp only [Mem.push] at hb
  omega⟩
theorem Fr.put {W : List Nat} {b : Nat} (o : AObj) (hle : E.m0 ≤ b) (hlt : b - E.m0 < M.n) (hW : b ∈ W) : Fr E M (M.put (b - E.m0) o) W := ⟨Nat.le_refl _, fun k hk _ => by
  rw [heapOf_put E M _ _ hlt, show E.m0 + (b - E.m0) = b by omega]
  unfold Heap.upd
  rw [if_neg (show ¬ k = b from fun e => hk (by rw [e]; exact hW))]⟩
theorem Fr.put_push {W : List Nat} {b : Nat} (o o' : AObj) (hle : E.m0 ≤ b) (hlt : b - E.m0 < M.n) (hW : b ∈ W) : Fr E M ((M.put (b - E.m0) o).push o') W := ⟨Nat.le_succ _, fun k hk hb => by
  have h1 := (Fr.put (E := E) (M := M) (W := W) o hle hlt hW).same k hk
  have h2 := (Fr.push (E := E) (M := M.put (b - E.m0) o) (W := W) o').same k hk hb
  rw [h2]
  refine h1 ?_
  simp only [Mem.push, Mem.put] at hb ⊢
  omega⟩
theorem Fr.pushAll {W : List Nat} (l : List AObj) : Fr E M (M.pushAll l) W := by
  obtain ⟨h1, h2⟩ := heapOf_pushAll E l M
  refine ⟨by omega, fun b _ hb => ?_⟩
  rw [h1, applyUps_upsOf, if_neg (by omega)]
theorem Fr.wrc {W : List Nat} {b o : Nat} {vs : List AV} (h : wrc E M b o vs = some M') (hW : b ∈ W) : Fr E M M' W := by
  obtain ⟨cs, h1, h2, _, _, rfl⟩ := wrc_some h
  exact Fr.put _ h1 (objCells_get h2) hW
theorem d1_M {x : Option AV} {r : AV × Mem} (h : d1 M x = some r) : r.2 = M := by cases x <;> simp [d1] at h; subst h; rfl
theorem aggR_M {x : Option (List AV)} {r : AV × Mem} (h : aggR M x = some r) : r.2 = M := by cases x <;> simp [aggR] at h; subst h; rfl
theorem oneR_M {x : Option (List AV)} {r : AV × Mem} (h : oneR M x = some r) : r.2 = M := by
  obtain ⟨u, _, rfl⟩ := oneR_inv h; rfl
theorem sliceR_M {n m : Nat} {x : Option (List AV)} {r : AV × Mem} (h : sliceR E M n m x = some r) (W : List Nat) : Fr E M r.2 W := by
  obtain ⟨cs, _, _, _, h2⟩ := sliceR_some (v := r.1) (M' := r.2) h
  rw [h2]; exact Fr.push _
theorem newRow_M {n s : Nat} {cs : List AV} {r : AV × Mem} (h : newRow E M n s cs = some r) (W : List Nat) : Fr E M r.2 W := by
  unfold newRow at h
  cases hb : cs.all AV.isCell with
  | false => rw [hb] at h; cases h
  | true => rw [hb] at h; cases h; exact Fr.push _

/-- What is known of an operation's memory: the blocks that it lays or writes; and none at all, where it touches nothing. -/
def FrT (E : Env) (M M' : Mem) (t : Tch) : Prop := Fr E M M' (tchW t) ∧ (t = .none → M'.n = M.n)
theorem FrT.same (t : Tch) : FrT E M M t := ⟨Fr.refl _, fun _ => rfl⟩
theorem FrT.of {t : Tch} {r : AV × Mem} (h : r.2 = M) : FrT E M r.2 t := by rw [h]; exact FrT.same t
def tchBi (b : Builtin) (args : Option (List AV)) : Tch := match b with
  | .append => tchApp args
  | .clear => tchClear args
  | _ => .none
theorem builtin_fr {ty : Nat → Option TyI} {b : Builtin} {ts : List TypeId} {args : Option (List AV)} {r : AV × Mem} (h : dBuiltin ty E M b ts args = some r) :
    FrT E M r.2 (tchBi b args) := by
  cases b <;> simp only [dBuiltin] at h <;> first | (cases h; done) | skip
  case append =>
    unfold dAppend at h
    split at h <;> try (cases h; done)
    rename_i s x
    split at h <;> try (cases h; done)
    rename_i t u rest
    simp only [tchBi]
    obtain ⟨rd1, rd2, hW⟩ := tchApp_reads (s := s) (x := x)
    have hnn : tchApp (some [s, x]) ≠ .none := by unfold tchApp; split <;> simp
    refine ⟨?_, fun e => absurd e hnn⟩
    cases hc : isCount x (ty u) with
    | false => rw [hc] at h; cases h
    | true =>
      rw [hc, cond_true] at h
      cases he : elemTy ty (ty t) with
      | none => rw [he] at h; simp [append1] at h
      | some i =>
        rw [he] at h
        simp only [append1] at h
        cases hs : srcOf E M x i with
        | none => rw [hs] at h; simp [append2] at h
        | some nn =>
          obtain ⟨n2, new⟩ := nn
          rw [hs] at h
          simp only [append2] at h
          cases h0 : Nat.beq n2 0 with
          | true =>
            rw [h0, cond_true] at h
            cases hsl : isSl s with
            | false => rw [hsl] at h; cases h
            | true => rw [hsl] at h; cases h; exact Fr.refl _
          | false =>
            rw [h0, cond_false] at h
            cases hb : (Nat.blt 0 i.size && Nat.blt 0 i.bytes && Nat.ble i.bytes 65536) with
            | false => rw [hb] at h; cases h
            | true =>
              rw [hb, cond_true] at h
              cases s <;> (try simp only [] at h) <;> first | (cases h; done) | skip
              case emp z =>
                cases z with
                | false => cases h
                | true =>
                  simp only [] at h
                  cases hl : Nat.ble n2 1048576 with
                  | false => rw [hl] at h; cases h
                  | true => rw [hl] at h; exact newRow_M h _
              case nils =>
                cases hl : Nat.ble n2 1048576 with
                | false => rw [hl] at h; cases h
                | true => rw [hl] at h; exact newRow_M h _
              case slice b o n c q =>
                rw [hW b o n c q rfl]
                simp only [append3] at h
                cases hl : Nat.ble (n + n2) 1048576 with
                | false => rw [hl] at h; cases h
                | true =>
                  rw [hl, cond_true] at h
                  cases hl2 : Nat.ble (n + n2) c with
                  | true =>
                    rw [hl2, cond_true] at h
                    cases hw : wrc E M b (o + n * i.size) new with
                    | none => rw [hw] at h; simp [inPlace] at h
                    | some M2 => rw [hw] at h; cases h; exact Fr.wrc hw (by simp)
                  | false =>
                    rw [hl2, cond_false] at h
                    cases hq : Nat.beq q 0 with
                    | true =>
                      rw [hq, cond_true] at h
                      cases hr : rd E M b o (n * i.size) with
                      | none => rw [hr] at h; simp [moved] at h
                      | some old => rw [hr] at h; exact newRow_M h _
                    | false =>
                      rw [hq, cond_false] at h
                      cases hb2 : (Nat.beq q i.size && Nat.ble E.m0 b) with
                      | false => rw [hb2] at h; cases h
                      | true =>
                        rw [hb2, cond_true] at h
                        simp only [Bool.and_eq_true] at hb2
                        cases ho : objCells (M.get (b - E.m0)) with
                        | none => rw [ho] at h; simp [grown] at h
                        | some cs =>
                          rw [ho] at h
                          simp only [grown] at h
                          cases hlen : Nat.beq cs.length (o + n * i.size) with
                          | false => rw [hlen] at h; cases h
                          | true =>
                            rw [hlen, cond_true] at h
                            unfold newRow at h
                            cases hall : (cs.drop o ++ new).all AV.isCell with
                            | false => rw [hall] at h; cases h
                            | true => rw [hall] at h; cases h; exact Fr.put_push _ _ (bleT hb2.2) (objCells_get ho) (by simp)
  case cap =>
    obtain ⟨u, rfl, h1⟩ := one?_some h
    refine FrT.of ?_
    unfold capA at h1
    split at h1 <;> try (cases h1; done)
    split at h1 <;> try (cases h1; done)
    split at h1 <;> first | (cases h1; rfl) | cases h1
  case clear =>
    obtain ⟨u, rfl, h1⟩ := one?_some h
    cases he : elemTy ty (ty0 ty ts) with
    | none => rw [he] at h1; simp [clearA] at h1
    | some j =>
      rw [he] at h1
      cases u <;> simp only [clearA] at h1 <;> first | (cases h1; done) | skip
      case nils => cases h1; exact FrT.same _
      case emp => cases h1; exact FrT.same _
      case slice b o n c q =>
        refine ⟨?_, by simp [tchBi, tchClear]⟩
        cases hn : Nat.beq n 0 with
        | true => rw [hn, cond_true] at h1; cases h1; exact Fr.refl _
        | false =>
          rw [hn, cond_false] at h1
          cases hz : Nat.beq j.zero.cells.length j.size with
          | false => rw [hz] at h1; cases h1
          | true =>
            rw [hz, cond_true] at h1
            cases hw : wrc E M b o (repl n j.zero.cells) with
            | none => rw [hw] at h1; simp [tupR] at h1
            | some M2 => rw [hw] at h1; cases h1; exact Fr.wrc hw (by simp [tchBi, tchClear, tchW])
  case len =>
    obtain ⟨u, rfl, h1⟩ := one?_some h
    refine FrT.of ?_
    unfold lenA at h1
    split at h1 <;> try (cases h1; done)
    split at h1 <;> first | (cases h1; rfl) | (split at h1 <;> first | (cases h1; rfl) | cases h1) | cases h1
  case max =>
    obtain ⟨l, rfl, h1, h2⟩ := lst?_some (v := r.1) (M' := r.2) h
    exact FrT.of h2
  case min =>
    obtain ⟨l, rfl, h1, h2⟩ := lst?_some (v := r.1) (M' := r.2) h
    exact FrT.of h2
theorem xop_fr {ih : Ih} {hid : Nat → Bool} {T : Tbl AV} {op : Op} {r : AV × Mem} (h : xop tab ih E hid T M op = some r) (hna : touch tab T op ≠ .all) : FrT E M r.2 (touch tab T op) := by
  cases op <;> simp only [xop, dop] at h <;> first | (cases h; done) | skip
  case move x => exact FrT.of (d1_M h)
  case assign x => exact FrT.of (d1_M h)
  case alloc t =>
    refine ⟨?_, by simp [touch]⟩
    unfold dBox at h
    split at h <;> try (cases h; done)
    rename_i u _
    cases hc : isCells u with
    | false => rw [hc] at h; cases h
    | true => rw [hc] at h; cases h; exact Fr.push _
  case box t x =>
    refine ⟨?_, by simp [touch]⟩
    unfold dBox at h
    split at h <;> try (cases h; done)
    rename_i u _
    cases hc : isCells u with
    | false => rw [hc] at h; cases h
    | true => rw [hc] at h; cases h; exact Fr.push _
  case build t parts =>
    refine FrT.of ?_
    unfold dBuild at h
    split at h <;> try (cases h; done)
    split at h <;> try (cases h; done)
    · exact aggR_M h
    · unfold dBuildA at h
      split at h <;> try (cases h; done)
      exact aggR_M h
  case buildSlice t len parts =>
    refine ⟨?_, by simp [touch]⟩
    unfold dBuildSlice at h
    split at h <;> try (cases h; done)
    rename_i j _
    cases hc : (Nat.ble (len * j.size) 65536 && Nat.beq j.zero.cells.length j.size) with
    | false => rw [hc] at h; cases h
    | true => rw [hc] at h; exact sliceR_M h _
  case load t x =>
    refine FrT.of ?_
    cases hi : tab.ty t with
    | none => rw [hi] at h; simp [dLoad] at h
    | some i =>
      rw [hi] at h
      obtain ⟨b, o, _, h2⟩ := dLoad_inv h
      cases hg : i.isAgg with
      | true => rw [hg] at h2; exact aggR_M h2
      | false => rw [hg] at h2; exact oneR_M h2
  case store t x y =>
    cases hi : tab.ty t with
    | none => rw [hi] at h; simp [dStore] at h
    | some i =>
      rw [hi] at h
      obtain ⟨b, o, u, hx, _, h2⟩ := dStore_inv h
      simp only [touch, hx, tchP]
      refine ⟨?_, by simp⟩
      cases hg : Nat.beq u.cells.length i.size with
      | false => rw [hg] at h2; cases h2
      | true =>
        rw [hg, cond_true] at h2
        cases hw : wrc E M b o u.cells with
        | none => rw [hw] at h2; simp [undefR] at h2
        | some M2 => rw [hw] at h2; cases h2; exact Fr.wrc hw (by simp [tchW])
  case nilCheck x =>
    refine FrT.of ?_
    unfold dNil at h
    split at h <;> first | (cases h; rfl) | cases h
  case binOp op t x y yt =>
    refine FrT.of ?_
    unfold dBin at h
    split at h <;> first | exact d1_M h | cases h
  case unOp op t x =>
    refine FrT.of ?_
    unfold dUn at h
    split at h <;> first | exact d1_M h | cases h
  case convert s d x =>
    refine FrT.of ?_
    unfold dConv at h
    split at h <;> try (cases h; done)
    split at h <;> try (cases h; done)
    unfold convA at h
    split at h <;> try (cases h; done)
    split at h <;> first | (cases h; rfl) | cases h
  case makeFunc f first caps =>
    refine FrT.of ?_
    unfold dMkFunc at h
    split at h <;> try (cases h; done)
    unfold dFunc at h
    split at h <;> first | (cases h; rfl) | cases h
  case makeSlice t x y =>
    refine ⟨?_, by simp [touch]⟩
    unfold dMake at h
    split at h <;> try (cases h; done)
    split at h <;> try (cases h; done)
    split at h <;> try (cases h; done)
    rename_i j _ _ n _ _ m _
    cases hc : (Nat.ble n m && Nat.ble m 1048576 && Nat.ble j.bytes 65536 && Nat.beq j.zero.cells.length j.size) with
    | false => rw [hc] at h; cases h
    | true => rw [hc, cond_true] at h; exact sliceR_M h _
  case slice t x lo hi mx =>
    refine FrT.of ?_
    unfold dSlice at h
    split at h <;> try (cases h; done)
    unfold dSlice1 at h
    split at h <;> try (cases h; done)
    split at h <;> try (cases h; done)
    split at h <;> first | exact d1_M h | cases h
  case fieldAddr s x f =>
    refine FrT.of ?_
    unfold dFieldAddr at h
    split at h <;> try (cases h; done)
    split at h <;> try (cases h; done)
    split at h <;> try (cases h; done)
    split at h <;> try (cases h; done)
    unfold ptrF at h
    split at h <;> try (cases h; done)
    rename_i j _
    cases hz : Nat.beq j.size 0 with
    | true => rw [hz] at h; cases h
    | false => rw [hz] at h; cases h; rfl
  case field t x f =>
    refine FrT.of ?_
    unfold dField at h
    split at h <;> try (cases h; done)
    split at h <;> try (cases h; done)
    split at h <;> try (cases h; done)
    split at h <;> first | exact d1_M h | cases h
  case indexAddr t x ix =>
    have hE : ∀ {b o n i j} {r : AV × Mem}, ptrE M b o n i j = some r → r.2 = M := by
      intro b o n i j r h
      unfold ptrE at h
      split at h <;> try (cases h; done)
      split at h <;> try (cases h; done)
      rename_i k
      cases hz : Nat.blt k n with
      | true => rw [hz] at h; cases h; rfl
      | false => rw [hz] at h; cases h
    refine FrT.of ?_
    unfold dIndexAddr at h
    split at h <;> try (cases h; done)
    split at h <;> try (cases h; done)
    all_goals (split at h <;> first | exact hE h | cases h)
  case index t x ix =>
    have hI : ∀ {cs n i j} {r : AV × Mem}, idxE M cs n i j = some r → r.2 = M := by
      intro cs n i j r h
      unfold idxE at h
      split at h <;> try (cases h; done)
      split at h <;> try (cases h; done)
      rename_i j k
      cases hz : Nat.blt k n with
      | true => rw [hz] at h; exact d1_M h
      | false => rw [hz] at h; cases h
    have hS : ∀ {s i} {r : AV × Mem}, idxS M s i = some r → r.2 = M := by
      intro s i r h
      unfold idxS at h
      split at h <;> try (cases h; done)
      split at h <;> first | (cases h; rfl) | cases h
    refine FrT.of ?_
    unfold dIndex at h
    split at h <;> try (cases h; done)
    split at h <;> try (cases h; done)
    · split at h <;> first | exact hI h | cases h
    · split at h <;> first | exact hS h | cases h
  case extract x ix =>
    refine FrT.of ?_
    unfold dExtract at h
    split at h <;> first | exact d1_M h | cases h
  case pick c x y =>
    refine FrT.of ?_
    cases hc : opd T c with
    | none => rw [hc] at h; simp [dPick] at h
    | some u =>
      rw [hc] at h
      cases u <;> simp only [dPick] at h <;> first | (cases h; done) | skip
      rename_i t
      cases t with
      | true => exact d1_M h
      | false => exact d1_M h
  case call c =>
    simp only [callOp] at h
    cases hcc : c.callee with
    | invoke r nm => rw [hcc] at h; cases h
    | builtin b =>
      rw [hcc] at h
      have := builtin_fr h
      have e : touch tab T (.call c) = tchBi b (opds T c.args.toList) := by
        simp only [touch, tchC, hcc]
        cases b <;> rfl
      rw [e]; exact this
    | value f =>
      rw [hcc] at h
      have e : touch tab T (.call c) = tchCall tab (opd T f) := by simp only [touch, tchC, hcc]
      rw [e] at hna ⊢
      simp only [] at h
      unfold callV? at h
      split at h <;> try (cases h; done)
      rename_i avs fv _ hfv
      rw [hfv] at hna ⊢
      cases fv <;> simp only [callV] at h <;> first | (cases h; done) | skip
      case func g fs caps =>
        simp only [tchCall] at hna ⊢
        cases hsh : tab.shares g with
        | true => rw [hsh] at hna; exact absurd rfl hna
        | false =>
          rw [hsh, cond_false] at h
          obtain ⟨v, M'⟩ := r
          obtain ⟨l, _, rfl⟩ := addTo_some h
          exact ⟨Fr.pushAll l, by simp⟩
      case yld l => exact absurd rfl hna
end
end Go.Sx
/- S, text K: an operation's slots. -/
namespace Go.Sx
open Go.RowKit
section
variable {tab : Tab} {E : Env} {M M' : Mem} {v : AV} {T T' : Tbl AV}

def SameOn (T T' : Tbl AV) (t : Nat) : Prop := orUndef (T.get t) = orUndef (T'.get t)
theorem opds_congr : ∀ (l : List Operand), (∀ x ∈ l, opd T x = opd T' x) → opds T l = opds T' l
  | [], _ => rfl
  | x :: l, h => by simp only [opds, h x (by simp), opds_congr l (fun y hy => h y (by simp [hy]))]
theorem opdO_congr (x : Option Operand) (h : ∀ y, x = some y → opd T y = opd T' y) : opdO T x = opdO T' x := by
  cases x with
  | none => rfl
  | some y => simp only [opdO, h y rfl]
theorem fillA_congr (place : Nat → Option (Nat × Nat)) : ∀ (l : List (Nat × Operand)) (cs : Option (List AV)), (∀ p ∈ l, opd T p.2 = opd T' p.2) → fillA place T l cs = fillA place T' l cs
  | [], none, _ => rfl
  | [], some cs, _ => rfl
  | _ :: _, none, _ => rfl
  | (i, x) :: l, some cs, h => by
    simp only [fillA]
    rw [h (i, x) (by simp), fillA_congr place l _ (fun p hp => h p (by simp [hp]))]
theorem dBuild_congr (ty : Nat → Option TyI) (l : List (Nat × Operand)) (i : Option TyI) (h : ∀ p ∈ l, opd T p.2 = opd T' p.2) : dBuild ty T M l i = dBuild ty T' M l i := by
  unfold dBuild dBuildA
  simp only [fillA_congr _ l _ h]
theorem dBuildSlice_congr (len : Nat) (l : List (Nat × Operand)) (i : Option TyI) (h : ∀ p ∈ l, opd T p.2 = opd T' p.2) : dBuildSlice E T M len l i = dBuildSlice E T' M len l i := by
  unfold dBuildSlice
  simp only [fillA_congr _ l _ h]
theorem xop_congr {ih : Ih} {hid : Nat → Bool} {op : Op} (h : ∀ x ∈ op.operands.toList, opd T x = opd T' x) : xop tab ih E hid T M op = xop tab ih E hid T' M op ∧ touch tab T op = touch tab T' op := by
  cases op <;> simp only [xop, dop, touch, and_true, true_and]
  case move x => rw [h x (by simp [Op.operands])]
  case assign x => rw [h x (by simp [Op.operands])]
  case box t x => rw [h x (by simp [Op.operands])]
  case build t parts => exact dBuild_congr _ _ _ (fun p hp => h p.2 (by simp only [Op.operands, List.mem_map]; exact ⟨p, hp, rfl⟩))
  case buildSlice t len parts => exact dBuildSlice_congr _ _ _ (fun p hp => h p.2 (by simp only [Op.operands, List.mem_map]; exact ⟨p, hp, rfl⟩))
  case load t x => rw [h x (by simp [Op.operands])]; simp
  case store t x y => rw [h x (by simp [Op.operands]), h y (by simp [Op.operands])]; simp
  case nilCheck x => rw [h x (by simp [Op.operands])]
  case binOp op t x y yt => rw [h x (by simp [Op.operands]), h y (by simp [Op.operands])]
  case unOp op t x => rw [h x (by simp [Op.operands])]
  case convert s d x => rw [h x (by simp [Op.operands])]
  case makeFunc f first caps =>
    unfold dMkFunc
    rw [opds_congr first.toList (fun x hx => h x (by simp only [Op.operands, Array.toList_append, List.mem_append]; exact .inl hx)), opds_congr caps.toList (fun x hx => h x (by simp only [Op.operands, Array.toList_append, List.mem_append]; exact .inr hx))]
  case makeSlice t x y => rw [h x (by simp [Op.operands]), h y (by simp [Op.operands])]
  case slice t x lo hi mx =>
    rw [h x (by simp [Op.operands]), opdO_congr lo (fun y e => h y (by simp [Op.operands, e])), opdO_congr hi (fun y e => h y (by simp [Op.operands, e])), opdO_congr mx (fun y e => h y (by simp [Op.operands, e]))]
  case fieldAddr s x f => rw [h x (by simp [Op.operands])]
  case field t x f => rw [h x (by simp [Op.operands])]
  case indexAddr t x ix => rw [h x (by simp [Op.operands]), h ix (by simp [Op.operands])]
  case index t x ix => rw [h x (by simp [Op.operands]), h ix (by simp [Op.operands])]
  case extract x ix => rw [h x (by simp [Op.operands])]
  case pick c x y => rw [h c (by simp [Op.operands]), h x (by simp [Op.operands]), h y (by simp [Op.operands])]
  case call c =>
    have ha : opds T c.args.toList = opds T' c.args.toList := opds_congr _ (fun x hx => h x (by
      simp only [Op.operands, Call.operands]
      cases hcc : c.callee <;> simp_all))
    unfold callOp tchC
    cases hcc : c.callee with
    | invoke r nm => simp
    | builtin b => simp only [ha]; cases b <;> first | exact ⟨rfl, rfl⟩ | exact ⟨rfl, trivial⟩ | simp
    | value f =>
      have hf : opd T f = opd T' f := h f (by simp [Op.operands, Call.operands, hcc])
      simp only [ha, hf]
      first | exact ⟨rfl, rfl⟩ | exact ⟨rfl, trivial⟩ | simp
theorem opd_same {ops : List Oper} {o : Oper} (h : ∀ t ∈ usesOf ops o, SameOn T T' t) : ∀ x ∈ o.op.operands.toList, opd T x = opd T' x := by
  intro x hx
  cases x with
  | tmp t =>
    simp only [opd]
    have := h t (by
      unfold usesOf
      simp only [List.mem_append]
      refine .inl (.inl ?_)
      exact List.mem_filterMap.2 ⟨.tmp t, hx, rfl⟩)
    rw [this]
  | const c => rfl
  | func f => rfl
  | global g => rfl
theorem wanted_same {ops : List Oper} {o : Oper} (h : ∀ t ∈ usesOf ops o, SameOn T T' t) : wantedA ops T o.guard = wantedA ops T' o.guard := by
  unfold wantedA
  cases hg : o.guard with
  | none => rfl
  | some p =>
    obtain ⟨j, want⟩ := p
    simp only []
    unfold wantT
    cases hd : dstOf ops j with
    | none => rfl
    | some t =>
      simp only []
      rw [h t (by
        unfold usesOf
        simp only [List.mem_append]
        refine .inl (.inr ?_)
        simp [hg, hd])]
theorem uses_dst {ops : List Oper} {o : Oper} {t : Tmp} (h : o.dst = some t) : t ∈ usesOf ops o := by
  unfold usesOf
  simp only [List.mem_append]
  exact .inr (by simp [h])
end

/-! ### Who is apart from whom -/
theorem beq_false_iff (a b : Nat) : (!(Nat.beq a b)) = true ↔ a ≠ b := by
  cases h : Nat.beq a b with
  | true => simp [beqT h]
  | false => simp [beqN h]
theorem apart_RW {s t : Tch} (h : apart s t = true) {b : Nat} (hb : b ∈ tchR s) : b ∉ tchW t := by
  cases s <;> cases t <;> simp only [apart, tchR, tchW, Bool.and_eq_true, beq_false_iff, List.mem_cons, List.not_mem_nil, or_false, not_false_eq_true] at h hb ⊢ <;> first | (cases h; done) | (cases hb; done) | skip
  all_goals (intro e; subst e; first | (subst hb; simp at h; done) | (rcases hb with rfl | rfl <;> simp at h))
theorem apart_WR {s t : Tch} (h : apart s t = true) {b : Nat} (hb : b ∈ tchW s) : b ∉ tchR t := by
  cases s <;> cases t <;> simp only [apart, tchR, tchW, Bool.and_eq_true, beq_false_iff, List.mem_cons, List.not_mem_nil, or_false, not_false_eq_true, not_or] at h hb ⊢ <;> first | (cases h; done) | (cases hb; done) | skip
  all_goals (subst hb; first | exact h | exact fun e => h e.symm | (refine ⟨fun e => ?_, fun e => ?_⟩ <;> subst e <;> simp at h) | (intro e; subst e; simp at h))
theorem tchW_R {t : Tch} {b : Nat} (h : b ∈ tchW t) : b ∈ tchR t := by cases t <;> simp_all [tchW, tchR]
theorem apart_all_l {t : Tch} (h : apart .all t = true) : t = .none := by cases t <;> simp [apart] at h; rfl
theorem apart_all_r {t : Tch} (h : apart t .all = true) : t = .none := by cases t <;> simp [apart] at h; rfl
theorem apart_cal_l {t : Tch} (h : apart .cal t = true) : tchW t = [] ∧ t ≠ .all := by cases t <;> simp [apart, tchW] at h ⊢
theorem apart_cal_r {t : Tch} (h : apart t .cal = true) : tchW t = [] ∧ t ≠ .all := by cases t <;> simp [apart, tchW] at h ⊢
theorem outside_mem {lo hi : Nat} : ∀ {l : List Nat}, outside lo hi l = true → ∀ b ∈ l, ¬ (lo ≤ b ∧ b < hi)
  | [], _, b, hb => by simp at hb
  | x :: l, h, b, hb => by
    simp only [outside] at h
    cases hc : (Nat.ble lo x && Nat.blt x hi) with
    | true => rw [hc] at h; cases h
    | false =>
      rw [hc, cond_false] at h
      rcases List.mem_cons.1 hb with rfl | hb
      · rintro ⟨h1, h2⟩
        rw [Nat.ble_eq_true_of_le h1, bltOf h2] at hc
        cases hc
      · exact outside_mem h b hb
theorem inside_mem {hi : Nat} : ∀ {l : List Nat}, inside hi l = true → ∀ b ∈ l, b < hi
  | [], _, b, hb => by simp at hb
  | x :: l, h, b, hb => by
    simp only [inside] at h
    cases hc : Nat.blt x hi with
    | false => rw [hc] at h; cases h
    | true =>
      rw [hc, cond_true] at h
      rcases List.mem_cons.1 hb with rfl | hb
      · exact bltT hc
      · exact inside_mem h b hb
end Go.Sx
/- S, text L: the trace of a region that draws its order. -/
namespace Go.Sx
open Go.RowKit

/-- S's run of a region, in the text's order. -/
structure Trace (tab : Tab) (ih : Ih) (E : Env) (ops : List Oper) (bf : List Nat) where
  Ts : Nat → Tbl AV
  Ms : Nat → Mem
  vs : Nat → AV
  wt : Nat → Bool
  Ds : Nat → List Done
structure TraceOK (tab : Tab) (ih : Ih) (E : Env) (ops : List Oper) (bf : List Nat) (tr : Trace tab ih E ops bf) (i : Nat) (o : Oper) (m : Nat) : Prop where
  wt : tr.wt i = wantedA ops (tr.Ts i) o.guard
  ts : tr.Ts (i + 1) = putT (tr.Ts i) (tr.vs i) o.dst
  off : tr.wt i = false → tr.Ms (i + 1) = tr.Ms i ∧ tr.vs i = .undef ∧ tr.Ds (i + 1) = tr.Ds i
  on : tr.wt i = true → xop tab ih E (hidden m (tr.Ds i)) (tr.Ts i) (tr.Ms i) o.op = some (tr.vs i, tr.Ms (i + 1)) ∧ apartAll m (touch tab (tr.Ts i) o.op) (tr.Ds i) = true ∧
    inside (E.m0 + (tr.Ms i).n) (tchR (touch tab (tr.Ts i) o.op)) = true ∧ (tr.Ms i).n ≤ (tr.Ms (i + 1)).n ∧
    tr.Ds (i + 1) = { ix := i, tch := touch tab (tr.Ts i) o.op, lo := E.m0 + (tr.Ms i).n, hi := E.m0 + (tr.Ms (i + 1)).n } :: tr.Ds i
section
variable {tab : Tab} {ih : Ih} {E : Env} {ops : List Oper} {bf : List Nat}
theorem drawRun_trace : ∀ (l : List Oper) (ms : List Nat) (k : Nat) (ds : List Done) (T : Tbl AV) (M : Mem) (T' : Tbl AV) (M' : Mem), drawRun tab ih E ops l ms k ds T M = some (T', M') →
    ∃ tr : Trace tab ih E ops bf, tr.Ts k = T ∧ tr.Ms k = M ∧ tr.Ds k = ds ∧ tr.Ts (k + l.length) = T' ∧ tr.Ms (k + l.length) = M' ∧ ∀ i o, l[i]? = some o → ∃ m, ms[i]? = some m ∧ TraceOK tab ih E ops bf tr (k + i) o m
  | [], ms, k, ds, T, M, T', M', h => by
    simp only [drawRun, Option.some.injEq, Prod.mk.injEq] at h
    obtain ⟨rfl, rfl⟩ := h
    exact ⟨⟨fun _ => T, fun _ => M, fun _ => .undef, fun _ => false, fun _ => ds⟩, rfl, rfl, rfl, rfl, rfl, by simp⟩
  | _ :: _, [], k, ds, T, M, T', M', h => by simp [drawRun] at h
  | o :: l, m :: ms, k, ds, T, M, T', M', h => by
    simp only [drawRun] at h
    have step : ∀ (v : AV) (M1 : Mem) (w : Bool) (ds1 : List Done), drawRun tab ih E ops l ms (k + 1) ds1 (putT T v o.dst) M1 = some (T', M') →
        (∀ tr : Trace tab ih E ops bf, tr.Ts k = T → tr.Ms k = M → tr.Ds k = ds → tr.Ts (k + 1) = putT T v o.dst → tr.Ms (k + 1) = M1 → tr.Ds (k + 1) = ds1 → tr.vs k = v → tr.wt k = w → TraceOK tab ih E ops bf tr k o m) →
        ∃ tr : Trace tab ih E ops bf, tr.Ts k = T ∧ tr.Ms k = M ∧ tr.Ds k = ds ∧ tr.Ts (k + (o :: l).length) = T' ∧ tr.Ms (k + (o :: l).length) = M' ∧ ∀ i o', (o :: l)[i]? = some o' → ∃ m', (m :: ms)[i]? = some m' ∧ TraceOK tab ih E ops bf tr (k + i) o' m' := by
      intro v M1 w ds1 h1 hk
      obtain ⟨tr, t1, t2, t3, t4, t5, t6⟩ := drawRun_trace l ms (k + 1) ds1 _ M1 T' M' h1
      let tr' : Trace tab ih E ops bf := ⟨fun j => if j = k then T else tr.Ts j, fun j => if j = k then M else tr.Ms j, fun j => if j = k then v else tr.vs j, fun j => if j = k then w else tr.wt j, fun j => if j = k then ds else tr.Ds j⟩
      have ne : ∀ j, k < j → tr'.Ts j = tr.Ts j ∧ tr'.Ms j = tr.Ms j ∧ tr'.vs j = tr.vs j ∧ tr'.wt j = tr.wt j ∧ tr'.Ds j = tr.Ds j := fun j hj => by
        have : ¬ j = k := by omega
        simp [tr', this]
      have eq : tr'.Ts k = T ∧ tr'.Ms k = M ∧ tr'.vs k = v ∧ tr'.wt k = w ∧ tr'.Ds k = ds := by simp [tr']
      refine ⟨tr', eq.1, eq.2.1, eq.2.2.2.2, ?_, ?_, ?_⟩
      · rw [(ne _ (by simp)).1, ← t4]; congr 1; simp only [List.length_cons]; omega
      · rw [(ne _ (by simp)).2.1, ← t5]; congr 1; simp only [List.length_cons]; omega
      · intro i o' hi
        cases i with
        | zero =>
          simp only [List.getElem?_cons_zero, Option.some.injEq] at hi
          subst hi
          refine ⟨m, rfl, ?_⟩
          rw [Nat.add_zero]
          exact hk tr' eq.1 eq.2.1 eq.2.2.2.2 (by rw [(ne _ (by omega)).1]; exact t1) (by rw [(ne _ (by omega)).2.1]; exact t2) (by rw [(ne _ (by omega)).2.2.2.2]; exact t3) eq.2.2.1 eq.2.2.2.1
        | succ i =>
          obtain ⟨m', h1, h2⟩ := t6 i o' (by simpa using hi)
          refine ⟨m', by simpa using h1, ?_⟩
          rw [show k + (i + 1) = k + 1 + i by omega]
          obtain ⟨a1, a2, a3, a4, a5⟩ := ne (k + 1 + i) (by omega)
          obtain ⟨b1, b2, b3, b4, b5⟩ := ne (k + 1 + i + 1) (by omega)
          refine ⟨?_, ?_, ?_, ?_⟩
          · rw [a4, a1]; exact h2.wt
          · rw [b1, a1, a3]; exact h2.ts
          · rw [a4, b2, a2, a3, b5, a5]; exact h2.off
          · rw [a4, b2, a1, a2, a3, b5, a5]; exact h2.on
    cases hw : wantedA ops T o.guard with
    | false =>
      rw [hw, cond_false] at h
      refine step .undef M false ds h (fun tr e1 e2 e3 e4 e5 e6 e7 e8 => ⟨by rw [e8, e1, hw], by rw [e4, e1, e7], fun _ => ⟨by rw [e5, e2], e7, by rw [e6, e3]⟩, fun e => (by rw [e8] at e; cases e)⟩)
    | true =>
      rw [hw, cond_true] at h
      simp only [draw1] at h
      cases hc : (apartAll m (touch tab T o.op) ds && inside (E.m0 + M.n) (tchR (touch tab T o.op))) with
      | false => rw [hc] at h; cases h
      | true =>
        rw [hc, cond_true] at h
        simp only [Bool.and_eq_true] at hc
        cases hx : xop tab ih E (hidden m ds) T M o.op with
        | none => rw [hx] at h; simp [drawNext] at h
        | some r =>
          obtain ⟨v, M1⟩ := r
          rw [hx] at h
          simp only [drawNext] at h
          cases hn : Nat.ble M.n M1.n with
          | false => rw [hn] at h; cases h
          | true =>
            rw [hn, cond_true] at h
            refine step v M1 true _ h (fun tr e1 e2 e3 e4 e5 e6 e7 e8 => ⟨by rw [e8, e1, hw], by rw [e4, e1, e7], fun e => (by rw [e8] at e; cases e), fun _ => ?_⟩)
            rw [e1, e2, e3, e5, e6, e7]
            exact ⟨hx, hc.1, hc.2, bleT hn, rfl⟩
end
end Go.Sx
/- S, text M: a region that draws its order: what is known of S's run. -/
namespace Go.Sx
open Go.RowKit
section
variable {P : Program} {tab : Tab} {ih : Ih} {E : Env} {ops : Array Oper}

abbrev Tr (tab : Tab) (ih : Ih) (E : Env) (ops : Array Oper) := Trace tab ih E ops.toList (Region.before ops).toList
def opAt (ops : Array Oper) (i : Nat) : Oper := ops.getD i default
def Bef (ops : Array Oper) (i j : Nat) : Prop := ((Region.before ops).getD i 0).testBit j = true
namespace Trace
def lo (tr : Tr tab ih E ops) (i : Nat) : Nat := E.m0 + (tr.Ms i).n
def tch (tr : Tr tab ih E ops) (i : Nat) : Tch := touch tab (tr.Ts i) (opAt ops i).op
def Aff (tr : Tr tab ih E ops) (i b : Nat) : Prop := tr.wt i = true ∧ (tr.tch i = .all ∨ b ∈ tchW (tr.tch i) ∨ (tr.lo i ≤ b ∧ b < tr.lo (i + 1)))
end Trace
structure DR (tab : Tab) (ih : Ih) (E : Env) (ops : Array Oper) (tr : Tr tab ih E ops) : Prop where
  tok : ∀ i, i < ops.size → TraceOK tab ih E ops.toList (Region.before ops).toList tr i (opAt ops i) ((Region.before ops).getD i 0)
  ds0 : tr.Ds 0 = []
  edges : ∀ i, i < ops.size → ∀ e ∈ (opAt ops i).after, Region.binds .any e = true → e.on < i
  slots : ∀ i j, i < ops.size → j < ops.size → ∀ t, (opAt ops j).dst = some t → t ∈ usesOf ops.toList (opAt ops i) → i = j ∨ (j < i ∧ Bef ops i j) ∨ (i < j ∧ Bef ops j i)
  masks : ∀ i j, i < ops.size → j < ops.size → Bef ops i j → ∃ e ∈ (opAt ops i).after, Region.binds .any e = true ∧ (e.on = j ∨ Bef ops e.on j)
theorem opAt_get {i : Nat} (h : i < ops.size) : ops[i]? = some (opAt ops i) := by simp [opAt, h]
theorem zipIdx_all {p : Oper × Nat → Bool} (h : (ops.toList.zipIdx).all p = true) {i : Nat} (hi : i < ops.size) : p (opAt ops i, i) = true := by
  rw [List.all_eq_true] at h
  apply h
  rw [List.mem_zipIdx_iff_getElem?]
  simp [opAt, hi]
theorem DR.of {T T' : Tbl AV} {M M' : Mem} (h : drawRun tab ih E ops.toList ops.toList (Region.before ops).toList 0 [] T M = some (T', M')) (hok : drawOk ops = true) :
    ∃ tr : Tr tab ih E ops, DR tab ih E ops tr ∧ tr.Ts 0 = T ∧ tr.Ms 0 = M ∧ tr.Ts ops.size = T' ∧ tr.Ms ops.size = M' := by
  obtain ⟨tr, t1, t2, t3, t4, t5, t6⟩ := drawRun_trace (bf := (Region.before ops).toList) ops.toList (Region.before ops).toList 0 [] T M T' M' h
  simp only [drawOk, Bool.and_eq_true] at hok
  obtain ⟨⟨h1, h2⟩, h3⟩ := hok
  simp only [Nat.zero_add, Array.length_toList] at t4 t5
  refine ⟨tr, ⟨fun i hi => ?_, t3, fun i hi e he hb => ?_, fun i j hi hj t hd hu => ?_, fun i j hi hj hb => ?_⟩, t1, t2, t4, t5⟩
  · obtain ⟨m, m1, m2⟩ := t6 i (opAt ops i) (by rw [Array.getElem?_toList]; exact opAt_get hi)
    rw [Nat.zero_add] at m2
    have : (Region.before ops).getD i 0 = m := by
      rw [Array.getElem?_toList] at m1
      rw [Array.getD_eq_getD_getElem?, m1]; rfl
    rw [this]; exact m2
  · have := zipIdx_all h1 hi
    simp only [edgesLt, Array.all_eq_true_iff_forall_mem, Bool.or_eq_true, Bool.not_eq_true'] at this
    rcases this e he with h | h
    · rw [hb] at h; cases h
    · exact bltT h
  · have h2' := zipIdx_all (p := fun q => ops.toList.zipIdx.all fun r => match r.1.dst with | some t => !(usesOf ops.toList q.1).contains t || ordered (Region.before ops) q.2 r.2 | none => true) h2 hi
    have h3' := zipIdx_all h2' hj
    simp only [hd, Bool.or_eq_true, Bool.not_eq_true'] at h3'
    rcases h3' with h | h
    · have : (usesOf ops.toList (opAt ops i)).contains t = true := List.contains_iff_mem.2 hu
      rw [this] at h; cases h
    · simp only [ordered, Bool.or_eq_true] at h
      rcases h with h | h
      · exact .inl (beqT h)
      · rcases Nat.lt_trichotomy i j with hlt | he | hgt
        · exact .inr (.inr ⟨hlt, by unfold Bef; rw [show max i j = j by omega, show min i j = i by omega] at h; exact h⟩)
        · exact .inl he
        · exact .inr (.inl ⟨hgt, by unfold Bef; rw [show max i j = i by omega, show min i j = j by omega] at h; exact h⟩)
  · have h3' := zipIdx_all (p := fun q => (List.range ops.toList.length).all fun j => !((Region.before ops).getD q.2 0).testBit j || q.1.after.any fun e => Region.binds .any e && (Nat.beq e.on j || ((Region.before ops).getD e.on 0).testBit j)) h3 hi
    simp only [List.all_eq_true, List.mem_range, Array.length_toList, Bool.or_eq_true, Bool.not_eq_true'] at h3'
    rcases h3' j hj with h | h
    · unfold Bef at hb; rw [hb] at h; cases h
    · rw [← Array.any_toList, List.any_eq_true] at h
      obtain ⟨e, he, h⟩ := h
      rw [Array.mem_toList_iff] at he
      simp only [Bool.and_eq_true, Bool.or_eq_true] at h
      exact ⟨e, he, h.1, h.2.imp beqT id⟩

theorem apartAll_mem {m : Nat} {t : Tch} : ∀ {l : List Done}, apartAll m t l = true → ∀ d ∈ l, m.testBit d.ix = true ∨ (apart t d.tch = true ∧ outside d.lo d.hi (tchR t) = true)
  | [], _, d, hd => by simp at hd
  | x :: l, h, d, hd => by
    simp only [apartAll] at h
    cases hc : (m.testBit x.ix || (apart t x.tch && outside x.lo x.hi (tchR t))) with
    | false => rw [hc] at h; cases h
    | true =>
      rw [hc, cond_true] at h
      rcases List.mem_cons.1 hd with rfl | hd
      · simpa using hc
      · exact apartAll_mem h d hd
theorem hidden_mem {m : Nat} {b : Nat} : ∀ {l : List Done}, ∀ d ∈ l, m.testBit d.ix = false → d.lo ≤ b → b < d.hi → hidden m l b = true
  | [], d, hd, _, _, _ => by simp at hd
  | x :: l, d, hd, h1, h2, h3 => by
    simp only [hidden]
    cases hc : (!m.testBit x.ix && Nat.ble x.lo b && Nat.blt b x.hi) with
    | true => rfl
    | false =>
      rw [cond_false]
      rcases List.mem_cons.1 hd with rfl | hd
      · rw [h1, Nat.ble_eq_true_of_le h2, bltOf h3] at hc; cases hc
      · exact hidden_mem d hd h1 h2 h3

variable {tr : Tr tab ih E ops} (D : DR tab ih E ops tr)
include D
theorem DR.step_le {i : Nat} (hi : i < ops.size) : tr.lo i ≤ tr.lo (i + 1) := by
  have h := D.tok i hi
  unfold Trace.lo
  cases hw : tr.wt i with
  | false => rw [(h.off hw).1]; exact Nat.le_refl _
  | true => have := (h.on hw).2.2.2.1; omega
theorem DR.mono {i j : Nat} (hij : i ≤ j) (hj : j ≤ ops.size) : tr.lo i ≤ tr.lo j := by
  induction j with
  | zero => obtain rfl : i = 0 := by omega
            exact Nat.le_refl _
  | succ j ih' =>
    rcases Nat.lt_or_ge i (j + 1) with h | h
    · exact Nat.le_trans (ih' (by omega) (by omega)) (D.step_le (by omega))
    · obtain rfl : i = j + 1 := by omega
      exact Nat.le_refl _
theorem DR.done {i j : Nat} (hji : j < i) (hi : i ≤ ops.size) (hw : tr.wt j = true) : ({ ix := j, tch := tr.tch j, lo := tr.lo j, hi := tr.lo (j + 1) } : Done) ∈ tr.Ds i := by
  induction i with
  | zero => omega
  | succ i ih' =>
    have h := D.tok i (by omega)
    have hsub : ∀ d ∈ tr.Ds i, d ∈ tr.Ds (i + 1) := fun d hd => by
      cases hwi : tr.wt i with
      | false => rw [(h.off hwi).2.2]; exact hd
      | true => rw [(h.on hwi).2.2.2.2]; exact List.mem_cons_of_mem _ hd
    rcases Nat.lt_or_ge j i with hlt | hge
    · exact hsub _ (ih' hlt (by omega))
    · obtain rfl : j = i := by omega
      rw [(h.on hw).2.2.2.2]
      exact List.mem_cons_self
theorem DR.apartd {i j : Nat} (hi : i < ops.size) (hji : j < i) (hwi : tr.wt i = true) (hwj : tr.wt j = true) (hb : ¬ Bef ops i j) : apart (tr.tch i) (tr.tch j) = true ∧ ∀ b ∈ tchR (tr.tch i), ¬ (tr.lo j ≤ b ∧ b < tr.lo (j + 1)) := by
  have h := (D.tok i hi).on hwi
  rcases apartAll_mem h.2.1 _ (D.done hji (by omega) hwj) with h1 | ⟨h1, h2⟩
  · exact absurd h1 hb
  · exact ⟨h1, outside_mem h2⟩
theorem DR.hid {i j b : Nat} (hi : i < ops.size) (hji : j < i) (hwj : tr.wt j = true) (hb : ¬ Bef ops i j) (h1 : tr.lo j ≤ b) (h2 : b < tr.lo (j + 1)) : hidden ((Region.before ops).getD i 0) (tr.Ds i) b = true :=
  hidden_mem _ (D.done hji (by omega) hwj) (by
    unfold Bef at hb
    simpa using hb) h1 h2
theorem DR.inside {i b : Nat} (hi : i < ops.size) (hwi : tr.wt i = true) (hb : b ∈ tchR (tr.tch i)) : b < tr.lo i := inside_mem ((D.tok i hi).on hwi).2.2.1 b hb
theorem DR.none_aff {i b : Nat} (hi : i < ops.size) (ht : tr.tch i = .none) : ¬ tr.Aff i b := by
  rintro ⟨hw, h⟩
  have hon := (D.tok i hi).on hw
  have hfr := xop_fr hon.1 (by show tr.tch i ≠ .all; rw [ht]; simp)
  have hn : (tr.Ms (i + 1)).n = (tr.Ms i).n := hfr.2 ht
  rw [ht] at h
  simp only [tchW, List.not_mem_nil, false_or] at h
  rcases h with h | h
  · cases h
  · unfold Trace.lo at h; omega
theorem DR.unaff {i b : Nat} (hi : i < ops.size) (h : ¬ tr.Aff i b) : heapOf E (tr.Ms (i + 1)) b = heapOf E (tr.Ms i) b := by
  cases hw : tr.wt i with
  | false => rw [((D.tok i hi).off hw).1]
  | true =>
    have hon := (D.tok i hi).on hw
    by_cases ha : tr.tch i = .all
    · exact absurd ⟨hw, .inl ha⟩ h
    · have hfr := (xop_fr hon.1 ha).1
      refine hfr.same b (fun hb => h ⟨hw, .inr (.inl hb)⟩) ?_
      rcases Nat.lt_or_ge b (tr.lo i) with h1 | h1
      · exact .inl h1
      · rcases Nat.lt_or_ge b (tr.lo (i + 1)) with h2 | h2
        · exact absurd ⟨hw, .inr (.inr ⟨h1, h2⟩)⟩ h
        · exact .inr h2
theorem DR.unaff_range {i j b : Nat} (hij : i ≤ j) (hj : j ≤ ops.size) (h : ∀ k, i ≤ k → k < j → ¬ tr.Aff k b) : heapOf E (tr.Ms j) b = heapOf E (tr.Ms i) b := by
  induction j with
  | zero => obtain rfl : i = 0 := by omega
            rfl
  | succ j ih' =>
    rcases Nat.lt_or_ge i (j + 1) with hlt | hge
    · rw [D.unaff (by omega) (h j (by omega) (by omega)), ih' (by omega) (by omega) (fun k h1 h2 => h k h1 (by omega))]
    · obtain rfl : i = j + 1 := by omega
      rfl
theorem DR.unset_range {i j t : Nat} (hij : i ≤ j) (hj : j ≤ ops.size) (h : ∀ k, i ≤ k → k < j → (opAt ops k).dst ≠ some t) : SameOn (tr.Ts j) (tr.Ts i) t := by
  induction j with
  | zero => obtain rfl : i = 0 := by omega
            rfl
  | succ j ih' =>
    rcases Nat.lt_or_ge i (j + 1) with hlt | hge
    · have h1 := ih' (by omega) (by omega) (fun k h1 h2 => h k h1 (by omega))
      have hne := h j (by omega) (by omega)
      refine Eq.trans ?_ h1
      rw [(D.tok j (by omega)).ts]
      unfold putT
      cases hd : (opAt ops j).dst with
      | none => rfl
      | some u =>
        have : t ≠ u := fun e => hne (by rw [hd, e])
        simp only [Tbl.get_set, if_neg this]
    · obtain rfl : i = j + 1 := by omega
      rfl
/-- The range of new blocks that a number lies in, is one. -/
theorem DR.range_one {i j k : Nat} (hi : i < ops.size) (hj : j < ops.size) (h1 : tr.lo i ≤ k) (h2 : k < tr.lo (i + 1)) (h3 : tr.lo j ≤ k) (h4 : k < tr.lo (j + 1)) : i = j := by
  rcases Nat.lt_trichotomy i j with h | h | h
  · have := D.mono (show i + 1 ≤ j by omega) (by omega); omega
  · exact h
  · have := D.mono (show j + 1 ≤ i by omega) (by omega); omega
/-- Two operations of which neither must come first leave each other's blocks alone. -/
theorem DR.two {i j b : Nat} (hj : j < ops.size) (hij : i < j) (hb : ¬ Bef ops j i) (h1 : tr.Aff i b) (h2 : tr.Aff j b) : False := by
  have hi : i < ops.size := by omega
  obtain ⟨hwi, hai⟩ := id h1
  obtain ⟨hwj, haj⟩ := id h2
  obtain ⟨hap, hout⟩ := D.apartd hj hij hwj hwi hb
  by_cases ha1 : tr.tch i = .all
  · rw [ha1] at hap; exact D.none_aff hj (apart_all_r hap) h2
  · by_cases ha2 : tr.tch j = .all
    · rw [ha2] at hap; exact D.none_aff hi (apart_all_l hap) h1
    · rcases hai.resolve_left ha1 with hi1 | hi1
      · rcases haj.resolve_left ha2 with hj1 | hj1
        · exact apart_WR hap hj1 (tchW_R hi1)
        · have h3 := D.inside hi hwi (tchW_R hi1)
          have h4 := D.mono (show i ≤ j by omega) (by omega)
          omega
      · rcases haj.resolve_left ha2 with hj1 | hj1
        · exact hout b (tchW_R hj1) hi1
        · exact absurd (D.range_one hi hj hi1.1 hi1.2 hj1.1 hj1.2) (by omega)
end
end Go.Sx
/- S, text N: a region that draws its order, in whatever order. -/
namespace Go.Sx
open Go.RowKit
section
variable {P : Program} {tab : Tab} {ih : Ih} {E : Env} {ops : Array Oper}

structure DI (E : Env) (ops : Array Oper) (tr : Tr tab ih E ops) (w0 : World) (φ0 : Phi) (dlo sz : Nat) (wS : World) (X : Nat → Prop) (φ : Phi) (H : Heap) (TX : Tbl AV) (a : Act) (w : World) : Prop where
  closed : ∀ i j, i < ops.size → j < ops.size → X i → Bef ops i j → X j
  ro : RoOK φ E w0
  inv : Inv φ w0 H w
  slots : TR φ TX a.tmps
  dfr : DefOK w0 dlo a.defers w
  kw : KW wS w
  le : φ0.Le φ
  new : NewIn φ0 φ (tr.lo 0) (tr.lo ops.size)
  pi : ∀ k, tr.lo 0 ≤ k → φ k ≠ none → ∃ j, j < ops.size ∧ X j ∧ tr.wt j = true ∧ tr.lo j ≤ k ∧ k < tr.lo (j + 1)
  si : ∀ t i, i ≤ ops.size → (∀ j, j < ops.size → (opAt ops j).dst = some t → (X j ↔ j < i)) → SameOn TX (tr.Ts i) t
  hi : ∀ b i, i ≤ ops.size → (∀ j, j < ops.size → tr.Aff j b → (X j ↔ j < i)) → H b = heapOf E (tr.Ms i) b
  size : a.tmps.size = sz
variable {tr : Tr tab ih E ops} (D : DR tab ih E ops tr) {w0 : World} {φ0 : Phi} {dlo sz : Nat} {wS : World} {X X' : Nat → Prop} {φ : Phi} {H : Heap} {TX : Tbl AV} {a : Act} {w : World}
include D
omit D in
/-- Where the blocks that op i looks at are as S has them. -/
theorem DI.before (h : DI E ops tr w0 φ0 dlo sz wS X φ H TX a w) {i : Nat} (hi : i < ops.size) (hX : ¬ X i) (hr : ∀ j, j < ops.size → Bef ops i j → X j) {b : Nat}
    (h1 : ∀ j, j < i → tr.Aff j b → ¬ Bef ops i j → False) (h2 : ∀ j, j < ops.size → i < j → tr.Aff j b → ¬ Bef ops j i → False) : H b = heapOf E (tr.Ms i) b := by
  refine h.hi b i (by omega) (fun j hj ha => ?_)
  rcases Nat.lt_trichotomy j i with hlt | rfl | hgt
  · refine ⟨fun _ => hlt, fun _ => ?_⟩
    by_cases hb : Bef ops i j
    · exact hr j hj hb
    · exact absurd (h1 j hlt ha hb) id
  · exact ⟨fun e => absurd e hX, fun e => by omega⟩
  · refine ⟨fun e => ?_, fun e => by omega⟩
    by_cases hb : Bef ops j i
    · exact absurd (h.closed j i hj hi e hb) hX
    · exact absurd (h2 j hj hgt ha hb) id
theorem DI.uses (h : DI E ops tr w0 φ0 dlo sz wS X φ H TX a w) {i : Nat} (hi : i < ops.size) (hX : ¬ X i) (hr : ∀ j, j < ops.size → Bef ops i j → X j) : ∀ t ∈ usesOf ops.toList (opAt ops i), SameOn TX (tr.Ts i) t := by
  intro t ht
  refine h.si t i (by omega) (fun j hj hd => ?_)
  rcases D.slots i j hi hj t hd ht with rfl | ⟨hlt, hb⟩ | ⟨hgt, hb⟩
  · exact ⟨fun e => absurd e hX, fun e => by omega⟩
  · exact ⟨fun _ => hlt, fun _ => hr j hj hb⟩
  · exact ⟨fun e => absurd (h.closed j i hj hi e hb) hX, fun e => by omega⟩
theorem DI.step (h : DI E ops tr w0 φ0 dlo sz wS X φ H TX a w) {i : Nat} (hi : i < ops.size) (hX : ¬ X i) (hr : ∀ j, j < ops.size → Bef ops i j → X j) (hX' : ∀ j, j < ops.size → (X' j ↔ X j ∨ j = i)) (hok : dstLt a.tmps.size (opAt ops i) = true)
    {φ' : Phi} {H' : Heap} {vC : Value} {w' : World} (k1 : VR φ' (tr.vs i) vC) (k2 : φ.Le φ') (k3 : NewIn φ φ' (tr.lo i) (tr.lo (i + 1))) (k4 : Inv φ' w0 H' w') (k5 : KW w w')
    (k6 : ∀ b, ¬ tr.Aff i b → H' b = H b) (k7 : ∀ b, tr.Aff i b → H b = heapOf E (tr.Ms i) b → H' b = heapOf E (tr.Ms (i + 1)) b) :
    DI E ops tr w0 φ0 dlo sz wS X' φ' H' (putT TX (tr.vs i) (opAt ops i).dst) (a.put (opAt ops i).dst vC) w' := by
  refine ⟨fun p q hp hq hXp hb => ?_, h.ro.mono k2, k4, (h.slots.mono k2).put hok k1, by rw [put_defers]; exact h.dfr.keep k5, h.kw.trans k5, h.le.trans k2, ?_, ?_, ?_, ?_, by rw [put_size]; exact h.size⟩
  · rcases (hX' p hp).1 hXp with e | rfl
    · exact (hX' q hq).2 (.inl (h.closed p q hp hq e hb))
    · exact (hX' q hq).2 (.inl (hr q hq hb))
  · intro k hk
    by_cases e : φ' k = φ k
    · exact h.new k (by rw [← e]; exact hk)
    · have h1 := k3 k e
      have h2 := D.mono (Nat.zero_le i) (by omega)
      have h3 := D.mono (show i + 1 ≤ ops.size by omega) (Nat.le_refl _)
      omega
  · intro k hk hn
    by_cases e : φ' k = φ k
    · obtain ⟨j, j1, j2, j3⟩ := h.pi k hk (by rw [← e]; exact hn)
      exact ⟨j, j1, (hX' j j1).2 (.inl j2), j3⟩
    · have h1 := k3 k e
      refine ⟨i, hi, (hX' i hi).2 (.inr rfl), ?_, h1.1, h1.2⟩
      cases hw : tr.wt i with
      | true => rfl
      | false =>
        have := ((D.tok i hi).off hw).1
        unfold Trace.lo at h1
        rw [this] at h1; omega
  · intro t i' hi' hc
    by_cases hd : (opAt ops i).dst = some t
    · have hii : i < i' := (hc i hi hd).1 ((hX' i hi).2 (.inr rfl))
      have e1 : SameOn (tr.Ts i') (tr.Ts (i + 1)) t := D.unset_range (by omega) hi' (fun k hk1 hk2 hdk => by
        have hkn : k < ops.size := by omega
        have hXk := (hX' k hkn).1 ((hc k hkn hdk).2 hk2)
        rcases hXk with hXk | rfl
        · rcases D.slots k i hkn hi t hd (uses_dst hdk) with rfl | ⟨_, hb⟩ | ⟨hlt, _⟩
          · omega
          · exact hX (h.closed k i hkn hi hXk hb)
          · omega
        · omega)
      refine Eq.trans ?_ e1.symm
      rw [(D.tok i hi).ts, hd]
      simp only [putT, Tbl.get_set_same]
    · have h1 := h.si t i' hi' (fun j hj hdj => by
        have hne : j ≠ i := fun e => hd (e ▸ hdj)
        rw [← hc j hj hdj, hX' j hj]
        exact ⟨.inl, fun e => e.resolve_right hne⟩)
      refine Eq.trans ?_ h1
      unfold putT
      cases hd' : (opAt ops i).dst with
      | none => rfl
      | some u =>
        have : t ≠ u := fun e => hd (by rw [hd', e])
        simp only [Tbl.get_set, if_neg this]
  · intro b i' hi' hc
    by_cases hA : tr.Aff i b
    · have hii : i < i' := (hc i hi hA).1 ((hX' i hi).2 (.inr rfl))
      have hno : ∀ j, i < j → j < i' → ¬ tr.Aff j b := fun j hj1 hj2 ha => by
        have hjn : j < ops.size := by omega
        have hXj := ((hX' j hjn).1 ((hc j hjn ha).2 hj2)).resolve_right (by omega)
        by_cases hb : Bef ops j i
        · exact hX (h.closed j i hjn hi hXj hb)
        · exact D.two hjn hj1 hb hA ha
      rw [D.unaff_range (show i + 1 ≤ i' by omega) hi' (fun k hk1 hk2 => hno k (by omega) hk2)]
      refine k7 b hA (h.hi b i (by omega) (fun j hj ha => ⟨fun hXj => ?_, fun hlt => ?_⟩))
      · have := (hc j hj ha).1 ((hX' j hj).2 (.inl hXj))
        rcases Nat.lt_trichotomy j i with h1 | rfl | h1
        · exact h1
        · exact absurd hXj hX
        · exact absurd ha (hno j h1 this)
      · exact ((hX' j hj).1 ((hc j hj ha).2 (by omega))).resolve_right (by omega)
    · rw [k6 b hA]
      refine h.hi b i' hi' (fun j hj ha => ?_)
      have hne : j ≠ i := fun e => hA (e ▸ ha)
      rw [← hc j hj ha, hX' j hj]
      exact ⟨.inl, fun e => e.resolve_right hne⟩
/-- One operation that may come next. -/
theorem DI.op (hT : TabOK P tab) {n : Nat} (hC : CallSpec P tab ih) (hK : CodeSpec P ih n) {F : Fence} (hF : FE E F) (hbig0 : tr.lo ops.size ≤ tr.lo 0 + tab.big) (h : DI E ops tr w0 φ0 dlo sz wS X φ H TX a w) {i : Nat} (hi : i < ops.size) (hX : ¬ X i)
    (hr : ∀ j, j < ops.size → Bef ops i j → X j) (hX' : ∀ j, j < ops.size → (X' j ↔ X j ∨ j = i)) (hok : dstLt a.tmps.size (opAt ops i) = true) {Q : Exit → Act → World → Prop} {K : Act → World → Prop}
    (hnext : ∀ φ' H' TX' a' w', DI E ops tr w0 φ0 dlo sz wS X' φ' H' TX' a' w' → K a' w') : wpOpIn F 0 P ops Q i K a w := by
  unfold wpOpIn
  simp only [opAt_get hi]
  have hu := h.uses D hi hX hr
  rw [wanted_ok h.slots, wanted_same hu, ← (D.tok i hi).wt]
  cases hw : tr.wt i with
  | false =>
    simp only [Bool.false_eq_true, if_false]
    obtain ⟨o1, o2, o3⟩ := (D.tok i hi).off hw
    refine ⟨fun f _ => hF.fn f, ?_⟩
    exact hnext _ _ _ _ _ (h.step D hi hX hr hX' hok (by rw [o2]; simp [VR]) (Phi.Le.refl φ) (fun k hk => absurd rfl hk) h.inv (KW.refl w) (fun _ _ => rfl) (fun b hA _ => by rw [hA.1] at hw; cases hw))
  | true =>
    simp only [if_true]
    obtain ⟨o1, o2, o3, o4, o5⟩ := (D.tok i hi).on hw
    obtain ⟨hxc, htc⟩ := xop_congr (tab := tab) (E := E) (ih := ih) (hid := hidden ((Region.before ops).getD i 0) (tr.Ds i)) (M := tr.Ms i) (opd_same hu)
    have htc' : touch tab TX (opAt ops i).op = tr.tch i := htc
    have hx : xop tab ih E (hidden ((Region.before ops).getD i 0) (tr.Ds i)) TX (tr.Ms i) (opAt ops i).op = some (tr.vs i, tr.Ms (i + 1)) := hxc.trans o1
    have hall : tr.tch i = .all → H = heapOf E (tr.Ms i) ∧ Free φ (E.m0 + (tr.Ms i).n) := fun ht => by
      refine ⟨funext fun b => h.before hi hX hr (fun j hj ha hb => ?_) (fun j hj hij ha hb => ?_), fun k hk => ?_⟩
      · have := (D.apartd hi hj hw ha.1 hb).1
        rw [ht] at this
        exact D.none_aff (by omega) (apart_all_l this) ha
      · have := (D.apartd hj hij ha.1 hw hb).1
        rw [ht] at this
        exact D.none_aff hj (apart_all_r this) ha
      · refine Classical.byContradiction fun hn => ?_
        have h0 := D.mono (Nat.zero_le i) (by omega)
        have hk' : tr.lo i ≤ k := hk
        obtain ⟨j, j1, j2, j3, j4, j5⟩ := h.pi k (by omega) hn
        rcases Nat.lt_trichotomy j i with h1 | rfl | h1
        · have := D.mono (show j + 1 ≤ i by omega) (by omega); omega
        · exact hX j2
        · by_cases hb : Bef ops j i
          · exact hX (h.closed j i j1 hi j2 hb)
          · have := (D.apartd j1 h1 j3 hw hb).1
            rw [ht] at this
            exact D.none_aff j1 (apart_all_r this) (b := k) ⟨j3, .inr (.inr ⟨j4, j5⟩)⟩
    refine xop_ok hT hC hK hF ⟨hT.ty, h.ro, h.inv⟩ h.slots hx ?_ ?_ ?_ ?_ (by rw [htc']; exact hall) ?_ ?_
    · intro b hb _
      rw [htc'] at hb
      refine h.before hi hX hr (fun j hj ha hbf => ?_) (fun j hj hij ha hbf => ?_)
      · obtain ⟨hap, hout⟩ := D.apartd hi hj hw ha.1 hbf
        rcases ha.2 with h1 | h1 | h1
        · rw [h1] at hap
          rw [apart_all_r hap] at hb; simp [tchR] at hb
        · exact apart_RW hap hb h1
        · exact hout b hb h1
      · obtain ⟨hap, hout⟩ := D.apartd hj hij ha.1 hw hbf
        rcases ha.2 with h1 | h1 | h1
        · rw [h1] at hap
          rw [apart_all_l hap] at hb; simp [tchR] at hb
        · exact apart_WR hap h1 hb
        · have h3 := D.inside hi hw hb
          have h4 := D.mono (show i ≤ j by omega) (by omega)
          omega
    · intro ht b hh hlt _
      rw [htc'] at ht
      refine h.before hi hX hr (fun j hj ha hbf => ?_) (fun j hj hij ha hbf => ?_)
      · obtain ⟨hap, hout⟩ := D.apartd hi hj hw ha.1 hbf
        rw [ht] at hap
        obtain ⟨a1, a2⟩ := apart_cal_l hap
        rcases ha.2 with h1 | h1 | h1
        · exact a2 h1
        · rw [a1] at h1; simp at h1
        · rw [D.hid hi hj ha.1 hbf h1.1 h1.2] at hh; cases hh
      · obtain ⟨hap, hout⟩ := D.apartd hj hij ha.1 hw hbf
        rw [ht] at hap
        obtain ⟨a1, a2⟩ := apart_cal_r hap
        rcases ha.2 with h1 | h1 | h1
        · exact a2 h1
        · rw [a1] at h1; simp at h1
        · have h4 := D.mono (show i ≤ j by omega) (by omega)
          have h5 : b < tr.lo i := hlt
          omega
    · intro k h1 h2
      refine Classical.byContradiction fun hn => ?_
      have h0 := D.mono (Nat.zero_le i) (by omega)
      have h1' : tr.lo i ≤ k := h1
      obtain ⟨j, j1, j2, j3, j4, j5⟩ := h.pi k (by omega) hn
      exact hX (D.range_one j1 hi j4 j5 h1 h2 ▸ j2)
    · intro k h1
      refine Classical.byContradiction fun hn => ?_
      have h0 := D.mono (Nat.zero_le i) (by omega)
      have h1' : tr.lo i + tab.big ≤ k := h1
      obtain ⟨j, j1, j2, j3, j4, j5⟩ := h.pi k (by omega) hn
      have h2 := D.mono (show j + 1 ≤ ops.size by omega) (Nat.le_refl _)
      omega
    · intro hna vC w' hg
      rw [htc'] at hna hg
      obtain ⟨nx, vC', w2, φ', ups, g1, g2, g3, g4, g5, g6, g7, g8, g9, g10⟩ := hg
      cases g1
      rcases g2 with e | ⟨e, _⟩
      · cases e
        refine hnext _ _ _ _ _ (h.step D hi hX hr hX' hok g3 g4 g5 g6 g10 (fun b hA => ?_) (fun b hA hH => ?_))
        · refine applyUps_not ups H b (fun u hu e => hA ?_)
          rcases g8 u hu with h1 | h1
          · exact ⟨hw, .inr (.inl (e ▸ h1))⟩
          · exact ⟨hw, .inr (.inr (e ▸ h1))⟩
        · rw [g7]; exact applyUps_at ups _ _ b hH
      · cases e
    · intro ht vC w' hg
      rw [htc'] at ht
      obtain ⟨φ', g1, g2, g3, g4, g5, g6⟩ := hg
      exact hnext _ _ _ _ _ (h.step D hi hX hr hX' hok g1 g2 g3 g4 g6 (fun b hA => absurd ⟨hw, .inl ht⟩ hA) (fun b _ _ => rfl))
end
end Go.Sx
/- S, text O: a region that draws its order, whole; the theorem of S. -/
namespace Go.Sx
open Go.RowKit
theorem countP_erase {p : Nat → Bool} {i : Nat} (hp : p i = true) : ∀ {l : List Nat}, l.Nodup → i ∈ l → l.countP (fun j => p j && !(j == i)) + 1 = l.countP p
  | [], _, h => by simp at h
  | x :: l, hd, h => by
    obtain ⟨hx, hd'⟩ := List.nodup_cons.1 hd
    simp only [List.countP_cons]
    by_cases e : x = i
    · subst e
      have : l.countP (fun j => p j && !(j == x)) = l.countP p := by
        refine List.countP_congr (fun j hj => ?_)
        have : j ≠ x := fun e => hx (e ▸ hj)
        simp [this]
      simp [this, hp]
    · have ih' := countP_erase hp hd' ((List.mem_cons.1 h).resolve_left (fun e' => e e'.symm))
      have hxe : (x == i) = false := by simp [e]
      simp only [hxe, Bool.not_false, Bool.and_true]
      omega
section
variable {P : Program} {tab : Tab} {ih : Ih} {E : Env} {ops : Array Oper} {tr : Tr tab ih E ops} (D : DR tab ih E ops tr) {w0 : World} {φ0 : Phi} {dlo sz : Nat} {wS : World}
def Lst (listed : Array Bool) (j : Nat) : Prop := listed.getD j false = true
theorem getD_in {listed : Array Bool} {j : Nat} (h : j < listed.size) : listed.getD j true = listed.getD j false := by simp [h]
include D
omit D in
theorem ready_spec {listed : Array Bool} (hsz : listed.size = ops.size) {i : Nat} (h : i ∈ Region.ready .any ops listed) : i < ops.size ∧ ¬ Lst listed i ∧ ∀ e ∈ (opAt ops i).after, Region.binds .any e = true → Lst listed e.on := by
  obtain ⟨h1, o, ho, h2⟩ := mem_ready.1 h
  have hi := (Array.getElem?_eq_some_iff.1 ho).1
  rw [opAt_get hi] at ho
  cases ho
  refine ⟨hi, ?_, h2⟩
  unfold Lst
  rw [← getD_in (by omega), h1]; simp
theorem all_listed {listed : Array Bool} (hsz : listed.size = ops.size) (h : Region.ready .any ops listed = []) : ∀ j, j < ops.size → Lst listed j := by
  intro j
  induction j using Nat.strongRecOn with
  | _ j ihj =>
    intro hj
    refine Classical.byContradiction fun hn => ?_
    have : j ∈ Region.ready .any ops listed := by
      refine mem_ready.2 ⟨?_, opAt ops j, opAt_get hj, fun e he hb => ?_⟩
      · rw [getD_in (by omega)]
        unfold Lst at hn
        simpa using hn
      · have := D.edges j hj e he hb
        exact ihj e.on this (by omega)
    rw [h] at this
    simp at this
theorem draw_wp (hT : TabOK P tab) {n : Nat} (hC : CallSpec P tab ih) (hK : CodeSpec P ih n) {F : Fence} (hF : FE E F) (hbig0 : tr.lo ops.size ≤ tr.lo 0 + tab.big) (hok : ∀ i, i < ops.size → dstLt sz (opAt ops i) = true) {Q : Exit → Act → World → Prop}
    (hQ : ∀ X φ H TX a w, (∀ j, j < ops.size → X j) → DI E ops tr w0 φ0 dlo sz wS X φ H TX a w → Q .normal a w) :
    ∀ (fuel : Nat) (listed : Array Bool) (φ : Phi) (H : Heap) (TX : Tbl AV) (a : Act) (w : World), listed.size = ops.size → (List.range ops.size).countP (fun j => !listed.getD j false) = fuel → DI E ops tr w0 φ0 dlo sz wS (Lst listed) φ H TX a w →
      wpAnyIn F 0 P .any ops Q fuel listed a w
  | 0, listed, φ, H, TX, a, w, hsz, hc, h => by
    have hall : ∀ j, j < ops.size → Lst listed j := fun j hj => by
      rw [List.countP_eq_zero] at hc
      have := hc j (List.mem_range.2 hj)
      unfold Lst
      simpa using this
    refine ⟨?_, hQ _ _ _ _ _ _ hall h⟩
    refine List.eq_nil_iff_forall_not_mem.2 (fun i hi => ?_)
    obtain ⟨h1, h2, _⟩ := ready_spec hsz hi
    exact h2 (hall i h1)
  | fuel + 1, listed, φ, H, TX, a, w, hsz, hc, h => by
    refine ⟨fun hr => hQ _ _ _ _ _ _ (all_listed D hsz hr) h, fun i hi => ?_⟩
    obtain ⟨h1, h2, h3⟩ := ready_spec hsz hi
    have hr : ∀ j, j < ops.size → Bef ops i j → Lst listed j := fun j hj hb => by
      obtain ⟨e, he, hbe, hor⟩ := D.masks i j h1 hj hb
      have hlt := D.edges i h1 e he hbe
      rcases hor with rfl | hb'
      · exact h3 e he hbe
      · exact h.closed e.on j (by omega) hj (h3 e he hbe) hb'
    have hX' : ∀ j, j < ops.size → (Lst (listed.setIfInBounds i true) j ↔ Lst listed j ∨ j = i) := fun j hj => by
      unfold Lst
      by_cases e : j = i
      · subst e; simp [hsz, hj]
      · simp [Array.getElem?_setIfInBounds_ne (Ne.symm e), e]
    refine h.op D hT hC hK hF hbig0 h1 h2 hr hX' (by rw [h.size]; exact hok i h1) (fun φ' H' TX' a' w' h' => ?_)
    refine draw_wp hT hC hK hF hbig0 hok hQ fuel _ φ' H' TX' a' w' (by simpa using hsz) ?_ h'
    have hp : (fun j => !listed.getD j false) i = true := by
      unfold Lst at h2
      simpa using h2
    have hce := countP_erase (p := fun j => !listed.getD j false) hp (l := List.range ops.size) List.nodup_range (List.mem_range.2 h1)
    have : (List.range ops.size).countP (fun j => !(listed.setIfInBounds i true).getD j false) = (List.range ops.size).countP (fun j => !listed.getD j false && !(j == i)) := by
      refine List.countP_congr (fun j hj => ?_)
      have hj' := List.mem_range.1 hj
      have := hX' j hj'
      unfold Lst at this
      by_cases e : j = i
      · subst e; simp [hsz, hj']
      · simp [Array.getElem?_setIfInBounds_ne (Ne.symm e), e]
    rw [this]
    omega
end
theorem draw_ok {P : Program} {tab : Tab} (hT : TabOK P tab) {ih : Ih} {n : Nat} (hC : CallSpec P tab ih) (hK : CodeSpec P ih n) : DrawSpec P tab ih := by
  intro E F ops dlo φ w0 T M a w T' M' Q id hF h hS hdst hok hQ
  cases hd : drawRun tab ih E ops.toList ops.toList (Region.before ops).toList 0 [] T M with
  | none => rw [hd] at h; simp [drawEnd] at h
  | some r =>
    obtain ⟨T1, M1⟩ := r
    rw [hd] at h
    simp only [drawEnd] at h
    cases hb : Nat.ble M1.n (M.n + tab.big) with
    | false => rw [hb] at h; cases h
    | true =>
      rw [hb, cond_true, Option.some.injEq, Prod.mk.injEq] at h
      obtain ⟨rfl, rfl⟩ := h
      have hb' := bleT hb
      obtain ⟨tr, D, t1, t2, t3, t4⟩ := DR.of hd hok
      have hlo0 : tr.lo 0 = E.m0 + M.n := by unfold Trace.lo; rw [t2]
      have hlon : tr.lo ops.size = E.m0 + M1.n := by unfold Trace.lo; rw [t4]
      have hmono := D.mono (Nat.zero_le ops.size) (Nat.le_refl _)
      have hbel : Below w.heap.size w { w with drawn := w.drawn + 1 } := ⟨rfl, rfl, rfl, Nat.le_refl _, fun _ _ => rfl⟩
      refine wpIn_region_any hT.mixed ?_
      refine draw_wp (w0 := w0) (φ0 := φ) (dlo := dlo) (sz := a.tmps.size) (wS := w) D hT hC hK hF (by omega) (fun i hi => ?_) (fun X φ' H' TX a' w' hX h => ?_) ops.size _ φ (heapOf E M) T a _ (by simp) ?_ ?_
      · rw [List.all_eq_true] at hdst
        exact hdst _ (List.mem_of_getElem? (i := i) (by rw [Array.getElem?_toList]; exact opAt_get hi))
      · have hH : H' = heapOf E M1 := funext fun b => by
          rw [← t4]
          exact h.hi b ops.size (Nat.le_refl _) (fun j hj _ => ⟨fun _ => hj, fun _ => hX j hj⟩)
        refine hQ a' w' ⟨rfl, ⟨φ', h.le, by rw [← hlo0, ← hlon]; exact h.new, h.ro, by rw [← hH]; exact h.inv, ?_, ⟨fun t => ?_⟩, h.dfr⟩, h.size, by omega, h.kw⟩
        · intro k hk
          refine Classical.byContradiction fun hn => ?_
          obtain ⟨j, j1, j2, j3, j4, j5⟩ := h.pi k (by omega) hn
          have := D.mono (show j + 1 ≤ ops.size by omega) (Nat.le_refl _)
          omega
        · have := h.si t ops.size (Nat.le_refl _) (fun j hj _ => ⟨fun _ => hj, fun _ => hX j hj⟩)
          rw [← t3, ← this]
          exact h.slots.at_ t
      · have : (List.range ops.size).countP (fun j => !(Array.replicate ops.size false).getD j false) = (List.range ops.size).length := by
          rw [List.countP_eq_length]
          intro j _
          simp [Array.getElem?_replicate]
          split <;> rfl
        rw [this, List.length_range]
      · have hnot : ∀ j, ¬ Lst (Array.replicate ops.size false) j := fun j => by
          unfold Lst
          simp [Array.getElem?_replicate]
          split <;> simp
        refine ⟨fun i j _ _ hX _ => absurd hX (hnot i), hS.ro, hS.inv.later hbel, hS.tr, hS.dfr.keep (KW.of_below hbel), KW.of_below hbel, Phi.Le.refl φ, fun k hk => absurd rfl hk, fun k hk hn => ?_, fun t i hi hc => ?_, fun b i hi hc => ?_, rfl⟩
        · exact absurd (hS.free k (by omega)) hn
        · rw [← t1]
          exact (D.unset_range (Nat.zero_le i) hi (fun k _ hk hdk => hnot k ((hc k (by omega) hdk).2 hk))).symm
        · rw [← t2]
          exact (D.unaff_range (Nat.zero_le i) hi (fun k _ hk ha => hnot k ((hc k (by omega) ha).2 hk))).symm
/-- **THE THEOREM OF S**: what S answers, the program answers. -/
theorem sound {P : Program} {tab : Tab} (hT : TabOK P tab) (n : Nat) : CallSpec P tab (ev tab n) := (ev_ok hT (fun _ hC hK => draw_ok hT hC hK) n).1
end Go.Sx
/- S: equality of structs of numbers and bools. -/
namespace Go.Sx
open Go.RowKit
def appK (ks : List Nat) : Option (List Nat) → Option (List Nat)
  | some l => some (ks ++ l)
  | none => none
def flatF (P : Program) (f : Field) (off : Nat) (ks : Option (List Nat)) (rest : Nat → Option (List Nat)) : Option (List Nat) := match ks with
  | some ks => (match P.info? f.type with
    | some inf => bif (f.name == "_") || !Nat.beq f.offset off || !Nat.beq inf.size ks.length then none else appK ks (rest (off + ks.length))
    | none => none)
  | none => none
def flatFs (P : Program) (g : TypeId → Option (List Nat)) : List Field → Nat → Option (List Nat)
  | [], _ => some []
  | f :: l, off => flatF P f off (g f.type) (flatFs P g l)
def replK (ks : List Nat) : Nat → List Nat
  | 0 => []
  | n + 1 => ks ++ replK ks n
def flatA (P : Program) (e n : Nat) (ks : Option (List Nat)) : Option (List Nat) := match ks with
  | some ks => (match P.info? e with
    | some inf => bif Nat.beq inf.size ks.length then some (replK ks n) else none
    | none => none)
  | none => none
/-- The kinds of a type's cells, where it is of numbers and bools alone. -/
def flatK (P : Program) : Nat → TypeId → Option (List Nat)
  | 0, _ => none
  | d + 1, t => match P.underlying t with
    | some .bool => some [1]
    | some (.int _) => some [0]
    | some (.struct fs) => bif P.stoodInHeld t then none else flatFs P (flatK P d) fs.toList 0
    | some (.array n e) => flatA P e n (flatK P d e)
    | _ => none
variable {P : Program}
theorem eqCells_app : ∀ (xs ys : List AV) (xs2 ys2 : List AV) (r : Bool), xs.length = ys.length → eqCells (xs ++ xs2) (ys ++ ys2) = some r → ∃ r1 r2, eqCells xs ys = some r1 ∧ eqCells xs2 ys2 = some r2 ∧ r = (r1 && r2)
  | [], [], xs2, ys2, r, _, h => ⟨true, r, rfl, h, by simp⟩
  | [], _ :: _, _, _, _, h, _ => by simp at h
  | _ :: _, [], _, _, _, h, _ => by simp at h
  | a :: xs, b :: ys, xs2, ys2, r, hl, h => by
    simp only [List.cons_append, eqCells] at h ⊢
    cases h1 : eqCell a b with
    | none => rw [h1] at h; simp [and?] at h
    | some r0 => cases h2 : eqCells (xs ++ xs2) (ys ++ ys2) with
      | none => rw [h1, h2] at h; simp [and?] at h
      | some r' =>
        rw [h1, h2] at h
        simp only [and?, Option.some.injEq] at h
        obtain ⟨r1, r2, e1, e2, e3⟩ := eqCells_app xs ys xs2 ys2 r' (by simpa using hl) h2
        refine ⟨r0 && r1, r2, ?_, e2, ?_⟩
        · rw [e1]; rfl
        · rw [← h, e3, Bool.and_assoc]
def Eqs (P : Program) (D : Nat) (t : TypeId) (ks : List Nat) : Prop :=
  ∀ (φ : Phi) (xs ys : List AV) (r : Bool) (xs' ys' : List Value) (w : World), xs.map kindOf = ks → ys.map kindOf = ks → eqCells xs ys = some r → VRL φ xs xs' → VRL φ ys ys' →
    ∃ b, (isAgg t).run P w = .ok b w ∧ (b = true → (Op.equalIn D t (.agg ⟨xs'⟩) (.agg ⟨ys'⟩)).run P w = .ok r w) ∧ (b = false → ∃ x y, xs' = [x] ∧ ys' = [y] ∧ (Op.equalIn D t x y).run P w = .ok r w)
/-- One part of each. -/
theorem step_eq {D : Nat} {t : TypeId} {k1 : List Nat} {inf : TypeInfo} (hE : Eqs P D t k1) (hi : P.info? t = some inf) (hsz : inf.size = k1.length) {φ : Phi} {xs ys : List AV} {r1 : Bool} {XS YS : Array Value} {off : Nat} (w : World) (hx1 : xs.map kindOf = k1) (hy1 : ys.map kindOf = k1)
    (e1 : eqCells xs ys = some r1) (vx : VRL φ xs ((XS.toList.drop off).take k1.length)) (vy : VRL φ ys ((YS.toList.drop off).take k1.length)) :
    ∃ x y, (part t XS off).run P w = .ok x w ∧ (part t YS off).run P w = .ok y w ∧ (Op.equalIn D t x y).run P w = .ok r1 w := by
  obtain ⟨b, b1, b2, b3⟩ := hE φ _ _ r1 _ _ w hx1 hy1 e1 vx vy
  have hpart : ∀ (Z : Array Value) (zs : List Value), zs = (Z.toList.drop off).take k1.length → (b = true → (part t Z off).run P w = .ok (.agg ⟨zs⟩) w) ∧ (b = false → ∀ z, zs = [z] → (part t Z off).run P w = .ok z w) := by
    intro Z zs hz
    subst hz
    constructor
    · intro hb
      have hs : (sizeOf t).run P w = .ok inf.size w := by simp [sizeOf, typeInfo, hi]
      simp only [part, Sem.run_bind, b1, hb, Result.andThen_ok, if_true, hs, Sem.run_pure]
      rw [hsz]
      congr 2
      apply Array.ext'
      simp [List.drop_take]
    · intro hb z hz
      have hget : Z[off]? = some z := by
        have := congrArg (·[0]?) hz
        simp only [List.getElem?_take, List.getElem?_drop, Nat.add_zero, Array.getElem?_toList, List.getElem?_cons_zero] at this
        split at this
        · exact this
        · cases this
      simp [part, b1, hb, hget]
  cases b with
  | true => exact ⟨_, _, (hpart XS _ rfl).1 rfl, (hpart YS _ rfl).1 rfl, b2 rfl⟩
  | false =>
    obtain ⟨x, y, hx', hy', hxy⟩ := b3 rfl
    exact ⟨x, y, (hpart XS _ rfl).2 rfl x hx', (hpart YS _ rfl).2 rfl y hy', hxy⟩
theorem split_eq {k1 k2 : List Nat} {φ : Phi} {xs ys : List AV} {r : Bool} {xs' ys' : List Value} (hx : xs.map kindOf = k1 ++ k2) (hy : ys.map kindOf = k1 ++ k2) (he : eqCells xs ys = some r) (vx : VRL φ xs xs') (vy : VRL φ ys ys') :
    ∃ x1 y1 x2 y2 r1 r2, x1.map kindOf = k1 ∧ y1.map kindOf = k1 ∧ x2.map kindOf = k2 ∧ y2.map kindOf = k2 ∧ eqCells x1 y1 = some r1 ∧ eqCells x2 y2 = some r2 ∧ r = (r1 && r2) ∧
      VRL φ x1 (xs'.take k1.length) ∧ VRL φ y1 (ys'.take k1.length) ∧ VRL φ x2 (xs'.drop k1.length) ∧ VRL φ y2 (ys'.drop k1.length) := by
  have lx : xs.length = k1.length + k2.length := by rw [← List.length_map (f := kindOf), hx, List.length_append]
  have ly : ys.length = k1.length + k2.length := by rw [← List.length_map (f := kindOf), hy, List.length_append]
  have ex : xs = xs.take k1.length ++ xs.drop k1.length := (List.take_append_drop _ _).symm
  have ey : ys = ys.take k1.length ++ ys.drop k1.length := (List.take_append_drop _ _).symm
  rw [ex, ey] at he
  obtain ⟨r1, r2, e1, e2, rfl⟩ := eqCells_app _ _ _ _ _ (by simp; omega) he
  exact ⟨_, _, _, _, r1, r2, by rw [List.map_take, hx]; simp, by rw [List.map_take, hy]; simp, by rw [List.map_drop, hx]; simp, by rw [List.map_drop, hy]; simp, e1, e2, rfl, vx.take _, vy.take _, vx.drop _, vy.drop _⟩
theorem items_eq {D : Nat} {e : TypeId} {k1 : List Nat} {inf : TypeInfo} (hE : Eqs P D e k1) (hi : P.info? e = some inf) (hsz : inf.size = k1.length) : ∀ (m i : Nat) (φ : Phi) (xs ys : List AV) (r : Bool) (XS YS : Array Value) (w : World), xs.map kindOf = replK k1 m → ys.map kindOf = replK k1 m →
    eqCells xs ys = some r → VRL φ xs (XS.toList.drop (i * k1.length)) → VRL φ ys (YS.toList.drop (i * k1.length)) → (Op.eqItems D e k1.length XS YS (List.range' i m)).run P w = .ok r w
  | 0, i, φ, xs, ys, r, XS, YS, w, hx, hy, he, vx, vy => by
    obtain rfl : xs = [] := by simpa [replK] using hx
    obtain rfl : ys = [] := by simpa [replK] using hy
    simp only [eqCells, Option.some.injEq] at he; subst he
    rfl
  | m + 1, i, φ, xs, ys, r, XS, YS, w, hx, hy, he, vx, vy => by
    obtain ⟨x1, y1, x2, y2, r1, r2, a1, a2, a3, a4, a5, a6, rfl, a7, a8, a9, a10⟩ := split_eq hx hy he vx vy
    obtain ⟨x, y, p1, p2, p3⟩ := step_eq hE hi hsz (off := i * k1.length) w a1 a2 a5 a7 a8
    have rest := items_eq hE hi hsz m (i + 1) φ x2 y2 r2 XS YS w a3 a4 a6 (by rw [List.drop_drop] at a9; rw [Nat.succ_mul]; exact a9) (by rw [List.drop_drop] at a10; rw [Nat.succ_mul]; exact a10)
    simp only [List.range'_succ, Op.eqItems, Sem.run_bind, p1, p2, p3, Result.andThen_ok]
    cases r1
    · simp
    · simpa using rest
theorem fields_eq {g : TypeId → Option (List Nat)} {D : Nat} (hg : ∀ t ks, g t = some ks → Eqs P D t ks) : ∀ (l : List Field) (off : Nat) (ks : List Nat), flatFs P g l off = some ks →
    ∀ (φ : Phi) (xs ys : List AV) (r : Bool) (XS YS : Array Value) (w : World), xs.map kindOf = ks → ys.map kindOf = ks → eqCells xs ys = some r → VRL φ xs (XS.toList.drop off) → VRL φ ys (YS.toList.drop off) → (Op.eqFields D XS YS l).run P w = .ok r w
  | [], off, ks, h, φ, xs, ys, r, XS, YS, w, hx, hy, he, vx, vy => by
    simp only [flatFs, Option.some.injEq] at h; subst h
    obtain rfl : xs = [] := by simpa using hx
    obtain rfl : ys = [] := by simpa using hy
    simp only [eqCells, Option.some.injEq] at he; subst he
    rfl
  | f :: l, off, ks, h, φ, xs, ys, r, XS, YS, w, hx, hy, he, vx, vy => by
    simp only [flatFs, flatF] at h
    cases hk : g f.type with
    | none => rw [hk] at h; cases h
    | some k1 =>
      rw [hk] at h
      cases hi : P.info? f.type with
      | none => rw [hi] at h; cases h
      | some inf =>
        rw [hi] at h
        simp only [] at h
        cases hc : ((f.name == "_") || !Nat.beq f.offset off || !Nat.beq inf.size k1.length) with
        | true => rw [hc] at h; cases h
        | false =>
          rw [hc, cond_false] at h
          simp only [Bool.or_eq_false_iff, Bool.not_eq_false'] at hc
          obtain ⟨⟨c1, c2⟩, c3⟩ := hc
          cases hr : flatFs P g l (off + k1.length) with
          | none => rw [hr] at h; simp [appK] at h
          | some k2 =>
            rw [hr] at h
            simp only [appK, Option.some.injEq] at h; subst h
            obtain ⟨x1, y1, x2, y2, r1, r2, a1, a2, a3, a4, a5, a6, rfl, a7, a8, a9, a10⟩ := split_eq hx hy he vx vy
            have hname : f.name ≠ "_" := by simpa using c1
            have hoff := beqT c2
            obtain ⟨x, y, p1, p2, p3⟩ := step_eq (hg f.type k1 hk) hi (beqT c3) (off := off) w a1 a2 a5 a7 a8
            have rest := fields_eq hg l (off + k1.length) k2 hr φ _ _ r2 XS YS w a3 a4 a6 (by rwa [List.drop_drop] at a9) (by rwa [List.drop_drop] at a10)
            simp only [Op.eqFields, hname, ne_eq, not_false_eq_true, if_true, hoff, Sem.run_bind, p1, p2, p3, Result.andThen_ok]
            cases r1
            · simp
            · simpa using rest
theorem one_kind {k : Nat} {xs : List AV} (h : xs.map kindOf = [k]) : ∃ a, xs = [a] ∧ kindOf a = k := by
  match xs, h with
  | [a], h => exact ⟨a, rfl, by simpa using h⟩
theorem flatK_eq : ∀ (d e : Nat) (t : TypeId) (ks : List Nat), flatK P d t = some ks → Eqs P (d + e) t ks
  | 0, _, _, _, h => by simp [flatK] at h
  | d + 1, e, t, ks, h => by
    intro φ xs ys r xs' ys' w hx hy he vx vy
    rw [show d + 1 + e = (d + e) + 1 by omega]
    simp only [flatK] at h
    cases hu : P.underlying t with
    | none => rw [hu] at h; cases h
    | some ds =>
      rw [hu] at h
      cases ds <;> simp only [] at h <;> first | (cases h; done) | skip
      case bool =>
        cases h
        obtain ⟨a, rfl, ha⟩ := one_kind hx
        obtain ⟨b, rfl, hb⟩ := one_kind hy
        cases a <;> simp [kindOf] at ha
        cases b <;> simp [kindOf] at hb
        rename_i a b
        simp only [VRL, VR] at vx vy
        obtain ⟨_, _, rfl, rfl, rfl⟩ := vx
        obtain ⟨_, _, rfl, rfl, rfl⟩ := vy
        simp only [eqCells, eqCell, and?, Option.some.injEq, Bool.and_true] at he
        subst he
        exact ⟨false, by simp [isAgg, run_und hu], by simp, fun _ => ⟨_, _, rfl, rfl, run_equalIn_bool' w _ t a b hu⟩⟩
      case int kd =>
        cases h
        obtain ⟨a, rfl, ha⟩ := one_kind hx
        obtain ⟨b, rfl, hb⟩ := one_kind hy
        cases a <;> simp [kindOf] at ha
        cases b <;> simp [kindOf] at hb
        rename_i k a k' b
        simp only [VRL, VR] at vx vy
        obtain ⟨_, _, rfl, rfl, rfl⟩ := vx
        obtain ⟨_, _, rfl, rfl, rfl⟩ := vy
        simp only [eqCells, eqCell] at he
        cases hkk : kindEq k k' with
        | false => rw [hkk] at he; simp [and?] at he
        | true =>
          rw [hkk] at he
          simp only [cond_true, and?, Option.some.injEq, Bool.and_true] at he
          subst he
          obtain rfl : k = k' := by cases k <;> cases k' <;> simp [kindEq] at hkk <;> rfl
          refine ⟨false, by simp [isAgg, run_und hu], by simp, fun _ => ⟨_, _, rfl, rfl, ?_⟩⟩
          rw [run_equalIn_int w _ t k kd a b hu]
          congr 1
      case struct fs =>
        cases hs : P.stoodInHeld t with
        | true => rw [hs] at h; cases h
        | false =>
          rw [hs, cond_false] at h
          have hfo : P.fieldsOf t = fs := by simp [Program.fieldsOf, hu]
          refine ⟨true, by simp [isAgg, run_und hu], fun _ => ?_, by simp⟩
          rw [run_equalIn_struct w _ t _ _ (by rw [hfo]; exact hu) hs, hfo]
          exact fields_eq (D := d + e) (fun t ks hk => flatK_eq d e t ks hk) fs.toList 0 ks h φ xs ys r ⟨xs'⟩ ⟨ys'⟩ w hx hy he (by simpa using vx) (by simpa using vy)
      case array n el =>
        simp only [flatA] at h
        cases hk : flatK P d el with
        | none => rw [hk] at h; cases h
        | some k1 =>
          rw [hk] at h
          cases hi : P.info? el with
          | none => rw [hi] at h; cases h
          | some inf =>
            rw [hi] at h
            simp only [] at h
            cases hb : Nat.beq inf.size k1.length with
            | false => rw [hb] at h; cases h
            | true =>
              rw [hb, cond_true, Option.some.injEq] at h
              subst h
              refine ⟨true, by simp [isAgg, run_und hu], fun _ => ?_, by simp⟩
              have hc : P.cellsOf el = k1.length := by simp [Program.cellsOf, hi, beqT hb]
              rw [run_equalIn_array w (d + e) _ _ hu hi, hc, List.range_eq_range']
              exact items_eq (flatK_eq d e el k1 hk) hi (beqT hb) n 0 φ xs ys r ⟨xs'⟩ ⟨ys'⟩ w hx hy he (by simpa using vx) (by simpa using vy)
theorem likeL_map : ∀ {as bs : List AV}, likeL as bs = true → bs.map kindOf = as.map kindOf
  | [], [], _ => rfl
  | [], _ :: _, h => by simp [likeL] at h
  | _ :: _, [], h => by simp [likeL] at h
  | a :: as, b :: bs, h => by
    simp only [likeL] at h
    cases hk : Nat.beq (kindOf a) (kindOf b) with
    | false => rw [hk] at h; cases h
    | true => rw [hk] at h; simp [likeL_map (show likeL as bs = true from h), beqT hk]
/-- The check. -/
def flatOk (P : Program) (d : TypeDesc) (t : TypeId) (zs : List AV) : Bool := (match d with | .struct _ => true | .array _ _ => true | _ => false) && !(P.eqGuardType P.depth t) && (match flatK P 20 t with | some ks => decide (ks = zs.map kindOf) | none => false)
theorem flatOk_ok {d : TypeDesc} {t : TypeId} {zs : List AV} (hu : P.underlying t = some d) (h : flatOk P d t zs = true) : FlatOK P t zs ∧ P.eqGuardType P.depth t = false := by
  simp only [flatOk, Bool.and_eq_true, Bool.not_eq_true'] at h
  obtain ⟨⟨h1, h2⟩, h3⟩ := h
  refine ⟨fun φ xs ys r xs' ys' w lx ly he vx vy => ?_, h2⟩
  cases hk : flatK P 20 t with
  | none => rw [hk] at h3; cases h3
  | some ks =>
    rw [hk] at h3
    simp only [decide_eq_true_eq] at h3
    obtain ⟨b, b1, b2, _⟩ := flatK_eq 20 9980 t ks hk φ xs ys r xs' ys' w (by rw [likeL_map lx, h3]) (by rw [likeL_map ly, h3]) he vx vy
    have hb : (isAgg t).run P w = .ok true w := by cases d <;> simp at h1 <;> simp [isAgg, run_und hu]
    have : b = true := by
      rw [hb] at b1
      injection b1 with b1; exact b1.symm
    exact b2 this
end Go.Sx
/- S, text P: the tables of a program. -/
namespace Go.Sx
open Go.RowKit
def tdOf : TypeDesc → TD
  | .struct fs => .struct (fs.toList.map fun f => (f.offset, f.type))
  | .array n e => .array n e
  | .slice e => .slice e
  | .string => .string
  | _ => .other
def zOk (d : TypeDesc) : AV → Bool
  | .int k _ => (match d with | .int k' => decide (k' = k) | _ => false)
  | .bool _ => (match d with | .bool => true | _ => false)
  | .nilp => (match d with | .pointer _ => true | _ => false)
  | .nils => (match d with | .slice _ => true | _ => false)
  | .nilf => (match d with | .func .. => true | _ => false)
  | _ => true
def partsOk (P : Program) : TypeDesc → Bool
  | .struct fs => fs.toList.all fun f => (P.info? f.type).isSome
  | _ => true
def tyOf3 (P : Program) (t : Nat) (inf : TypeInfo) (d : TypeDesc) : Option AV → Option TyI
  | some a => bif zOk d a && partsOk P d && Nat.beq a.cells.length inf.size then some ⟨inf.size, inf.bytes, a, tdOf d, flatOk P d t a.cells⟩ else none
  | none => none
def tyOf2 (P : Program) (t : Nat) (inf : TypeInfo) : Option TypeDesc → Option Value → Option TyI
  | some d, some z => tyOf3 P t inf d (AV.ofV z)
  | _, _ => none
def tyOf1 (P : Program) (t : Nat) : Option TypeInfo → Option TyI
  | some inf => tyOf2 P t inf (P.underlying t) inf.zero
  | none => none
/-- What S knows of a type: computed from the program, and checked. -/
def tyOf (P : Program) (t : Nat) : Option TyI := tyOf1 P t (P.info? t)
theorem tdOf_ok (d : TypeDesc) : TdOK d (tdOf d) := by cases d <;> simp [TdOK, tdOf]
theorem tyOf_ok {P : Program} {t : Nat} {i : TyI} (h : tyOf P t = some i) : TyOK P t i := by
  unfold tyOf at h
  cases hi : P.info? t with
  | none => rw [hi] at h; simp [tyOf1] at h
  | some inf =>
    rw [hi] at h
    simp only [tyOf1] at h
    cases hu : P.underlying t with
    | none => rw [hu] at h; simp [tyOf2] at h
    | some d => cases hz : inf.zero with
      | none => rw [hu, hz] at h; simp [tyOf2] at h
      | some z =>
        rw [hu, hz] at h
        simp only [tyOf2] at h
        cases ha : AV.ofV z with
        | none => rw [ha] at h; simp [tyOf3] at h
        | some a =>
          rw [ha] at h
          simp only [tyOf3] at h
          cases hc : (zOk d a && partsOk P d && Nat.beq a.cells.length inf.size) with
          | false => rw [hc] at h; cases h
          | true =>
            rw [hc] at h; cases h
            simp only [Bool.and_eq_true] at hc
            obtain ⟨⟨c1, c2⟩, c3⟩ := hc
            refine ⟨⟨inf, hi, rfl, rfl, z, hz, ha⟩, ⟨d, hu, tdOf_ok d⟩, fun k n e => ?_, fun b e => ?_, fun e => ?_, fun e => ?_, fun e => ?_, fun fs hfs f hf => ?_, beqT c3, fun e => flatOk_ok hu e⟩
            · simp only at e; subst e
              cases d <;> simp [zOk] at c1
              rw [hu, c1]
            · simp only at e; subst e
              cases d <;> simp [zOk] at c1
              exact hu
            · simp only at e; subst e
              cases d <;> simp [zOk] at c1
              exact ⟨_, hu⟩
            · simp only at e; subst e
              cases d <;> simp [zOk] at c1
              exact ⟨_, hu⟩
            · simp only at e; subst e
              cases d <;> simp [zOk] at c1
              exact ⟨_, _, _, hu⟩
            · rw [hu] at hfs; cases hfs
              simp only [partsOk, List.all_eq_true] at c2
              exact c2 f hf
/-! ### Tables from lists -/
def tblOf {α : Type} (l : List (Nat × α)) : Tbl α := l.foldl (fun t p => t.set p.1 p.2) .leaf
theorem tblOf_mem {α : Type} : ∀ (l : List (Nat × α)) (t : Tbl α) (k : Nat) (x : α), (l.foldl (fun t p => t.set p.1 p.2) t).get k = some x → (k, x) ∈ l ∨ t.get k = some x
  | [], t, k, x, h => .inr h
  | p :: l, t, k, x, h => by
    rcases tblOf_mem l (t.set p.1 p.2) k x h with h | h
    · exact .inl (by simp [h])
    · rw [Tbl.get_set] at h
      by_cases e : k = p.1
      · rw [if_pos e] at h
        cases h
        exact .inl (by rw [e]; simp)
      · rw [if_neg e] at h; exact .inr h
/-- The entries of a laid table. -/
def entries {α : Type} : Tbl α → (Nat → Nat) → List (Nat × α)
  | .leaf, _ => []
  | .node v l r, f => (match v with | some x => [(f 0, x)] | none => []) ++ (entries l (fun k => f (2 * k + 1)) ++ entries r (fun k => f (2 * k + 2)))
theorem entries_mem {α : Type} : ∀ (t : Tbl α) (f : Nat → Nat) (k : Nat) (x : α), t.get k = some x → (f k, x) ∈ entries t f
  | .leaf, f, k, x, h => by simp [Tbl.get] at h
  | .node v l r, f, k, x, h => by
    simp only [Tbl.get] at h
    simp only [entries, List.mem_append]
    cases hk : Nat.beq k 0 with
    | true =>
      rw [hk, cond_true] at h
      subst h
      rw [beqT hk]; simp
    | false =>
      rw [hk, cond_false] at h
      have hk0 := beqN hk
      cases h1 : Nat.beq (k % 2) 1 with
      | true =>
        rw [h1, cond_true] at h
        have hm := beqT h1
        have := entries_mem l (fun k => f (2 * k + 1)) ((k - 1) / 2) x h
        rw [show 2 * ((k - 1) / 2) + 1 = k by omega] at this
        exact .inr (.inl this)
      | false =>
        rw [h1, cond_false] at h
        have hm := beqN h1
        have := entries_mem r (fun k => f (2 * k + 2)) ((k - 1) / 2) x h
        rw [show 2 * ((k - 1) / 2) + 2 = k by omega] at this
        exact .inr (.inr this)
def fnOk (fn : Func) : Bool := !(fn.name == "runtime.NumGoroutine") && (match fn.body with | some c => codeOk fn.ntmps c | none => false)
theorem TabOK.of {P : Program} {tyT : Tbl TyI} {fnT : Tbl Func} {sh : Nat → Bool} {big : Nat} {keep : Bool} {prim : Nat → Bool} (h1 : ∀ p ∈ entries tyT id, tyOf P p.1 = some p.2) (h2 : ∀ p ∈ entries fnT id, P.funcs[p.1]? = some p.2) (h3 : ∀ p ∈ entries fnT id, fnOk p.2 = true)
    (h4 : P.follows .mixedOrders = true) (h5 : ∀ f, prim f = true → ∀ w, CallsIn Fence.wide 0 P f #[] w (fun e w' => e = .returned (.bool true) ∧ Below w.heap.size w w')) : TabOK P { ty := tyT.get, fn := fnT.get, shares := sh, big, keep, prim } :=
  ⟨fun t i h => tyOf_ok (h1 (t, i) (entries_mem tyT id t i h)), fun f fn h => by
    have hm := entries_mem fnT id f fn h
    have hf := h3 _ hm
    simp only [fnOk, Bool.and_eq_true, Bool.not_eq_true'] at hf
    obtain ⟨f1, f2⟩ := hf
    refine ⟨h2 _ hm, f1, ?_⟩
    cases hb : fn.body with
    | none => rw [hb] at f2; cases f2
    | some c => rw [hb] at f2; exact ⟨c, rfl, f2⟩, h4, h5⟩
/-- A call without arguments, from whatever world. -/
theorem closed_call {P : Program} {tab : Tab} (hT : TabOK P tab) {n f : Nat} {b : Bool} {M : Mem} (h : (ev tab n).call { ro := fun _ => none, m0 := 0, rnd := false } f [] Mem.nil = some (.bool b, M)) (w : World) :
    Calls P f #[] w (fun e w' => e = .returned (.bool b) ∧ Below w.heap.size w w') := by
  have hnil : ∀ k, heapOf { ro := fun _ => none, m0 := 0, rnd := false } Mem.nil k = none := fun k => by
    simp only [heapOf]
    split
    · rfl
    · exact Mem.get_nil _
  have hc := (sound hT n _ _ _ _ _ _ h rfl).2 (fun _ => none) w w [] (fun b cs hb => by simp at hb)
    ⟨Below.refl _ _, fun k o hk => (by rw [hnil] at hk; cases hk), fun k k' o o' x x' _ hk => (by rw [hnil] at hk; cases hk)⟩ VRL.nil (fun _ _ => rfl)
  refine (callsIn_wide.1 (hc.mono ?_))
  rintro e w' ⟨vC, rfl, φ', k1, _, _, k4, _⟩
  simp only [VR] at k1
  subst k1
  exact ⟨rfl, k4.below⟩
end Go.Sx
/- V: a second interpreter over the program's code, on deep values, in continuation form: definitions. -/
namespace Go.Vx
open Go.Sx

/-! ### Values -/
/-- A deep value. 'list tg ex s rows': a slice that is read alone; tg: it may lie in a caller's changeable block; ex: its capacity is its length; s: the cells of a row. 'own k': a slice over the whole of the frame's own block k. 'ptr k o': into box k. 'fbp': a pointer through which is read alone. 'elp': into a row of the own block k. -/
inductive DV where
  | int (n : Int)
  | bool (b : Bool)
  | nilp
  | nils
  | nilf
  | undef
  | list (tg ex : Bool) (s : Nat) (rows : List DV)
  | agg (cs : List DV)
  | tup (vs : List DV)
  | func (f : Nat) (first caps : List DV)
  | own (k : Nat)
  | ptr (k o : Nat)
  | fbp (tg : Bool) (cells : List DV) (o : Nat)
  | elp (k : Nat) (i : Int) (o : Nat)
  deriving Inhabited
/-- A block of the frame's own. -/
inductive VB where
  | box (cs : List DV)
  | fbx (cs : List DV)
  | row (nn : Bool) (s : Nat) (rows : List DV)
  | frz (s : Nat) (rows : List DV)
  | dead
  deriving Inhabited
abbrev Res := Option DV
abbrev VH := List VB
abbrev VT := Tbl DV
/-- The kind of a cell. -/
inductive CS where
  | int
  | bool
  | list (s : Nat)

def w64 (n : Int) : Int := wr .i64 n
def DV.cells : DV → List DV
  | .agg cs => cs
  | v => [v]
def DV.isAgg : DV → Bool
  | .agg _ => true
  | _ => false
/-- May lie in a cell. -/
def DV.isCell : DV → Bool
  | .agg _ | .tup _ | .undef => false
  | _ => true
mutual
def dvA : AV → Option DV
  | .int .i64 n => some (.int n)
  | .bool b => some (.bool b)
  | .nilp => some .nilp
  | .nils => some .nils
  | .nilf => some .nilf
  | .agg cs => aggO (dvAL cs)
  | _ => none
def dvAL : List AV → Option (List DV)
  | [] => some []
  | a :: l => consD (dvA a) (dvAL l)
def aggO : Option (List DV) → Option DV
  | some cs => some (.agg cs)
  | none => none
def consD : Option DV → Option (List DV) → Option (List DV)
  | some a, some r => some (a :: r)
  | _, _ => none
end
def dvO : Option AV → Option DV
  | some a => dvA a
  | none => none
def opdV (T : VT) : Operand → Option DV
  | .tmp t => T.get t
  | .const v => dvO (AV.ofV v)
  | .func f => some (.func f [] [])
  | .global _ => none
def opdsV (T : VT) : List Operand → Option (List DV)
  | [] => some []
  | x :: l => consD (opdV T x) (opdsV T l)

/-! ### Shapes -/
def catO : List (Option (List CS)) → Option (List CS)
  | [] => some []
  | some a :: l => (match catO l with
    | some r => some (a ++ r)
    | none => none)
  | none :: _ => none
def repC (n : Nat) (l : List CS) : List CS := match n with
  | 0 => []
  | n + 1 => l ++ repC n l
def sizeO : Option TyI → Option (List CS)
  | some j => some [.list j.size]
  | none => none
def leafC : AV → Option (List CS)
  | .int .i64 _ => some [.int]
  | .bool _ => some [.bool]
  | _ => none
def repO (n : Nat) : Option (List CS) → Option (List CS)
  | some l => some (repC n l)
  | none => none
/-- The kinds of the cells of a type's values. -/
def shT (ty : Nat → Option TyI) : Nat → Nat → Option (List CS)
  | 0, _ => none
  | n + 1, t => match ty t with
    | none => none
    | some i => (match i.td with
      | .struct fs => catO (fs.map fun p => shT ty n p.2)
      | .array m e => repO m (shT ty n e)
      | .slice e => sizeO (ty e)
      | _ => leafC i.zero)
/-- Whether rows of the type are aggregates, and the kinds of their cells. -/
structure RS where
  ag : Bool
  css : List CS
def rsOf2 (i : TyI) : Option (List CS) → Option RS
  | some css => bif Nat.beq css.length i.size then some ⟨i.isAgg, css⟩ else none
  | none => none
def rsOf1 (ty : Nat → Option TyI) (t : Nat) : Option TyI → Option RS
  | some i => rsOf2 i (shT ty 6 t)
  | none => none
def rsOf (ty : Nat → Option TyI) (t : Nat) : Option RS := rsOf1 ty t (ty t)

def asI : DV → Int
  | .int n => n
  | _ => 0
def asB : DV → Bool
  | .bool b => b
  | _ => false
def asR : DV → List DV
  | .list _ _ _ rows => rows
  | _ => []
def prj : CS → DV → DV
  | .int, d => .int (asI d)
  | .bool, d => .bool (asB d)
  | .list s, d => .list false false s (asR d)
def isC : CS → DV → Bool
  | .int, .int _ => true
  | .bool, .bool _ => true
  | .list s, .list tg ex s' _ => !tg && (!ex && Nat.beq s s')
  | _, _ => false
def cellOf (d : DV) (j : Nat) : DV := d.cells.getD j .undef
def prjs : List CS → Nat → DV → List DV
  | [], _, _ => []
  | c :: l, j, d => prj c (cellOf d j) :: prjs l (j + 1) d
def isCs : List CS → List DV → Bool
  | [], [] => true
  | c :: l, d :: r => isC c d && isCs l r
  | _, _ => false
def isRow (r : RS) (d : DV) : Bool := (r.ag == d.isAgg) && isCs r.css d.cells
def mkRow (ag : Bool) (cs : List DV) : DV := bif ag then .agg cs else cs.headD .undef
def prj1 (d : DV) : List CS → List DV
  | c :: _ => [prj c d]
  | [] => []
def rowCs (r : RS) (d : DV) : List DV := bif r.ag then prjs r.css 0 d else prj1 d r.css
def prjV (r : RS) (d : DV) : DV := mkRow r.ag (rowCs r d)
def inR (i : Int) (rows : List DV) : Bool := decide (0 ≤ i) && decide (i < (rows.length : Int))
def okR (rows : List DV) (i : Int) (r : RS) : Bool := inR i rows && isRow r (rows.getD i.toNat .undef)

/-! ### The frame's own blocks -/
def nthB : VH → Nat → Option VB
  | [], _ => none
  | b :: _, 0 => some b
  | _ :: l, k + 1 => nthB l k
def setB : VH → Nat → VB → VH
  | [], _, _ => []
  | _ :: l, 0, b => b :: l
  | x :: l, k + 1, b => x :: setB l k b
def pushB (H : VH) (b : VB) : VH := H ++ [b]
def frzB : VB → VB
  | .row _ s rows => .frz s rows
  | .box cs => .fbx cs
  | b => b
def frzAt (H : VH) (k : Nat) : VH := match nthB H k with
  | some b => setB H k (frzB b)
  | none => H
def frzAll : List Nat → VH → VH
  | [], H => H
  | k :: l, H => frzAll l (frzAt H k)
def rowsO : Option VB → Option (Nat × List DV)
  | some (.row _ s rows) => some (s, rows)
  | some (.frz s rows) => some (s, rows)
  | _ => none
mutual
/-- The own blocks that a value names. -/
def owns : DV → List Nat
  | .own k => [k]
  | .ptr k _ => [k]
  | .elp k _ _ => [k]
  | .agg cs => ownsL cs
  | .tup cs => ownsL cs
  | .func _ fs caps => ownsL fs ++ ownsL caps
  | _ => []
def ownsL : List DV → List Nat
  | [] => []
  | v :: l => owns v ++ ownsL l
end
/-- A cell as it is laid into a row, or handed on: a slice is read alone from now on. -/
def nrm1 (tg : Bool) (H : VH) : CS → DV → Option DV
  | .int, .int n => some (.int n)
  | .bool, .bool b => some (.bool b)
  | .list s, .nils => some (.list tg false s [])
  | .list s, .list tg' _ s' rows => bif Nat.beq s s' && (tg || !tg') then some (.list tg false s rows) else none
  | .list s, .own k => (match rowsO (nthB H k) with
    | some (s', rows) => bif Nat.beq s s' then some (.list tg false s rows) else none
    | none => none)
  | _, _ => none
def nrmL (tg : Bool) (H : VH) : List CS → List DV → Option (List DV)
  | [], [] => some []
  | c :: l, d :: r => consD (nrm1 tg H c d) (nrmL tg H l r)
  | _, _ => none
def rowO (ag : Bool) : Option (List DV) → Option DV
  | some cs => some (mkRow ag cs)
  | none => none
def nrmV (tg : Bool) (H : VH) (r : RS) (d : DV) : Option DV := bif r.ag == d.isAgg then rowO r.ag (nrmL tg H r.css d.cells) else none
def boxO : Option VB → Option (List DV)
  | some (.box cs) => some cs
  | some (.fbx cs) => some cs
  | _ => none
def fzFunc (f : Nat) : Option (List DV) → Option (List DV) → Option DV
  | some a, some b => some (.func f a b)
  | _, _ => none
def fzPtr (tg : Bool) (o : Nat) : Option (List DV) → Option DV
  | some cs => some (.fbp tg cs o)
  | none => none
def fzL (fz : DV → Option DV) : List DV → Option (List DV)
  | [] => some []
  | d :: l => consD (fz d) (fzL fz l)
def fzO (fz : DV → Option DV) : Option (List DV) → Option (List DV)
  | some l => fzL fz l
  | none => none
/-- A value of no known shape as it is handed on. -/
def fz (tg : Bool) (H : VH) : Nat → DV → Option DV
  | 0, _ => none
  | n + 1, d => match d with
    | .int n => some (.int n)
    | .bool b => some (.bool b)
    | .nilp => some .nilp
    | .nils => some .nils
    | .nilf => some .nilf
    | .list tg' _ s rows => bif tg || !tg' then some (.list tg false s rows) else none
    | .own k => (match rowsO (nthB H k) with
      | some (s, rows) => some (.list tg false s rows)
      | none => none)
    | .ptr k o => bif tg then fzPtr tg o (fzO (fz tg H n) (boxO (nthB H k))) else none
    | .fbp tg' cs o => bif tg || !tg' then some (.fbp tg cs o) else none
    | .func f fs caps => fzFunc f (fzL (fz tg H n) fs) (fzL (fz tg H n) caps)
    | .agg cs => aggO (fzL (fz tg H n) cs)
    | _ => none
def isDeadB : Option VB → Bool
  | some .dead => true
  | _ => false
def noDead (H : VH) : List Nat → Bool
  | [] => true
  | k :: l => !isDeadB (nthB H k) && noDead H l
def zrC : CS → DV
  | .int => .int 0
  | .bool => .bool false
  | .list s => .list false false s []
def zrOk : List CS → List AV → Bool
  | [], [] => true
  | .int :: l, .int .i64 n :: r => decide (n = 0) && zrOk l r
  | .bool :: l, .bool b :: r => !b && zrOk l r
  | .list _ :: l, .nils :: r => zrOk l r
  | _, _ => false

/-! ### Operations that call nothing -/
abbrev K := DV → VH → Res
def retK (H : VH) (k : K) : Option DV → Res
  | some v => k v H
  | none => none
def takeV (i : TyI) (cs : List DV) (o : Nat) : Option DV := bif i.isAgg then (bif Nat.ble (o + i.size) cs.length then some (.agg ((cs.drop o).take i.size)) else none) else cs[o]?
def loadE (i : TyI) (H : VH) (k : K) (r : RS) (d : DV) (o : Nat) : Res := bif isRow r d then retK H k (takeV i (rowCs r d) o) else none
def loadB (i : TyI) (H : VH) (o : Nat) (k : K) : Option (List DV) → Res
  | some cs => retK H k (takeV i cs o)
  | none => none
/-- The kinds of a row's cells, as they are known at a load or a store: the whole row alone. -/
def loadR (i : TyI) (H : VH) (ix : Int) (o : Nat) (k : K) : Option RS → Option (Nat × List DV) → Res
  | some r, some (s, rows) => bif Nat.beq o 0 && Nat.beq s i.size then loadE i H k r (rows.getD ix.toNat .undef) 0 else none
  | _, _ => none
def loadK (ty : Nat → Option TyI) (t : Nat) (H : VH) (k : K) : Option DV → Option TyI → Res
  | some (.ptr b o), some i => loadB i H o k (boxO (nthB H b))
  | some (.fbp _ cs o), some i => retK H k (takeV i cs o)
  | some (.elp b ix o), some i => loadR i H ix o k (rsOf ty t) (rowsO (nthB H b))
  | _, _ => none
def spliceD (cs : List DV) (o : Nat) (vs : List DV) : List DV := cs.take o ++ vs ++ cs.drop (o + vs.length)
def storeB (i : TyI) (H : VH) (b o : Nat) (v : DV) (k : K) : Option VB → Res
  | some (.box cs) => bif Nat.beq v.cells.length i.size && (Nat.ble (o + v.cells.length) cs.length && (v.cells.all DV.isCell && noDead H (owns v))) then k .undef (setB H b (.box (spliceD cs o v.cells))) else none
  | _ => none
def storeR2 (H : VH) (b : Nat) (ix : Int) (nn : Bool) (s : Nat) (rows : List DV) (k : K) : Option DV → Res
  | some d => k .undef (setB H b (.row nn s (rows.set ix.toNat d)))
  | none => none
def storeR (i : TyI) (H : VH) (b : Nat) (ix : Int) (o : Nat) (v : DV) (k : K) : Option RS → Option VB → Res
  | some r, some (.row nn s rows) => bif Nat.beq o 0 && Nat.beq s i.size then storeR2 (frzAll (owns v) H) b ix nn s rows k (nrmV false H r v) else none
  | _, _ => none
def storeK (ty : Nat → Option TyI) (t : Nat) (H : VH) (k : K) : Option DV → Option DV → Option TyI → Res
  | some (.ptr b o), some v, some i => storeB i H b o v k (nthB H b)
  | some (.elp b ix o), some v, some i => storeR i H b ix o v k (rsOf ty t) (nthB (frzAll (owns v) H) b)
  | _, _, _ => none
def eqC : DV → DV → Option Bool
  | .int a, .int b => some (decide (a = b))
  | .bool a, .bool b => some (a == b)
  | _, _ => none
def and2 : Option Bool → Option Bool → Option Bool
  | some x, some y => some (x && y)
  | _, _ => none
def eqCsV : List DV → List DV → Option Bool
  | [], [] => some true
  | [a], [b] => eqC a b
  | a :: l, b :: r => and2 (eqC a b) (eqCsV l r)
  | _, _ => none
def likeV : List AV → List DV → Bool
  | [], [] => true
  | .int .i64 _ :: l, .int _ :: r => likeV l r
  | .bool _ :: l, .bool _ :: r => likeV l r
  | _, _ => false
def eqK (op : BinOp) (H : VH) (k : K) : Option Bool → Res
  | some r => (match op with
    | .eql => k (.bool r) H
    | .neq => k (.bool (!r)) H
    | _ => none)
  | none => none
def intK (op : BinOp) (a b : Int) (H : VH) (k : K) : Res := match op with
  | .add => k (.int (w64 (a + b))) H
  | .sub => k (.int (w64 (a - b))) H
  | .mul => k (.int (w64 (a * b))) H
  | .quo => bif decide (b = 0) then none else k (.int (w64 (a.tdiv b))) H
  | .rem => bif decide (b = 0) then none else k (.int (a.tmod b)) H
  | .eql => k (.bool (decide (a = b))) H
  | .neq => k (.bool (!decide (a = b))) H
  | .lss => k (.bool (decide (a < b))) H
  | .leq => k (.bool (decide (a ≤ b))) H
  | .gtr => k (.bool (decide (b < a))) H
  | .geq => k (.bool (decide (b ≤ a))) H
  | _ => none
def isBoolT : Option TyI → Bool
  | some i => (match i.zero with
    | .bool _ => true
    | _ => false)
  | none => false
def isNilsT : Option TyI → Bool
  | some i => (match i.zero with
    | .nils => true
    | _ => false)
  | none => false
def aggK (op : BinOp) (xs ys : List DV) (H : VH) (k : K) : Option TyI → Res
  | some i => bif i.flat && likeV i.zero.cells xs && likeV i.zero.cells ys then eqK op H k (eqCsV xs ys) else none
  | none => none
/-- A slice held against nil. -/
def nilSK (op : BinOp) (H : VH) (k : K) : DV → Res
  | .nils => eqK op H k (some true)
  | .own b => (match nthB H b with
    | some (.row true _ rows) => eqK op H k (some rows.isEmpty)
    | _ => none)
  | _ => none
def binK (ty : Nat → Option TyI) (op : BinOp) (t : Nat) (H : VH) (k : K) : Option DV → Option DV → Res
  | some (.int a), some (.int b) => intK op a b H k
  | some (.bool a), some (.bool b) => bif isBoolT (ty t) then eqK op H k (some (a == b)) else none
  | some (.agg xs), some (.agg ys) => aggK op xs ys H k (ty t)
  | some x, some .nils => bif isNilsT (ty t) then nilSK op H k x else none
  | _, _ => none
def unK (op : UnOp) (H : VH) (k : K) : Option DV → Res
  | some (.int n) => (match op with
    | .neg => k (.int (w64 (0 - n))) H
    | _ => none)
  | some (.bool b) => (match op with
    | .not => k (.bool (!b)) H
    | _ => none)
  | _ => none
def ixListK (tg : Bool) (s : Nat) (rows : List DV) (i : Int) (H : VH) (k : K) (j : TyI) : Option RS → Res
  | some r => bif Nat.beq s j.size && Nat.blt 0 s then (bif okR rows i r then k (.fbp tg (rowCs r (rows.getD i.toNat .undef)) 0) H else none) else none
  | none => none
def ixOwnK (b s : Nat) (rows : List DV) (i : Int) (H : VH) (k : K) (j : TyI) : Res := bif Nat.beq s j.size && Nat.blt 0 s then (bif inR i rows then k (.elp b i 0) H else none) else none
def inN (i : Int) (n : Nat) : Bool := decide (0 ≤ i) && decide (i < (n : Int))
def ixSliceK (ty : Nat → Option TyI) (e : Nat) (i : Int) (H : VH) (k : K) (x : DV) : Option TyI → Res
  | some j => (match x with
    | .list tg _ s rows => ixListK tg s rows i H k j (rsOf ty e)
    | .own b => (match nthB H b with
      | some (.row _ s rows) => ixOwnK b s rows i H k j
      | some (.frz s rows) => ixListK false s rows i H k j (rsOf ty e)
      | _ => none)
    | _ => none)
  | none => none
def ixArrK (n : Nat) (i : Int) (H : VH) (k : K) (x : DV) : Option TyI → Res
  | some j => bif inN i n then (match x with
    | .ptr b o => k (.ptr b (o + i.toNat * j.size)) H
    | .fbp tg cs o => k (.fbp tg cs (o + i.toNat * j.size)) H
    | _ => none) else none
  | none => none
def ixAddrK (ty : Nat → Option TyI) (H : VH) (k : K) : Option DV → Option DV → Option TyI → Res
  | some x, some (.int i), some t => (match t.td with
    | .slice e => ixSliceK ty e i H k x (ty e)
    | .array n e => ixArrK n i H k x (ty e)
    | _ => none)
  | _, _, _ => none
def fldAddr2 (fo : Nat) (H : VH) (k : K) (x : DV) : Option TyI → Res
  | some j => bif Nat.beq j.size 0 then none else (match x with
    | .ptr b o => k (.ptr b (o + fo)) H
    | .fbp tg cs o => k (.fbp tg cs (o + fo)) H
    | _ => none)
  | none => none
def fldAddrK (ty : Nat → Option TyI) (H : VH) (k : K) (f : Nat) : Option DV → Option TyI → Res
  | some x, some i => (match i.td with
    | .struct fs => (match fieldAt fs f with
      | some (fo, ft) => fldAddr2 fo H k x (ty ft)
      | none => none)
    | _ => none)
  | _, _ => none
def partV (cs : List DV) (o : Nat) : Option TyI → Option DV
  | some i => takeV i cs o
  | none => none
def fieldK (ty : Nat → Option TyI) (H : VH) (k : K) (f : Nat) : Option DV → Option TyI → Res
  | some (.agg cs), some i => (match i.td with
    | .struct fs => (match fieldAt fs f with
      | some (fo, ft) => retK H k (partV cs fo (ty ft))
      | none => none)
    | _ => none)
  | _, _ => none
def ixValK (n : Nat) (i : Int) (cs : List DV) (H : VH) (k : K) : Option TyI → Res
  | some j => bif inN i n then retK H k (partV cs (i.toNat * j.size) (some j)) else none
  | none => none
def indexK (ty : Nat → Option TyI) (H : VH) (k : K) : Option DV → Option DV → Option TyI → Res
  | some (.agg cs), some (.int i), some t => (match t.td with
    | .array n e => ixValK n i cs H k (ty e)
    | _ => none)
  | _, _, _ => none
def boxK (H : VH) (k : K) : Option DV → Res
  | some v => bif v.cells.all DV.isCell && noDead H (owns v) then k (.ptr H.length 0) (pushB H (.box v.cells)) else none
  | none => none
def zeroV : Option TyI → Option DV
  | some i => dvA i.zero
  | none => none
def fill1V (cs : List DV) (x : Option DV) : Option (Nat × Nat) → Option (List DV)
  | some (o, s) => (match x with
    | some v => bif Nat.beq v.cells.length s && Nat.ble (o + s) cs.length then some (spliceD cs o v.cells) else none
    | none => none)
  | none => none
def fillV (place : Nat → Option (Nat × Nat)) (T : VT) : List (Nat × Operand) → Option (List DV) → Option (List DV)
  | _, none => none
  | [], some cs => some cs
  | (i, x) :: rest, some cs => fillV place T rest (fill1V cs (opdV T x) (place i))
def aggV (H : VH) (k : K) : Option (List DV) → Res
  | some cs => k (.agg cs) H
  | none => none
def cellsO : Option DV → Option (List DV)
  | some v => some v.cells
  | none => none
def buildA (T : VT) (H : VH) (k : K) (z : Option DV) (parts : List (Nat × Operand)) : Option TyI → Res
  | some j => aggV H k (fillV (placeE j.size) T parts (cellsO z))
  | none => none
def buildK (ty : Nat → Option TyI) (T : VT) (H : VH) (k : K) (parts : List (Nat × Operand)) : Option TyI → Res
  | some i => (match i.td with
    | .struct fs => aggV H k (fillV (placeF ty fs) T parts (cellsO (dvA i.zero)))
    | .array _ e => buildA T H k (dvA i.zero) parts (ty e)
    | _ => none)
  | none => none
def zRow (r : RS) : DV := mkRow r.ag (r.css.map zrC)
def fillRow1 (i : Nat) (rows : List DV) : Option DV → Option (List DV)
  | some d => bif Nat.blt i rows.length then some (rows.set i d) else none
  | none => none
def fillR (H : VH) (r : RS) (T : VT) : List (Nat × Operand) → Option (List DV) → Option (List DV)
  | _, none => none
  | [], some rows => some rows
  | (i, x) :: rest, some rows => fillR H r T rest (fillRow1 i rows (match opdV T x with
    | some v => nrmV false H r v
    | none => none))
def ownsO : Option (List DV) → List Nat
  | some l => ownsL l
  | none => []
def newRowK (nn : Bool) (s : Nat) (H : VH) (k : K) : Option (List DV) → Res
  | some rows => k (.own H.length) (pushB H (.row nn s rows))
  | none => none
def bSliceK (T : VT) (H : VH) (k : K) (len : Nat) (parts : List (Nat × Operand)) : Option TyI → Option RS → Res
  | some j, some r => bif Nat.ble (len * j.size) 65536 && zrOk r.css j.zero.cells then newRowK false j.size (frzAll (ownsO (opdsV T (parts.map (·.2)))) H) k (fillR H r T parts (some (List.replicate len (zRow r)))) else none
  | _, _ => none
def elT : Option TyI → Option Nat
  | some i => (match i.td with
    | .slice e => some e
    | _ => none)
  | none => none
def tyO (ty : Nat → Option TyI) : Option Nat → Option TyI
  | some e => ty e
  | none => none
def rsO (ty : Nat → Option TyI) : Option Nat → Option RS
  | some e => rsOf ty e
  | none => none
def mkOk (j : TyI) (r : RS) : Bool := Nat.ble j.bytes 65536 && zrOk r.css j.zero.cells
def makeK (H : VH) (k : K) : Option DV → Option DV → Option TyI → Option RS → Res
  | some (.int l), some (.int c), some j, some r => bif mkOk j r then (bif decide (0 ≤ l) && decide (l = c) && decide (l ≤ 1048576) then k (.own H.length) (pushB H (.row false j.size (List.replicate l.toNat (zRow r)))) else none) else none
  | _, _, _, _ => none
def nilCK (H : VH) (k : K) : Option DV → Res
  | some (.ptr b o) => k (.ptr b o) H
  | some (.fbp tg cs o) => k (.fbp tg cs o) H
  | some (.func f fs c) => k (.func f fs c) H
  | _ => none
def mkFuncK (f : Nat) (H : VH) (k : K) : Option (List DV) → Option (List DV) → Res
  | some a, some b => k (.func f a b) H
  | _, _ => none
def intO : Option (Option DV) → Option (Option Int)
  | none => some none
  | some (some (.int n)) => some (some n)
  | _ => none
def optV (T : VT) : Option Operand → Option (Option DV)
  | none => none
  | some x => some (opdV T x)
def loOf : Option Int → Int
  | some n => n
  | none => 0
def isNoneI : Option Int → Bool
  | none => true
  | some _ => false
def cutOk (n l h : Int) : Bool := decide (0 ≤ l) && (decide (l ≤ h) && decide (h ≤ n))
def cutR (rows : List DV) (l h : Int) : List DV := (rows.drop l.toNat).take (h.toNat - l.toNat)
/-- 'l[lo:hi:mx]' of a slice that is read alone. -/
def cutL (tg ex : Bool) (s : Nat) (rows : List DV) (H : VH) (k : K) (lo hi mx : Option Int) : Res :=
  match mx with
  | none => (match hi with
    | none => (match lo with
      | none => k (.list tg ex s rows) H
      | some l => bif decide (0 ≤ l) && decide (l < (rows.length : Int)) then k (.list tg ex s (rows.drop l.toNat)) H else none)
    | some h => (match lo with
      | none => bif decide (0 ≤ h) && decide (h ≤ (rows.length : Int)) then k (.list tg false s (rows.take h.toNat)) H else none
      | some l => bif cutOk rows.length l h && decide (l < (rows.length : Int)) then k (.list tg false s (cutR rows l h)) H else none))
  | some m => (match hi with
    | none => none
    | some h => bif decide (h = m) && cutOk rows.length (loOf lo) m then k (.list tg true s (cutR rows (loOf lo) m)) H else none)
def chunk (ag : Bool) (s : Nat) : Nat → List DV → List DV
  | 0, _ => []
  | n + 1, cs => mkRow ag (cs.take s) :: chunk ag s n (cs.drop s)
def allRows (r : RS) : List DV → Bool
  | [] => true
  | d :: l => isRow r d && allRows r l
def cutAK (tg : Bool) (n : Nat) (cs : List DV) (o : Nat) (H : VH) (k : K) (lo hi mx : Option Int) (j : TyI) : Option RS → Res
  | some r => bif isNoneI lo && (isNoneI hi && isNoneI mx) && (Nat.ble (o + n * j.size) cs.length && Nat.blt 0 j.size && allRows r (chunk r.ag j.size n (cs.drop o))) then k (.list tg true j.size (chunk r.ag j.size n (cs.drop o))) H else none
  | none => none
def slice3 (ty : Nat → Option TyI) (H : VH) (k : K) (x : DV) (lo hi mx : Option Int) : Option TyI → Res
  | some t => (match t.td with
    | .slice e => (match x with
      | .list tg ex s rows => (match ty e with
        | some j => bif Nat.beq s j.size then cutL tg ex s rows H k lo hi mx else none
        | none => none)
      | .own b => (match rowsO (nthB H b) with
        | some (s, rows) => (match ty e with
          | some j => bif Nat.beq s j.size then cutL false false s rows (frzAt H b) k lo hi mx else none
          | none => none)
        | none => none)
      | _ => none)
    | .array n e => (match x with
      | .ptr b o => (match boxO (nthB H b) with
        | some cs => (match ty e with
          | some j => cutAK false n cs o (frzAt H b) k lo hi mx j (rsOf ty e)
          | none => none)
        | none => none)
      | .fbp tg cs o => (match ty e with
        | some j => cutAK tg n cs o H k lo hi mx j (rsOf ty e)
        | none => none)
      | _ => none)
    | _ => none)
  | none => none
def sliceK (ty : Nat → Option TyI) (t : Nat) (H : VH) (k : K) : Option DV → Option (Option Int) → Option (Option Int) → Option (Option Int) → Res
  | some x, some lo, some hi, some mx => slice3 ty H k x lo hi mx (ty t)
  | _, _, _, _ => none
def extK (ix : Nat) (H : VH) (k : K) : Option DV → Res
  | some (.tup vs) => retK H k vs[ix]?
  | _ => none
def isI64 : Option TyI → Bool
  | some i => (match i.zero with
    | .int .i64 _ => true
    | _ => false)
  | none => false
def convK (H : VH) (k : K) (a b : Bool) : Option DV → Res
  | some (.int n) => bif a && b then k (.int (w64 n)) H else none
  | _ => none
/-- A slice as it is read: its rows' size and its rows. -/
def rowsV (H : VH) : DV → Option (Nat × List DV)
  | .list _ _ s rows => some (s, rows)
  | .own b => rowsO (nthB H b)
  | _ => none
def lenK (H : VH) (k : K) (x : DV) : Option TyI → Res
  | some i => (match i.td with
    | .slice _ => (match x with
      | .nils => k (.int 0) H
      | x => (match rowsV H x with
        | some (_, rows) => k (.int (rows.length : Int)) H
        | none => none))
    | .array n _ => k (.int n) H
    | _ => none)
  | none => none
/-! append -/
def lenOk (a b : List DV) : Bool := decide (a.length + b.length ≤ 1048576)
def isNE : List DV → Bool
  | [] => false
  | _ :: _ => true
def app3 (s : Nat) (H : VH) (k : K) (x : DV) (new : List DV) : Res := match x with
  | .nils => bif decide (new.length ≤ 1048576) then k (.own H.length) (pushB H (.row true s new)) else none
  | .own b => (match nthB H b with
    | some (.row nn s' rows) => bif Nat.beq s s' then (bif lenOk rows new then k (.own H.length) (pushB (setB H b .dead) (.row nn s (rows ++ new))) else none) else none
    | _ => none)
  | .list tg true s' rows => bif Nat.beq s s' && ((!tg && !isNE rows) || isNE new) then (bif lenOk rows new then k (.own H.length) (pushB H (.row false s (rows ++ new))) else none) else none
  | _ => none
def app2 (s : Nat) (H : VH) (k : K) (x : DV) : Option (Nat × List DV) → Res
  | some (s', new) => bif Nat.beq s s' then app3 s H k x new else none
  | none => none
def appOk (i : TyI) : Bool := Nat.blt 0 i.size && (Nat.blt 0 i.bytes && Nat.ble i.bytes 65536)
def app1 (H : VH) (k : K) (x y : DV) : Option TyI → Res
  | some i => bif appOk i then (match y with
    | .nils => app3 i.size H k x []
    | y => app2 i.size H k x (rowsV H y)) else none
  | none => none
def isSlT : Option TyI → Bool
  | some i => (match i.td with
    | .slice _ => true
    | _ => false)
  | none => false
def appK (ty : Nat → Option TyI) (ts : List TypeId) (H : VH) (k : K) : Option (List DV) → Res
  | some [x, y] => (match ts with
    | t :: u :: _ => bif isSlT (ty u) then app1 H k x y (tyO ty (elT (ty t))) else none
    | _ => none)
  | _ => none
def max2V (isMax : Bool) (x y : Int) : Int := bif isMax then max x y else min x y
def mmL (isMax : Bool) (x : Int) : List DV → Option DV
  | [] => some (.int x)
  | .int y :: l => mmL isMax (max2V isMax x y) l
  | _ :: _ => none
def mmK (isMax : Bool) (H : VH) (k : K) : Option (List DV) → Res
  | some (.int x :: l) => retK H k (mmL isMax x l)
  | _ => none
def oneK (f : DV → Res) : Option (List DV) → Res
  | some [v] => f v
  | _ => none
def builtinK (ty : Nat → Option TyI) (b : Builtin) (ts : List TypeId) (H : VH) (k : K) (args : Option (List DV)) : Res := match b with
  | .len => oneK (fun v => lenK H k v (ty0 ty ts)) args
  | .append => appK ty ts H k args
  | .max => mmK true H k args
  | .min => mmK false H k args
  | _ => none
/-- A branch. -/
def splitB (b : Bool) (f : Bool → Res) : Res := bif b then f true else f false
def pickK (a b : Option DV) (H : VH) (k : K) : Option DV → Res
  | some (.bool t) => splitB t (fun t => bif t then retK H k a else retK H k b)
  | _ => none
def fnK (T : VT) (H : VH) (k : K) (first caps : Array Operand) : Fn → Res
  | .func f => mkFuncK f H k (opdsV T first.toList) (opdsV T caps.toList)
  | _ => none

/-! ### Calls -/
structure VIh where
  call : Nat → List DV → Option DV
  at_ : Nat → Nat → VT → VH → Res
/-- What is told beside the program: which functions may hand back a part of an argument; the loops' marks. -/
inductive Co where
  | grow (s : Nat)
  | frz (s : Nat)
structure CoS where
  t : Nat
  o : Option Nat
  c : Co
inductive An where
  | nil
  | seq (a b : An)
  | cond (a b : An)
  | block (a : An)
  | loop (id : Nat) (co : List CoS) (live : List Nat) (a : An)
  | unr (m : Nat) (a : An)
  deriving Inhabited
/-- 'kn': functions that copy a slice of elements of one cell. -/
structure VTab where
  tab : Tab
  al : Nat → Bool
  an : Nat → An
  kn : Nat → Bool := fun _ => false
def rsL (ty : Nat → Option TyI) : List TypeId → List (Option RS)
  | [] => []
  | t :: l => rsOf ty t :: rsL ty l
/-- The arguments as they are handed on: by the kinds of the parameters, where these are known. -/
def nrmArgs (tg : Bool) (H : VH) : List (Option RS) → List DV → Option (List DV)
  | _, [] => some []
  | some r :: rs, d :: l => consD (nrmV tg H r d) (nrmArgs tg H rs l)
  | none :: rs, d :: l => consD (fz tg H 4 d) (nrmArgs tg H rs l)
  | [], d :: l => consD (fz tg H 4 d) (nrmArgs tg H [] l)
def allO : List (Option RS) → Option (List RS)
  | [] => some []
  | some r :: l => (match allO l with
    | some q => some (r :: q)
    | none => none)
  | none :: _ => none
def isRess : List RS → List DV → Bool
  | [], [] => true
  | r :: rs, d :: l => isRow r d && isRess rs l
  | _, _ => false
def tupL : DV → List DV
  | .tup vs => vs
  | _ => []
def isTup : DV → Bool
  | .tup _ => true
  | _ => false
def isRes (rs : List RS) (d : DV) : Bool := match rs with
  | [r] => isRow r d
  | rs => isTup d && isRess rs (tupL d)
def prjRs : List RS → Nat → DV → List DV
  | [], _, _ => []
  | r :: rs, j, d => prjV r ((tupL d).getD j .undef) :: prjRs rs (j + 1) d
def prjRes (rs : List RS) (d : DV) : DV := match rs with
  | [r] => prjV r d
  | rs => .tup (prjRs rs 0 d)
def bindC (o : Option DV) (k : DV → Res) : Res := match o with
  | some r => k r
  | none => none
def resK (rs : List RS) (H : VH) (k : K) (d : DV) : Res := bif isRes rs d then k (prjRes rs d) H else none
def call3 (ih : VIh) (g : Nat) (H : VH) (k : K) : Option (List DV) → Option (List RS) → Res
  | some args, some rs => bindC (ih.call g args) (resK rs H k)
  | _, _ => none
def nrows (H : VH) : DV → Option (Nat × List DV)
  | .nils => some (1, [])
  | x => rowsV H x
def cloneR (H : VH) (k : K) : Option (Nat × List DV) → Res
  | some (s, rows) => bif Nat.beq s 1 && decide (rows.length ≤ 1048576) then k (.own H.length) (pushB H (.row false 1 rows)) else none
  | none => none
/-- A copy of a slice: a row of the frame's own. -/
def cloneK (H : VH) (k : K) : List DV → Res
  | [x] => cloneR H k (nrows H x)
  | _ => none
def call2V (vt : VTab) (ih : VIh) (g : Nat) (all : List DV) (H : VH) (k : K) : Option Func → Res
  | some fn => bif vt.tab.shares g then none else bif vt.kn g then cloneK H k all else
      call3 ih g (bif vt.al g then frzAll (ownsL all) H else H) k (nrmArgs (!vt.al g) H (rsL vt.tab.ty fn.params.toList) all) (allO (rsL vt.tab.ty fn.resultTypes.toList))
  | none => none
def callK (vt : VTab) (ih : VIh) (H : VH) (k : K) : Option (List DV) → Option DV → Res
  | some args, some (.func g fs caps) => call2V vt ih g (fs ++ (args ++ caps)) H k (vt.tab.fn g)
  | _, _ => none
def callOpK (vt : VTab) (ih : VIh) (T : VT) (H : VH) (k : K) (c : Call) : Res := match c.callee with
  | .value f => callK vt ih H k (opdsV T c.args.toList) (opdV T f)
  | .builtin b => builtinK vt.tab.ty b c.argTypes.toList H k (opdsV T c.args.toList)
  | _ => none
def opK (vt : VTab) (ih : VIh) (T : VT) (H : VH) (k : K) (op : Op) : Res := match op with
  | .move x => retK H k (opdV T x)
  | .assign x => retK H k (opdV T x)
  | .load t a => loadK vt.tab.ty t H k (opdV T a) (vt.tab.ty t)
  | .store t a x => storeK vt.tab.ty t H k (opdV T a) (opdV T x) (vt.tab.ty t)
  | .binOp op t x y _ => binK vt.tab.ty op t H k (opdV T x) (opdV T y)
  | .indexAddr t x ix => ixAddrK vt.tab.ty H k (opdV T x) (opdV T ix) (vt.tab.ty t)
  | .fieldAddr s x f => fldAddrK vt.tab.ty H k f (opdV T x) (vt.tab.ty s)
  | .call c => callOpK vt ih T H k c
  | .pick c a b => pickK (opdV T a) (opdV T b) H k (opdV T c)
  | .alloc t => boxK H k (zeroV (vt.tab.ty t))
  | .box _ x => boxK H k (opdV T x)
  | .build t parts => buildK vt.tab.ty T H k parts.toList (vt.tab.ty t)
  | .buildSlice t len parts => bSliceK T H k len parts.toList (tyO vt.tab.ty (elT (vt.tab.ty t))) (rsO vt.tab.ty (elT (vt.tab.ty t)))
  | .nilCheck x => nilCK H k (opdV T x)
  | .unOp op _ x => unK op H k (opdV T x)
  | .makeFunc f first caps => fnK T H k first caps f
  | .makeSlice t l c => makeK H k (opdV T l) (opdV T c) (tyO vt.tab.ty (elT (vt.tab.ty t))) (rsO vt.tab.ty (elT (vt.tab.ty t)))
  | .slice t x lo hi mx => sliceK vt.tab.ty t H k (opdV T x) (intO (optV T lo)) (intO (optV T hi)) (intO (optV T mx))
  | .field t x f => fieldK vt.tab.ty H k f (opdV T x) (vt.tab.ty t)
  | .index t x ix => indexK vt.tab.ty H k (opdV T x) (opdV T ix) (vt.tab.ty t)
  | .extract x ix => extK ix H k (opdV T x)
  | .convert s d x => convK H k (isI64 (vt.tab.ty s)) (isI64 (vt.tab.ty d)) (opdV T x)
  | _ => none

/-! ### Regions -/
abbrev KT := VT → VH → Res
def putV (T : VT) (v : DV) : Option Tmp → VT
  | some t => T.set t v
  | none => T
def guardT (T : VT) (want : Bool) (yes no : VT → Res) (t : Nat) : Option DV → Res
  | some (.bool b) => splitB b (fun b' => bif b' == want then yes (T.set t (.bool b')) else no (T.set t (.bool b')))
  | some _ => no T
  | none => none
def guardD (T : VT) (want : Bool) (yes no : VT → Res) : Option Tmp → Res
  | some t => guardT T want yes no t (T.get t)
  | none => no T
def guardK (ops : List Oper) (T : VT) (yes no : VT → Res) : Option (Nat × Bool) → Res
  | none => yes T
  | some (j, want) => guardD T want yes no (dstOf ops j)
def opsK (vt : VTab) (ih : VIh) (ops : List Oper) : List Oper → VT → VH → KT → Res
  | [], T, H, k => k T H
  | o :: l, T, H, k => guardK ops T (fun T => opK vt ih T H (fun v H' => opsK vt ih ops l (putV T v o.dst) H' k) o.op) (fun T => opsK vt ih ops l (putV T .undef o.dst) H k) o.guard

/-- What an operation of a drawn region touches. -/
inductive VTc where
  | none
  | rd
  | wr
  | cal
  | nw
def touchV (T : VT) (op : Op) : VTc := match op with
  | .load _ _ => .rd
  | .store _ _ _ => .wr
  | .call c => (match c.callee with
    | .value _ => .cal
    | .builtin .append => .wr
    | _ => .none)
  | .alloc _ | .box .. | .buildSlice .. | .makeSlice .. => .nw
  | _ => .none
structure VDn where
  ix : Nat
  tc : VTc
  bk : Option Nat
def ptrK : Option DV → Option Nat
  | some (.ptr k _) => some k
  | _ => none
/-- The own box that is touched, where it is known. -/
def touchB (T : VT) (op : Op) : Option Nat := match op with
  | .load _ a => ptrK (opdV T a)
  | .store _ a _ => ptrK (opdV T a)
  | _ => none
def isBoxB : Option VB → Bool
  | some (.box _) => true
  | _ => false
def diffB (H : VH) : Option Nat → Option Nat → Bool
  | some a, some b => !(Nat.beq a b) && (isBoxB (nthB H a) && isBoxB (nthB H b))
  | _, _ => false
def maskT (pv : Tbl Nat) : Operand → Nat
  | .tmp t => (match pv.get t with
    | some m => m
    | none => 0)
  | _ => 0
def maskL (pv : Tbl Nat) : List Operand → Nat
  | [] => 0
  | x :: l => maskT pv x ||| maskL pv l
def hasOwn (T : VT) : List Operand → Bool
  | [] => false
  | x :: l => (match opdV T x with
    | some v => isNeN (owns v)
    | none => false) || hasOwn T l
where isNeN : List Nat → Bool
  | [] => false
  | _ :: _ => true
def usedM (T : VT) (pv : Tbl Nat) (hm : Nat) (op : Op) : Nat := maskL pv op.operands.toList ||| (bif hasOwn T op.operands.toList then hm else 0)
def subM (a m : Nat) : Bool := Nat.beq (a &&& m) a
def allIn (m : Nat) (H : VH) (bk : Option Nat) (f : VTc → Bool) : List VDn → Bool
  | [] => true
  | d :: l => (!f d.tc || (m.testBit d.ix || diffB H bk d.bk)) && allIn m H bk f l
def tWr : VTc → Bool
  | .wr => true
  | _ => false
def tAny : VTc → Bool
  | .none | .nw => false
  | _ => true
def drawOkV (m u : Nat) (H : VH) (bk : Option Nat) (ds : List VDn) : VTc → Bool
  | .none => true
  | .nw => true
  | .rd => subM u m && allIn m H bk tWr ds
  | .cal => subM u m && allIn m H bk tWr ds
  | .wr => subM u m && allIn m H bk tAny ds
def resM (i m u : Nat) : VTc → Nat
  | .none | .rd => u
  | .cal => m ||| 1 <<< i
  | _ => u ||| 1 <<< i
def hmM (i u hm : Nat) : VTc → Nat
  | .wr => hm ||| (u ||| 1 <<< i)
  | _ => hm
def putM (pv : Tbl Nat) (m : Nat) : Option Tmp → Tbl Nat
  | some t => pv.set t m
  | none => pv
def drawK (vt : VTab) (ih : VIh) (ops : List Oper) : List Oper → List Nat → Nat → List VDn → Tbl Nat → Nat → VT → VH → KT → Res
  | [], _, _, _, _, _, T, H, k => k T H
  | _ :: _, [], _, _, _, _, _, _, _ => none
  | o :: l, m :: bf, i, ds, pv, hm, T, H, k => guardK ops T
      (fun T => bif drawOkV m (usedM T pv hm o.op) H (touchB T o.op) ds (touchV T o.op) then
          opK vt ih T H (fun v H' => drawK vt ih ops l bf (i + 1) (⟨i, touchV T o.op, touchB T o.op⟩ :: ds) (putM pv (resM i m (usedM T pv hm o.op) (touchV T o.op)) o.dst) (hmM i (usedM T pv hm o.op) hm (touchV T o.op)) (putV T v o.dst) H' k) o.op
        else none)
      (fun T => drawK vt ih ops l bf (i + 1) ds (putM pv 0 o.dst) hm (putV T .undef o.dst) H k) o.guard

/-! ### Loops' heads -/
def coV (s : Nat) (c : Co) (H : VH) (v : DV) (k : DV → VH → Res) : Res := match c with
  | .grow s => (match v with
    | .nils => k (.own H.length) (pushB H (.row true s []))
    | .own b => k (.own b) H
    | _ => none)
  | .frz s => (match v with
    | .nils => k (.list false false s []) H
    | .list false _ s' rows => bif Nat.beq s s' then k (.list false false s rows) H else none
    | .own b => (match rowsO (nthB H b) with
      | some (s', rows) => bif Nat.beq s s' then k (.list false false s rows) (frzAt H b) else none
      | none => none)
    | _ => none)
def coBox (c : CoS) (T : VT) (b o : Nat) (H : VH) (k : VT → VH → Res) (cs : List DV) : Option DV → Res
  | some v => coV 0 c.c H v (fun v' H' => k T (setB H' b (.box (spliceD cs o [v']))))
  | none => none
def coK : List CoS → VT → VH → (VT → VH → Res) → Res
  | [], T, H, k => k T H
  | c :: l, T, H, k => match T.get c.t with
    | none => none
    | some v => (match c.o with
      | none => coV 0 c.c H v (fun v' H' => coK l (T.set c.t v') H' k)
      | some o => (match v with
        | .ptr b p => (match nthB H b with
          | some (.box cs) => coBox c T b (p + o) H (coK l · · k) cs cs[p + o]?
          | _ => none)
        | _ => none))
def getAll (T : VT) : List Nat → Option (List DV)
  | [] => some []
  | t :: l => consD (T.get t) (getAll T l)
def memN (b : Nat) : List Nat → Bool
  | [] => false
  | x :: l => bif Nat.beq x b then true else memN b l
def boxIds : Option VB → List Nat
  | some (.box cs) => ownsL cs
  | some (.fbx cs) => ownsL cs
  | _ => []
/-- The own blocks in the order in which they are met. -/
def reachV (H : VH) : Nat → List Nat → List Nat → Option (List Nat)
  | 0, _, _ => none
  | n + 1, found, todo => match todo with
    | [] => some found
    | b :: todo => bif memN b found then reachV H n found todo else reachV H n (found ++ [b]) (todo ++ boxIds (nthB H b))
def posN : List Nat → Nat → Nat
  | [], _ => 0
  | x :: l, b => bif Nat.beq x b then 0 else posN l b + 1
mutual
def renD (ρ : Nat → Nat) : DV → DV
  | .own k => .own (ρ k)
  | .ptr k o => .ptr (ρ k) o
  | .elp k i o => .elp (ρ k) i o
  | .agg cs => .agg (renDL ρ cs)
  | .tup cs => .tup (renDL ρ cs)
  | .func f fs caps => .func f (renDL ρ fs) (renDL ρ caps)
  | v => v
def renDL (ρ : Nat → Nat) : List DV → List DV
  | [] => []
  | v :: l => renD ρ v :: renDL ρ l
end
def renB (ρ : Nat → Nat) : Option VB → VB
  | some (.box cs) => .box (renDL ρ cs)
  | some (.fbx cs) => .fbx (renDL ρ cs)
  | some (.row nn s rows) => .row nn s rows
  | some (.frz s rows) => .frz s rows
  | _ => .dead
def takeB (H : VH) (ρ : Nat → Nat) : List Nat → VH
  | [] => []
  | b :: l => renB ρ (nthB H b) :: takeB H ρ l
def setAll (ρ : Nat → Nat) : List Nat → List DV → VT → VT
  | t :: l, v :: vs, T => setAll ρ l vs (T.set t (renD ρ v))
  | _, _, T => T
def canon3 (H : VH) (live : List Nat) (vs : List DV) (k : VT → VH → Res) : Option (List Nat) → Res
  | some found => k (setAll (posN found) live vs .leaf) (takeB H (posN found) found)
  | none => none
def canon2 (H : VH) (live : List Nat) (k : VT → VH → Res) : Option (List DV) → Res
  | some vs => canon3 H live vs k (reachV H 200 [] (ownsL vs))
  | none => none
def canonK (T : VT) (H : VH) (live : List Nat) (k : VT → VH → Res) : Res := canon2 H live k (getAll T live)
def headK (co : List CoS) (live : List Nat) (T : VT) (H : VH) (k : VT → VH → Res) : Res := coK co T H (fun T H => canonK T H live k)

/-! ### Code -/
abbrev KX := Ex → VT → VH → Res
def onNormal (k : KX) (f : VT → VH → Res) : KX := fun x T H => match x with
  | .normal => f T H
  | x => k x T H
def condK (T : VT) (c : Operand) (a b : VT → Res) : Option DV → Res
  | some (.bool v) => splitB v (fun v' => bif v' then a (match c with
    | .tmp t => T.set t (.bool v')
    | _ => T) else b (match c with
    | .tmp t => T.set t (.bool v')
    | _ => T))
  | _ => none
def An.l : An → An
  | .seq a _ => a
  | .cond a _ => a
  | .block a => a
  | _ => .nil
def An.r : An → An
  | .seq _ b => b
  | .cond _ b => b
  | _ => .nil
/-! ### The place of a loop in its function -/
inductive Fr where
  | seq (b : Code) (a : An)
  | block (id : Nat)
  | loop (id : Nat) (co : List CoS) (live : List Nat)
  | unr (m : Nat) (b : Code) (a : An)
structure Lp where
  b : Code
  a : An
  co : List CoS
  live : List Nat
  ks : List Fr
def Lp.push (p : Lp) (fr : Fr) : Lp := { p with ks := p.ks ++ [fr] }
def lpMap (fr : Fr) : List (Nat × Lp) → List (Nat × Lp)
  | [] => []
  | (i, p) :: l => (i, p.push fr) :: lpMap fr l
/-- The loops of a function with their places. The stack of a place: the innermost first. -/
def lps : Code → An → List (Nat × Lp)
  | .seq a b, an => lpMap (.seq b an.r) (lps a an.l) ++ lps b an.r
  | .cond _ a b, an => lps a an.l ++ lps b an.r
  | .block id b, an => lpMap (.block id) (lps b an.l)
  | .loop b, an => (match an with
    | .loop id co live a => (id, ⟨b, a, co, live, []⟩) :: lpMap (.loop id co live) (lps b a)
    | .unr _ a => lps b a
    | _ => [])
  | _, _ => []
def isNilL {α : Type} : List α → Bool
  | [] => true
  | _ :: _ => false
def noLps (b : Code) (a : An) : Bool := isNilL (lps b a)
/-- A loop that is run round for round. -/
def unrK (body : VT → VH → KX → Res) : Nat → VT → VH → KX → Res
  | 0, _, _, _ => none
  | m + 1, T, H, k => body T H (onNormal k (fun T H => unrK body m T H k))
def codeK (vt : VTab) (ih : VIh) (f : Nat) : Code → An → VT → VH → KX → Res
  | .skip, _, T, H, k => k .normal T H
  | .region _ ops draw, _, T, H, k => bif draw then drawK vt ih ops.toList ops.toList (Region.before ops).toList 0 [] .leaf 0 T H (k .normal) else opsK vt ih ops.toList ops.toList T H (k .normal)
  | .seq a b, an, T, H, k => codeK vt ih f a an.l T H (onNormal k (fun T H => codeK vt ih f b an.r T H k))
  | .cond c a b, an, T, H, k => condK T c (fun T => codeK vt ih f a an.l T H k) (fun T => codeK vt ih f b an.r T H k) (opdV T c)
  | .block id b, an, T, H, k => codeK vt ih f b an.l T H (fun x T H => k (inBlockA id x) T H)
  | .loop b, an, T, H, k => (match an with
    | .loop id co live _ => headK co live T H (ih.at_ f id)
    | .unr m a => bif noLps b a then unrK (codeK vt ih f b a) m T H k else none
    | _ => none)
  | .exit id, _, T, H, k => k (.exit id) T H
  | .label _, _, T, H, k => k .normal T H
  | .ret, _, T, H, k => k .ret T H
  | _, _, _, _, _ => none
def resV1 (ty : Nat → Option TyI) (T : VT) (H : VH) : ResultVar → Option DV
  | .tmp t => T.get t
  | .cell a t => loadK ty t H (fun v _ => some v) (T.get a) (ty t)
def nrmO (H : VH) (r : RS) : Option DV → Option DV
  | some d => nrmV false H r d
  | none => none
def resAllV (ty : Nat → Option TyI) (T : VT) (H : VH) : List RS → List ResultVar → Option (List DV)
  | [], [] => some []
  | r :: rs, v :: l => consD (nrmO H r (resV1 ty T H v)) (resAllV ty T H rs l)
  | _, _ => none
def tupV : Option (List DV) → Res
  | some [v] => some v
  | some vs => some (.tup vs)
  | none => none
def finRs (ty : Nat → Option TyI) (T : VT) (H : VH) (l : List ResultVar) : Option (List RS) → Res
  | some rs => tupV (resAllV ty T H rs l)
  | none => none
def finK (vt : VTab) (fn : Func) : KX := fun x T H => match x with
  | .exit _ => none
  | _ => finRs vt.tab.ty T H fn.results.toList (allO (rsL vt.tab.ty fn.resultTypes.toList))

def findLp : List (Nat × Lp) → Nat → Option Lp
  | [], _ => none
  | (i, p) :: l, id => bif Nat.beq i id then some p else findLp l id
/-- The rest of a function behind a place. -/
def kOf (vt : VTab) (ih : VIh) (f : Nat) (fin : KX) : List Fr → KX
  | [] => fin
  | .seq b a :: ks => onNormal (kOf vt ih f fin ks) (fun T H => codeK vt ih f b a T H (kOf vt ih f fin ks))
  | .block id :: ks => fun x T H => kOf vt ih f fin ks (inBlockA id x) T H
  | .loop id co live :: ks => onNormal (kOf vt ih f fin ks) (fun T H => headK co live T H (ih.at_ f id))
  | .unr m b a :: ks => onNormal (kOf vt ih f fin ks) (fun T H => unrK (codeK vt ih f b a) m T H (kOf vt ih f fin ks))
def atL (vt : VTab) (ih : VIh) (f : Nat) (fn : Func) (id : Nat) (T : VT) (H : VH) : Option Lp → Res
  | some p => codeK vt ih f p.b p.a T H (kOf vt ih f (finK vt fn) (.loop id p.co p.live :: p.ks))
  | none => none
def bodyLps (an : An) : Option Code → List (Nat × Lp)
  | some c => lps c an
  | none => []
def atF1 (vt : VTab) (ih : VIh) (f id : Nat) (T : VT) (H : VH) : Option Func → Res
  | some fn => atL vt ih f fn id T H (findLp (bodyLps (vt.an f) fn.body) id)
  | none => none
def atF (vt : VTab) (ih : VIh) (f id : Nat) (T : VT) (H : VH) : Res := atF1 vt ih f id T H (vt.tab.fn f)
def argsV : List DV → Nat → VT → VT
  | [], _, T => T
  | v :: l, k, T => argsV l (k + 1) (T.set k v)
def primV : List DV → Res
  | [] => some (.bool true)
  | _ => none
def callB (vt : VTab) (ih : VIh) (f : Nat) (fn : Func) (args : List DV) : Option Code → Res
  | some c => codeK vt ih f c (vt.an f) (argsV args 0 .leaf) [] (finK vt fn)
  | none => none
def callF1 (vt : VTab) (ih : VIh) (f : Nat) (args : List DV) : Option Func → Res
  | some fn => bif vt.tab.prim f then primV args else bif Nat.ble args.length fn.ntmps then callB vt ih f fn args fn.body else none
  | none => none
def callF (vt : VTab) (ih : VIh) (f : Nat) (args : List DV) : Res := callF1 vt ih f args (vt.tab.fn f)
def evV (vt : VTab) : Nat → VIh
  | 0 => { call := fun _ _ => none, at_ := fun _ _ _ _ => none }
  | n + 1 => { call := callF vt (evV vt n), at_ := atF vt (evV vt n) }
end Go.Vx
/- V, text 1: how deep values stand to the values of S. -/
namespace Go.Vx
open Go.Sx

structure Ctx where
  E : Env
  M : Mem
  ρ : Nat → Nat
  H : VH
  Ta : Nat → Prop                 -- blocks of callers that may yet change
  lay : Nat → Option Nat          -- in a drawn region: the operation that has laid a block
  ck : Nat → Nat                  -- the operations on which an own block rests
  B : Nat → Prop                  -- the blocks of callers
def Ctx.nb (c : Ctx) : Nat := c.E.m0 + c.M.n
def Okid (c : Ctx) (i : Nat) : Prop := c.B i ∨ (c.E.m0 ≤ i ∧ i < c.nb)
def Mutk (H : VH) (k : Nat) : Prop := match nthB H k with
  | some (.box _) => True
  | some (.row _ _ rows) => rows ≠ []
  | _ => False
def Mut (c : Ctx) (b : Nat) : Prop := ∃ k, Mutk c.H k ∧ c.ρ k = b
def Sub (a m : Nat) : Prop := ∀ j, a.testBit j = true → m.testBit j = true
def visM (lay : Nat → Option Nat) (m b : Nat) : Prop := ∀ j, lay b = some j → m.testBit j = true
def Sta (c : Ctx) (m : Nat) (tg : Bool) (b : Nat) : Prop := ¬ Mut c b ∧ (tg = false → ¬ c.Ta b) ∧ visM c.lay m b
def SlR (c : Ctx) (m : Nat) (tg ex : Bool) (s n : Nat) (rc : List AV) (a : AV) : Prop :=
  (n = 0 ∧ (a = .nils ∨ ∃ z, a = .emp z ∧ (ex = true → z = true))) ∨
    ∃ b o cap q, a = .slice b o n cap q ∧ (q = 0 ∨ q = s) ∧ (n ≤ cap ∧ (cap = 0 → q = 0) ∧ (ex = true → cap = n ∧ q = 0)) ∧ Sta c m tg b ∧ rd c.E c.M b o (n * s) = some rc
def OwnV (c : Ctx) (m : Nat) (nn : Bool) (s k : Nat) (rows : List DV) (a : AV) : Prop :=
  (rows = [] ∧ (a = .nils ∨ (nn = false ∧ (a = .emp true ∨ ∃ b o, a = .slice b o 0 0 0 ∧ Sta c m false b ∧ rd c.E c.M b o 0 = some [])))) ∨
    (rows ≠ [] ∧ ∃ q, (q = 0 ∨ q = s) ∧ a = .slice (c.ρ k) 0 rows.length rows.length q)
def OwnR (c : Ctx) (m k : Nat) (a : AV) : Prop := match nthB c.H k with
  | some (.row nn s rows) => OwnV c m nn s k rows a
  | some (.frz s rows) => OwnV c m false s k rows a
  | some .dead => isSlV a = true
  | _ => False
def PtrR (c : Ctx) (k o : Nat) (a : AV) : Prop := (∃ cs, boxO (nthB c.H k) = some cs) ∧ a = .ptr (c.ρ k) o
def ElpR (c : Ctx) (k : Nat) (i : Int) (o : Nat) (a : AV) : Prop := match nthB c.H k with
  | some (.row _ s rows) => a = .ptr (c.ρ k) (i.toNat * s + o) ∧ inR i rows = true
  | some (.frz s rows) => a = .ptr (c.ρ k) (i.toNat * s + o) ∧ inR i rows = true
  | some .dead => isPtrV a = true
  | _ => False
mutual
/-- No tag within: nothing of a caller's that may change. -/
def nt : DV → Prop
  | .list tg _ _ rows => tg = false ∧ ntL rows
  | .agg cs => ntL cs
  | .tup cs => ntL cs
  | .int _ | .bool _ | .nilp | .nils | .nilf | .undef => True
  | _ => False
def ntL : List DV → Prop
  | [] => True
  | d :: l => nt d ∧ ntL l
end
mutual
def R (c : Ctx) (m : Nat) : Bool → DV → AV → Prop
  | _, .int n, a => a = .int .i64 n
  | _, .bool b, a => a = .bool b
  | _, .nilp, a => a = .nilp
  | _, .nils, a => a = .nils
  | _, .nilf, a => a = .nilf
  | _, .undef, a => a = .undef
  | _, .list tg ex s rows, a => ∃ rcs, RRows c m rows rcs ∧ (∀ l ∈ rcs, l.length = s) ∧ SlR c m tg ex s rows.length rcs.flatten a
  | z, .agg cs, a => ∃ l, a = .agg l ∧ RL c m z cs l
  | z, .tup cs, a => ∃ l, a = .tup l ∧ RL c m z cs l
  | z, .func f fs caps, a => ∃ x y, a = .func f x y ∧ RL c m z fs x ∧ RL c m z caps y
  | z, .own k, a => z = false ∧ Sub (c.ck k) m ∧ OwnR c m k a
  | z, .ptr k o, a => z = false ∧ Sub (c.ck k) m ∧ PtrR c k o a
  | z, .elp k i o, a => z = false ∧ Sub (c.ck k) m ∧ ElpR c k i o a
  | _, .fbp tg cs o, a => ∃ b base l, a = .ptr b (base + o) ∧ Sta c m tg b ∧ rd c.E c.M b base cs.length = some l ∧ RL c m true cs l
def RL (c : Ctx) (m : Nat) : Bool → List DV → List AV → Prop
  | _, [], l => l = []
  | z, d :: ds, l => ∃ a r, l = a :: r ∧ R c m z d a ∧ RL c m z ds r
def RRows (c : Ctx) (m : Nat) : List DV → List (List AV) → Prop
  | [], rcs => rcs = []
  | d :: ds, rcs => ∃ l r, rcs = l :: r ∧ ((d.isAgg = true ∧ R c m true d (.agg l)) ∨ (d.isAgg = false ∧ ∃ a, l = [a] ∧ R c m true d a)) ∧ nt d ∧ RRows c m ds r
end
/-- What a context keeps of another one. -/
structure Ext (c c' : Ctx) (m m' : Nat) : Prop where
  sta : ∀ tg b cs, Sta c m tg b → cellsOf c.E c.M b = some cs → Sta c' m' tg b ∧ cellsOf c'.E c'.M b = some cs
  own : ∀ k a, OwnR c m k a → OwnR c' m' k a
  box : ∀ k o a, PtrR c k o a → PtrR c' k o a
  elp : ∀ k i o a, ElpR c k i o a → ElpR c' k i o a
  ck : ∀ k, Sub (c.ck k) m → (∃ x, nthB c.H k = some x) → Sub (c'.ck k) m'
theorem rd_cells {E : Env} {M : Mem} {b o n : Nat} {l : List AV} (h : rd E M b o n = some l) : ∃ cs, cellsOf E M b = some cs ∧ rdIn o n (some cs) = some l := by
  unfold rd at h
  cases hc : cellsOf E M b with
  | none => rw [hc] at h; simp [rdIn] at h
  | some cs => rw [hc] at h; exact ⟨cs, rfl, h⟩
theorem Ext.rd {c c' : Ctx} {m m' : Nat} (h : Ext c c' m m') {tg : Bool} {b o n : Nat} {l : List AV} (hs : Sta c m tg b) (hr : rd c.E c.M b o n = some l) : Sta c' m' tg b ∧ Go.Sx.rd c'.E c'.M b o n = some l := by
  obtain ⟨cs, h1, h2⟩ := rd_cells hr
  obtain ⟨h3, h4⟩ := h.sta tg b cs hs h1
  refine ⟨h3, ?_⟩
  unfold Go.Sx.rd
  rw [h4]; exact h2
theorem OwnR.some {c : Ctx} {m k : Nat} {a : AV} (h : OwnR c m k a) : ∃ x, nthB c.H k = some x := by
  unfold OwnR at h
  split at h <;> first | exact ⟨_, by assumption⟩ | cases h
theorem PtrR.some {c : Ctx} {k o : Nat} {a : AV} (h : PtrR c k o a) : ∃ x, nthB c.H k = some x := by
  obtain ⟨⟨cs, hc⟩, _⟩ := h
  unfold boxO at hc
  split at hc <;> first | exact ⟨_, by assumption⟩ | cases hc
theorem ElpR.some {c : Ctx} {k o : Nat} {i : Int} {a : AV} (h : ElpR c k i o a) : ∃ x, nthB c.H k = some x := by
  unfold ElpR at h
  split at h <;> first | exact ⟨_, by assumption⟩ | cases h
theorem SlR.mono {c c' : Ctx} {m m' : Nat} (h : Ext c c' m m') {tg ex : Bool} {s n : Nat} {rc : List AV} {a : AV} (hs : SlR c m tg ex s n rc a) : SlR c' m' tg ex s n rc a := by
  rcases hs with e | ⟨b, o, cap, q, h1, h2, h3, h4, h5⟩
  · exact .inl e
  · obtain ⟨k1, k2⟩ := h.rd h4 h5
    exact .inr ⟨b, o, cap, q, h1, h2, h3, k1, k2⟩
mutual
theorem R.mono {c c' : Ctx} {m m' : Nat} (h : Ext c c' m m') : ∀ (v : DV) (z : Bool) (a : AV), R c m z v a → R c' m' z v a
  | .int _, _, _, e => by simpa only [R] using e
  | .bool _, _, _, e => by simpa only [R] using e
  | .nilp, _, _, e => by simpa only [R] using e
  | .nils, _, _, e => by simpa only [R] using e
  | .nilf, _, _, e => by simpa only [R] using e
  | .undef, _, _, e => by simpa only [R] using e
  | .list tg ex s rows, _, _, e => by
    simp only [R] at e ⊢
    obtain ⟨rcs, h1, h2, h3⟩ := e
    exact ⟨rcs, RRows.mono h rows rcs h1, h2, h3.mono h⟩
  | .agg cs, z, _, e => by
    simp only [R] at e ⊢
    obtain ⟨l, h1, h2⟩ := e
    exact ⟨l, h1, RL.mono h cs z l h2⟩
  | .tup cs, z, _, e => by
    simp only [R] at e ⊢
    obtain ⟨l, h1, h2⟩ := e
    exact ⟨l, h1, RL.mono h cs z l h2⟩
  | .func f fs caps, z, _, e => by
    simp only [R] at e ⊢
    obtain ⟨x, y, h1, h2, h3⟩ := e
    exact ⟨x, y, h1, RL.mono h fs z x h2, RL.mono h caps z y h3⟩
  | .own k, z, _, e => by
    simp only [R] at e ⊢
    exact ⟨e.1, h.ck k e.2.1 e.2.2.some, h.own k _ e.2.2⟩
  | .ptr k o, z, _, e => by
    simp only [R] at e ⊢
    exact ⟨e.1, h.ck k e.2.1 e.2.2.some, h.box k o _ e.2.2⟩
  | .elp k i o, z, _, e => by
    simp only [R] at e ⊢
    exact ⟨e.1, h.ck k e.2.1 e.2.2.some, h.elp k i o _ e.2.2⟩
  | .fbp tg cs o, _, _, e => by
    simp only [R] at e ⊢
    obtain ⟨b, base, l, h1, h2, h3, h4⟩ := e
    obtain ⟨k1, k2⟩ := h.rd h2 h3
    exact ⟨b, base, l, h1, k1, k2, RL.mono h cs true l h4⟩
theorem RL.mono {c c' : Ctx} {m m' : Nat} (h : Ext c c' m m') : ∀ (ds : List DV) (z : Bool) (l : List AV), RL c m z ds l → RL c' m' z ds l
  | [], _, _, e => by simpa only [RL] using e
  | d :: ds, z, _, e => by
    simp only [RL] at e ⊢
    obtain ⟨a, r, h1, h2, h3⟩ := e
    exact ⟨a, r, h1, R.mono h d z a h2, RL.mono h ds z r h3⟩
theorem RRows.mono {c c' : Ctx} {m m' : Nat} (h : Ext c c' m m') : ∀ (ds : List DV) (l : List (List AV)), RRows c m ds l → RRows c' m' ds l
  | [], _, e => by simpa only [RRows] using e
  | d :: ds, _, e => by
    simp only [RRows] at e ⊢
    obtain ⟨l, r, h1, h2, h4, h3⟩ := e
    refine ⟨l, r, h1, ?_, h4, RRows.mono h ds r h3⟩
    rcases h2 with ⟨k1, k2⟩ | ⟨k1, a, k2, k3⟩
    · exact .inl ⟨k1, R.mono h d true _ k2⟩
    · exact .inr ⟨k1, a, k2, R.mono h d true a k3⟩
end
/-- Frozen values: only what is read matters. -/
structure ExtF (c c' : Ctx) (m m' : Nat) : Prop where
  sta : ∀ tg b cs, Sta c m tg b → cellsOf c.E c.M b = some cs → Sta c' m' tg b ∧ cellsOf c'.E c'.M b = some cs
theorem ExtF.rd {c c' : Ctx} {m m' : Nat} (h : ExtF c c' m m') {tg : Bool} {b o n : Nat} {l : List AV} (hs : Sta c m tg b) (hr : rd c.E c.M b o n = some l) : Sta c' m' tg b ∧ Go.Sx.rd c'.E c'.M b o n = some l := by
  obtain ⟨cs, h1, h2⟩ := rd_cells hr
  obtain ⟨h3, h4⟩ := h.sta tg b cs hs h1
  refine ⟨h3, ?_⟩
  unfold Go.Sx.rd
  rw [h4]; exact h2
theorem SlR.monoF {c c' : Ctx} {m m' : Nat} (h : ExtF c c' m m') {tg ex : Bool} {s n : Nat} {rc : List AV} {a : AV} (hs : SlR c m tg ex s n rc a) : SlR c' m' tg ex s n rc a := by
  rcases hs with e | ⟨b, o, cap, q, h1, h2, h3, h4, h5⟩
  · exact .inl e
  · obtain ⟨k1, k2⟩ := h.rd h4 h5
    exact .inr ⟨b, o, cap, q, h1, h2, h3, k1, k2⟩
mutual
theorem R.monoF {c c' : Ctx} {m m' : Nat} (h : ExtF c c' m m') : ∀ (v : DV) (z : Bool) (a : AV), R c m true v a → R c' m' z v a
  | .int _, _, _, e => by simpa only [R] using e
  | .bool _, _, _, e => by simpa only [R] using e
  | .nilp, _, _, e => by simpa only [R] using e
  | .nils, _, _, e => by simpa only [R] using e
  | .nilf, _, _, e => by simpa only [R] using e
  | .undef, _, _, e => by simpa only [R] using e
  | .list tg ex s rows, _, _, e => by
    simp only [R] at e ⊢
    obtain ⟨rcs, h1, h2, h3⟩ := e
    exact ⟨rcs, RRows.monoF h rows rcs h1, h2, h3.monoF h⟩
  | .agg cs, z, _, e => by
    simp only [R] at e ⊢
    obtain ⟨l, h1, h2⟩ := e
    exact ⟨l, h1, RL.monoF h cs z l h2⟩
  | .tup cs, z, _, e => by
    simp only [R] at e ⊢
    obtain ⟨l, h1, h2⟩ := e
    exact ⟨l, h1, RL.monoF h cs z l h2⟩
  | .func f fs caps, z, _, e => by
    simp only [R] at e ⊢
    obtain ⟨x, y, h1, h2, h3⟩ := e
    exact ⟨x, y, h1, RL.monoF h fs z x h2, RL.monoF h caps z y h3⟩
  | .own k, z, _, e => by simp [R] at e
  | .ptr k o, z, _, e => by simp [R] at e
  | .elp k i o, z, _, e => by simp [R] at e
  | .fbp tg cs o, _, _, e => by
    simp only [R] at e ⊢
    obtain ⟨b, base, l, h1, h2, h3, h4⟩ := e
    obtain ⟨k1, k2⟩ := h.rd h2 h3
    exact ⟨b, base, l, h1, k1, k2, RL.monoF h cs true l h4⟩
theorem RL.monoF {c c' : Ctx} {m m' : Nat} (h : ExtF c c' m m') : ∀ (ds : List DV) (z : Bool) (l : List AV), RL c m true ds l → RL c' m' z ds l
  | [], _, _, e => by simpa only [RL] using e
  | d :: ds, z, _, e => by
    simp only [RL] at e ⊢
    obtain ⟨a, r, h1, h2, h3⟩ := e
    exact ⟨a, r, h1, R.monoF h d z a h2, RL.monoF h ds z r h3⟩
theorem RRows.monoF {c c' : Ctx} {m m' : Nat} (h : ExtF c c' m m') : ∀ (ds : List DV) (l : List (List AV)), RRows c m ds l → RRows c' m' ds l
  | [], _, e => by simpa only [RRows] using e
  | d :: ds, _, e => by
    simp only [RRows] at e ⊢
    obtain ⟨l, r, h1, h2, h4, h3⟩ := e
    refine ⟨l, r, h1, ?_, h4, RRows.monoF h ds r h3⟩
    rcases h2 with ⟨k1, k2⟩ | ⟨k1, a, k2, k3⟩
    · exact .inl ⟨k1, R.monoF h d true _ k2⟩
    · exact .inr ⟨k1, a, k2, R.monoF h d true a k3⟩
end

/-! ### Masks -/
theorem Sub.refl (a : Nat) : Sub a a := fun _ h => h
theorem Sub.trans {a b d : Nat} (h : Sub a b) (k : Sub b d) : Sub a d := fun j e => k j (h j e)
theorem Sub.orl (a b : Nat) : Sub a (a ||| b) := fun j h => by simp [h]
theorem Sub.orr (a b : Nat) : Sub b (a ||| b) := fun j h => by simp [h]
theorem Sub.or {a b m : Nat} (h : Sub a m) (k : Sub b m) : Sub (a ||| b) m := fun j e => by
  rw [Nat.testBit_or, Bool.or_eq_true] at e
  exact e.elim (h j) (k j)
theorem subM_iff {a m : Nat} (h : subM a m = true) : Sub a m := fun j e => by
  have := Nat.eq_of_beq_eq_true h
  have h2 : (a &&& m).testBit j = true := by rw [this]; exact e
  rw [Nat.testBit_and, Bool.and_eq_true] at h2
  exact h2.2
theorem visM.mono {lay : Nat → Option Nat} {m m' b : Nat} (h : visM lay m b) (hs : Sub m m') : visM lay m' b := fun j e => hs j (h j e)
theorem Sta.mono {c : Ctx} {m m' : Nat} {tg : Bool} {b : Nat} (h : Sta c m tg b) (hs : Sub m m') : Sta c m' tg b := ⟨h.1, h.2.1, h.2.2.mono hs⟩
theorem Sta.tag {c : Ctx} {m : Nat} {tg : Bool} {b : Nat} (h : Sta c m tg b) : Sta c m true b := ⟨h.1, by simp, h.2.2⟩
theorem OwnV.mono {c : Ctx} {m m' s k : Nat} {nn : Bool} {rows : List DV} {a : AV} (h : OwnV c m nn s k rows a) (hs : Sub m m') : OwnV c m' nn s k rows a := by
  rcases h with ⟨h1, e | ⟨h2, e | ⟨b, o, h3, h4, h5⟩⟩⟩ | h
  · exact .inl ⟨h1, .inl e⟩
  · exact .inl ⟨h1, .inr ⟨h2, .inl e⟩⟩
  · exact .inl ⟨h1, .inr ⟨h2, .inr ⟨b, o, h3, h4.mono hs, h5⟩⟩⟩
  · exact .inr h
theorem OwnR.mono {c : Ctx} {m m' k : Nat} {a : AV} (hs : Sub m m') (h : OwnR c m k a) : OwnR c m' k a := by
  unfold OwnR at h ⊢
  split at h
  · exact OwnV.mono h hs
  · exact OwnV.mono h hs
  · exact h
  · exact h.elim
theorem Ext.sub {c : Ctx} {m m' : Nat} (hs : Sub m m') : Ext c c m m' :=
  ⟨fun _ _ _ h k => ⟨h.mono hs, k⟩, fun k a h => h.mono hs, fun _ _ _ h => h, fun _ _ _ _ h => h, fun _ h _ => Sub.trans h hs⟩
theorem R.sub {c : Ctx} {m m' : Nat} (hs : Sub m m') {v : DV} {z : Bool} {a : AV} (h : R c m z v a) : R c m' z v a := R.mono (Ext.sub hs) v z a h
theorem RL.sub {c : Ctx} {m m' : Nat} (hs : Sub m m') {v : List DV} {z : Bool} {a : List AV} (h : RL c m z v a) : RL c m' z v a := RL.mono (Ext.sub hs) v z a h
theorem RRows.sub {c : Ctx} {m m' : Nat} (hs : Sub m m') {v : List DV} {a : List (List AV)} (h : RRows c m v a) : RRows c m' v a := RRows.mono (Ext.sub hs) v a h
theorem ExtF.refl (c : Ctx) (m : Nat) : ExtF c c m m := ⟨fun _ _ _ h k => ⟨h, k⟩⟩
theorem R.thaw {c : Ctx} {m : Nat} {v : DV} {z : Bool} {a : AV} (h : R c m true v a) : R c m z v a := R.monoF (ExtF.refl c m) v z a h
theorem RL.thaw {c : Ctx} {m : Nat} {v : List DV} {z : Bool} {a : List AV} (h : RL c m true v a) : RL c m z v a := RL.monoF (ExtF.refl c m) v z a h

/-! ### Lists -/
theorem RL.length {c : Ctx} {m : Nat} {z : Bool} : ∀ {ds : List DV} {l : List AV}, RL c m z ds l → l.length = ds.length
  | [], _, h => by simp only [RL] at h; subst h; rfl
  | d :: ds, _, h => by
    simp only [RL] at h
    obtain ⟨a, r, rfl, _, h2⟩ := h
    simp [RL.length h2]
theorem RL.get {c : Ctx} {m : Nat} {z : Bool} : ∀ {ds : List DV} {l : List AV}, RL c m z ds l → ∀ {j : Nat} {d : DV}, ds[j]? = some d → ∃ a, l[j]? = some a ∧ R c m z d a
  | [], _, _, _, _, h => by simp at h
  | d :: ds, _, h, j, d', hj => by
    simp only [RL] at h
    obtain ⟨a, r, rfl, h1, h2⟩ := h
    cases j with
    | zero => simp only [List.getElem?_cons_zero, Option.some.injEq] at hj; subst hj; exact ⟨a, by simp, h1⟩
    | succ j => simpa using h2.get (by simpa using hj)
theorem RL.append {c : Ctx} {m : Nat} {z : Bool} : ∀ {ds es : List DV} {l r : List AV}, RL c m z ds l → RL c m z es r → RL c m z (ds ++ es) (l ++ r)
  | [], _, _, _, h, k => by simp only [RL] at h; subst h; simpa using k
  | d :: ds, _, _, _, h, k => by
    simp only [RL] at h
    obtain ⟨a, r, rfl, h1, h2⟩ := h
    simp only [List.cons_append, RL]
    exact ⟨a, _, rfl, h1, h2.append k⟩
theorem RL.take {c : Ctx} {m : Nat} {z : Bool} : ∀ {ds : List DV} {l : List AV} (n : Nat), RL c m z ds l → RL c m z (ds.take n) (l.take n)
  | [], _, n, h => by simp only [RL] at h; subst h; simp [RL]
  | d :: ds, _, 0, h => by simp [RL]
  | d :: ds, _, n + 1, h => by
    simp only [RL] at h
    obtain ⟨a, r, rfl, h1, h2⟩ := h
    simp only [List.take_succ_cons, RL]
    exact ⟨a, _, rfl, h1, h2.take n⟩
theorem RL.drop {c : Ctx} {m : Nat} {z : Bool} : ∀ {ds : List DV} {l : List AV} (n : Nat), RL c m z ds l → RL c m z (ds.drop n) (l.drop n)
  | [], _, n, h => by simp only [RL] at h; subst h; simp [RL]
  | d :: ds, _, 0, h => by simpa using h
  | d :: ds, _, n + 1, h => by
    simp only [RL] at h
    obtain ⟨a, r, rfl, h1, h2⟩ := h
    simpa using h2.drop n
theorem RL.splice {c : Ctx} {m : Nat} {z : Bool} {ds vs : List DV} {l as : List AV} {o : Nat} (h : RL c m z ds l) (k : RL c m z vs as) : RL c m z (spliceD ds o vs) (splice l o as) := by
  unfold spliceD Go.Sx.splice
  rw [k.length]
  exact ((h.take o).append k).append (h.drop _)
theorem OwnR.sl {c : Ctx} {m k : Nat} {a : AV} (h : OwnR c m k a) : isSlV a = true := by
  unfold OwnR at h
  split at h
  · rcases h with ⟨_, e | ⟨_, e | ⟨b, o, e, _⟩⟩⟩ | ⟨_, q, _, e⟩ <;> subst e <;> rfl
  · rcases h with ⟨_, e | ⟨_, e | ⟨b, o, e, _⟩⟩⟩ | ⟨_, q, _, e⟩ <;> subst e <;> rfl
  · exact h
  · exact h.elim
theorem ElpR.pt {c : Ctx} {k o : Nat} {i : Int} {a : AV} (h : ElpR c k i o a) : isPtrV a = true := by
  unfold ElpR at h
  split at h
  · rw [h.1]; rfl
  · rw [h.1]; rfl
  · exact h
  · exact h.elim
theorem isSlV_cell {a : AV} (h : isSlV a = true) : a.cells = [a] ∧ a.isCell = true := by cases a <;> simp [isSlV] at h <;> exact ⟨rfl, rfl⟩
theorem isPtrV_cell {a : AV} (h : isPtrV a = true) : a.cells = [a] ∧ a.isCell = true := by cases a <;> simp [isPtrV] at h <;> exact ⟨rfl, rfl⟩
theorem SlR.sl {c : Ctx} {m : Nat} {tg ex : Bool} {s n : Nat} {rc : List AV} {a : AV} (h : SlR c m tg ex s n rc a) : isSlV a = true := by
  rcases h with ⟨_, e | ⟨_, e, _⟩⟩ | ⟨b, o, cap, q, e, _⟩ <;> subst e <;> rfl
/-- Values that may lie in a cell stand to such. -/
theorem R.cell {c : Ctx} {m : Nat} {z : Bool} {v : DV} {a : AV} (h : R c m z v a) (hu : v.isCell = true) : a.cells = [a] ∧ a.isCell = true := by
  cases v <;> simp only [R] at h <;> simp [DV.isCell] at hu
  case int => subst h; exact ⟨rfl, rfl⟩
  case bool => subst h; exact ⟨rfl, rfl⟩
  case nilp => subst h; exact ⟨rfl, rfl⟩
  case nils => subst h; exact ⟨rfl, rfl⟩
  case nilf => subst h; exact ⟨rfl, rfl⟩
  case list => obtain ⟨_, _, _, e⟩ := h; exact isSlV_cell e.sl
  case func => obtain ⟨_, _, e, _⟩ := h; subst e; exact ⟨rfl, rfl⟩
  case own => exact isSlV_cell h.2.2.sl
  case ptr => obtain ⟨_, _, _, e⟩ := h; subst e; exact ⟨rfl, rfl⟩
  case elp => exact isPtrV_cell h.2.2.pt
  case fbp => obtain ⟨_, _, _, e, _⟩ := h; subst e; exact ⟨rfl, rfl⟩
theorem R.notAgg {c : Ctx} {m : Nat} {z : Bool} {v : DV} {a : AV} (h : R c m z v a) (hu : v.isAgg = false) : a.cells = [a] := by
  cases hc : v.isCell with
  | true => exact (h.cell hc).1
  | false =>
    cases v <;> simp [DV.isCell] at hc <;> simp [DV.isAgg] at hu
    · simp only [R] at h; subst h; rfl
    · simp only [R] at h; obtain ⟨l, e, _⟩ := h; subst e; rfl
theorem R.cells {c : Ctx} {m : Nat} {z : Bool} {v : DV} {a : AV} (h : R c m z v a) : RL c m z v.cells a.cells := by
  cases hu : v.isAgg with
  | true =>
    cases v <;> simp [DV.isAgg] at hu
    simp only [R] at h
    obtain ⟨l, e, h⟩ := h
    subst e; exact h
  | false =>
    have e : v.cells = [v] := by cases v <;> simp [DV.isAgg] at hu <;> rfl
    rw [e, h.notAgg hu]
    simp only [RL]
    exact ⟨a, [], rfl, h, rfl⟩
theorem RL.cellsAll {c : Ctx} {m : Nat} {z : Bool} : ∀ {ds : List DV} {l : List AV}, RL c m z ds l → ds.all DV.isCell = true → l.all AV.isCell = true
  | [], _, h, _ => by simp only [RL] at h; subst h; rfl
  | d :: ds, _, h, k => by
    simp only [RL] at h
    obtain ⟨a, r, rfl, h1, h2⟩ := h
    simp only [List.all_cons, Bool.and_eq_true] at k ⊢
    exact ⟨(h1.cell k.1).2, h2.cellsAll k.2⟩
theorem RL.one {c : Ctx} {m : Nat} {z : Bool} {d : DV} {a : AV} (h : R c m z d a) : RL c m z [d] [a] := by simp only [RL]; exact ⟨a, [], rfl, h, rfl⟩

/-! ### Rows -/
theorem RRows.length {c : Ctx} {m : Nat} : ∀ {ds : List DV} {l : List (List AV)}, RRows c m ds l → l.length = ds.length
  | [], _, h => by simp only [RRows] at h; subst h; rfl
  | d :: ds, _, h => by
    simp only [RRows] at h
    obtain ⟨a, r, rfl, _, _, h2⟩ := h
    simp [RRows.length h2]
def RRow (c : Ctx) (m : Nat) (d : DV) (l : List AV) : Prop := ((d.isAgg = true ∧ R c m true d (.agg l)) ∨ (d.isAgg = false ∧ ∃ a, l = [a] ∧ R c m true d a)) ∧ nt d
theorem RRows_cons {c : Ctx} {m : Nat} {d : DV} {ds : List DV} {rcs : List (List AV)} : RRows c m (d :: ds) rcs ↔ ∃ l r, rcs = l :: r ∧ RRow c m d l ∧ RRows c m ds r := by
  simp only [RRows, RRow]
  constructor
  · rintro ⟨l, r, h1, h2, h3, h4⟩; exact ⟨l, r, h1, ⟨h2, h3⟩, h4⟩
  · rintro ⟨l, r, h1, ⟨h2, h3⟩, h4⟩; exact ⟨l, r, h1, h2, h3, h4⟩
theorem RRows.nt {c : Ctx} {m : Nat} : ∀ {ds : List DV} {l : List (List AV)}, RRows c m ds l → ntL ds
  | [], _, _ => by simp [ntL]
  | d :: ds, _, h => by
    rw [RRows_cons] at h
    obtain ⟨l, r, _, h1, h2⟩ := h
    simp only [ntL]
    exact ⟨h1.2, h2.nt⟩
theorem RRow.cells {c : Ctx} {m : Nat} {d : DV} {l : List AV} (h : RRow c m d l) : RL c m true d.cells l := by
  rcases h.1 with ⟨_, h2⟩ | ⟨h0, a, rfl, h2⟩
  · exact h2.cells
  · have := h2.cells
    rwa [h2.notAgg h0] at this
theorem RRow.of {c : Ctx} {m : Nat} {d : DV} {a : AV} (h : R c m true d a) (hn : Go.Vx.nt d) : RRow c m d a.cells := by
  refine ⟨?_, hn⟩
  cases hu : d.isAgg with
  | true =>
    left
    cases d <;> simp [DV.isAgg] at hu
    simp only [R] at h ⊢
    obtain ⟨l, e, h⟩ := h
    subst e
    exact ⟨trivial, l, rfl, h⟩
  | false => exact .inr ⟨rfl, a, h.notAgg hu, h⟩
theorem RRow.mono {c c' : Ctx} {m m' : Nat} (hx : Ext c c' m m') {d : DV} {l : List AV} (h : RRow c m d l) : RRow c' m' d l := by
  refine ⟨?_, h.2⟩
  rcases h.1 with ⟨k1, k2⟩ | ⟨k1, a, k2, k3⟩
  · exact .inl ⟨k1, R.mono hx d true _ k2⟩
  · exact .inr ⟨k1, a, k2, R.mono hx d true a k3⟩
theorem RRows.get {c : Ctx} {m : Nat} : ∀ {ds : List DV} {l : List (List AV)}, RRows c m ds l → ∀ {j : Nat} {d : DV}, ds[j]? = some d → ∃ a, l[j]? = some a ∧ RRow c m d a
  | [], _, _, _, _, h => by simp at h
  | d :: ds, _, h, j, d', hj => by
    rw [RRows_cons] at h
    obtain ⟨a, r, rfl, h1, h2⟩ := h
    cases j with
    | zero => simp only [List.getElem?_cons_zero, Option.some.injEq] at hj; subst hj; exact ⟨a, by simp, h1⟩
    | succ j => simpa using h2.get (by simpa using hj)
theorem RRows.append {c : Ctx} {m : Nat} : ∀ {ds es : List DV} {l r : List (List AV)}, RRows c m ds l → RRows c m es r → RRows c m (ds ++ es) (l ++ r)
  | [], _, _, _, h, k => by simp only [RRows] at h; subst h; simpa using k
  | d :: ds, _, _, _, h, k => by
    rw [RRows_cons] at h
    obtain ⟨a, r, rfl, h1, h2⟩ := h
    rw [List.cons_append, RRows_cons]
    exact ⟨a, _, rfl, h1, h2.append k⟩
theorem RRows.take {c : Ctx} {m : Nat} : ∀ {ds : List DV} {l : List (List AV)} (n : Nat), RRows c m ds l → RRows c m (ds.take n) (l.take n)
  | [], _, n, h => by simp only [RRows] at h; subst h; simp [RRows]
  | d :: ds, _, 0, h => by simp [RRows]
  | d :: ds, _, n + 1, h => by
    rw [RRows_cons] at h
    obtain ⟨a, r, rfl, h1, h2⟩ := h
    rw [List.take_succ_cons, RRows_cons]
    exact ⟨a, _, rfl, h1, h2.take n⟩
theorem RRows.drop {c : Ctx} {m : Nat} : ∀ {ds : List DV} {l : List (List AV)} (n : Nat), RRows c m ds l → RRows c m (ds.drop n) (l.drop n)
  | [], _, n, h => by simp only [RRows] at h; subst h; simp [RRows]
  | d :: ds, _, 0, h => by simpa using h
  | d :: ds, _, n + 1, h => by
    rw [RRows_cons] at h
    obtain ⟨a, r, rfl, h1, h2⟩ := h
    simpa using h2.drop n
theorem RRows.set {c : Ctx} {m : Nat} {d : DV} {a : List AV} (hd : RRow c m d a) : ∀ {ds : List DV} {l : List (List AV)} (n : Nat), RRows c m ds l → RRows c m (ds.set n d) (l.set n a)
  | [], _, n, h => by simp only [RRows] at h; subst h; simp [RRows]
  | e :: ds, _, 0, h => by
    rw [RRows_cons] at h
    obtain ⟨a', r, rfl, h1, h2⟩ := h
    rw [List.set_cons_zero, RRows_cons]
    exact ⟨a, r, rfl, hd, h2⟩
  | e :: ds, _, n + 1, h => by
    rw [RRows_cons] at h
    obtain ⟨a', r, rfl, h1, h2⟩ := h
    rw [List.set_cons_succ, RRows_cons]
    exact ⟨a', _, rfl, h1, h2.set hd n⟩
theorem RRows.replicate {c : Ctx} {m : Nat} {d : DV} {a : List AV} (hd : RRow c m d a) : ∀ (n : Nat), RRows c m (List.replicate n d) (List.replicate n a)
  | 0 => by simp [RRows]
  | n + 1 => by
    rw [List.replicate_succ, RRows_cons]
    exact ⟨a, _, rfl, hd, RRows.replicate hd n⟩
/-- The flat cells of rows of one size. -/
theorem flat_length {s : Nat} : ∀ {l : List (List AV)}, (∀ x ∈ l, x.length = s) → l.flatten.length = l.length * s
  | [], _ => by simp
  | x :: l, h => by
    have h1 := flat_length (l := l) (fun y hy => h y (List.mem_cons_of_mem _ hy))
    have h2 := h x (by simp)
    simp only [List.flatten_cons, List.length_append, List.length_cons, h1, h2]
    rw [Nat.add_mul]; omega
theorem flat_drop {s : Nat} : ∀ {l : List (List AV)} (n : Nat), (∀ x ∈ l, x.length = s) → l.flatten.drop (n * s) = (l.drop n).flatten
  | [], n, _ => by simp
  | x :: l, 0, h => by simp
  | x :: l, n + 1, h => by
    rw [List.flatten_cons, List.drop_succ_cons, ← flat_drop n (fun y hy => h y (by simp [hy])), List.drop_append, h x (by simp)]
    rw [List.drop_of_length_le (by rw [h x (by simp), Nat.add_mul]; omega)]
    simp only [List.nil_append]
    congr 1
    rw [Nat.add_mul]; omega
theorem flat_take {s : Nat} : ∀ {l : List (List AV)} (n : Nat), (∀ x ∈ l, x.length = s) → l.flatten.take (n * s) = (l.take n).flatten
  | [], n, _ => by simp
  | x :: l, 0, h => by simp
  | x :: l, n + 1, h => by
    rw [List.flatten_cons, List.take_succ_cons, List.flatten_cons, ← flat_take n (fun y hy => h y (by simp [hy])), List.take_append, h x (by simp)]
    rw [List.take_of_length_le (by rw [h x (by simp), Nat.add_mul]; omega)]
    congr 2
    rw [Nat.add_mul]; omega
theorem flat_row {s : Nat} {l : List (List AV)} {n : Nat} {x : List AV} (h : ∀ x ∈ l, x.length = s) (hx : l[n]? = some x) : (l.flatten.drop (n * s)).take s = x := by
  rw [flat_drop n h]
  obtain ⟨hn, e⟩ := List.getElem?_eq_some_iff.1 hx
  rw [List.drop_eq_getElem_cons hn, e, List.flatten_cons, List.take_append, h x (by rw [← e]; exact List.getElem_mem hn)]
  have : x.length = s := h x (by rw [← e]; exact List.getElem_mem hn)
  rw [List.take_of_length_le (by omega)]
  simp
theorem flat_set {s : Nat} {y : List AV} (hy : y.length = s) : ∀ {l : List (List AV)} (n : Nat), (∀ x ∈ l, x.length = s) → n < l.length → (l.set n y).flatten = splice l.flatten (n * s) y
  | [], n, _, hn => by simp at hn
  | x :: l, 0, h, _ => by
    simp only [List.set_cons_zero, List.flatten_cons, splice, Nat.zero_mul, List.take_zero, List.nil_append, Nat.zero_add]
    rw [List.drop_append, h x (by simp), hy]
    rw [List.drop_of_length_le (by rw [h x (by simp)]; omega)]
    simp
  | x :: l, n + 1, h, hn => by
    have ih := flat_set hy (l := l) n (fun z hz => h z (by simp [hz])) (by simpa using hn)
    simp only [List.set_cons_succ, List.flatten_cons, ih, splice]
    have e : (n + 1) * s = s + n * s := by rw [Nat.add_mul]; omega
    have hx := h x (by simp)
    have t1 : List.take (s + n * s) (x ++ l.flatten) = x ++ List.take (n * s) l.flatten := by
      rw [List.take_append, hx, List.take_of_length_le (by omega), show s + n * s - s = n * s by omega]
    have t2 : List.drop (s + n * s + y.length) (x ++ l.flatten) = List.drop (n * s + y.length) l.flatten := by
      rw [List.drop_append, hx, List.drop_of_length_le (by omega), show s + n * s + y.length - s = n * s + y.length by omega, List.nil_append]
    rw [e, t1, t2]
    simp only [List.append_assoc]
end Go.Vx
/- V, text 2: the frame's own blocks, and what a new block, a write, a freezing do to them. -/
namespace Go.Vx
open Go.Sx

theorem Mem.get_lt {M : Mem} {i : Nat} {o : AObj} (h : M.get i = some o) : i < M.n := by
  unfold Mem.get at h
  cases hb : Nat.blt i M.n with
  | false => rw [hb] at h; cases h
  | true => exact bltT hb
theorem Mem.get_push (M : Mem) (o : AObj) (i : Nat) : (M.push o).get i = if i = M.n then some o else M.get i := by
  show (bif Nat.blt i (M.n + 1) then (M.t.set M.n o).get i else none) = if i = M.n then some o else (bif Nat.blt i M.n then M.t.get i else none)
  by_cases h : i = M.n
  · subst h
    rw [if_pos rfl, bltOf (by omega), cond_true, Tbl.get_set_same]
  · rw [if_neg h]
    by_cases hl : i < M.n
    · rw [bltOf (by omega), bltOf hl, cond_true, cond_true, Tbl.get_set_other _ _ _ _ h]
    · rw [bltOfN (by omega), bltOfN (by omega)]; rfl
theorem Mem.get_put (M : Mem) (k : Nat) (o : AObj) (i : Nat) (hk : k < M.n) : (M.put k o).get i = if i = k then some o else M.get i := by
  show (bif Nat.blt i M.n then (M.t.set k o).get i else none) = if i = k then some o else (bif Nat.blt i M.n then M.t.get i else none)
  by_cases h : i = k
  · subst h
    rw [if_pos rfl, bltOf hk, cond_true, Tbl.get_set_same]
  · rw [if_neg h]
    by_cases hl : i < M.n
    · rw [bltOf hl, cond_true, cond_true, Tbl.get_set_other _ _ _ _ h]
    · rw [bltOfN (by omega)]; rfl
theorem cellsOf_own {E : Env} {M : Mem} {b : Nat} (h : E.m0 ≤ b) : cellsOf E M b = objCells (M.get (b - E.m0)) := by
  unfold cellsOf; rw [bltOfN h, cond_false]
theorem cellsOf_ro {E : Env} {M : Mem} {b : Nat} (h : b < E.m0) : cellsOf E M b = E.ro b := by
  unfold cellsOf; rw [bltOf h, cond_true]
theorem objCells_some' {o : Option AObj} {cs : List AV} (h : objCells o = some cs) : o = some (.cells cs) := by
  unfold objCells at h
  split at h
  · cases h; rfl
  · cases h
theorem cells_lt {E : Env} {M : Mem} {b : Nat} {cs : List AV} (h : cellsOf E M b = some cs) : b < E.m0 + M.n := by
  by_cases hb : b < E.m0
  · omega
  · rw [cellsOf_own (by omega)] at h
    have := Mem.get_lt (objCells_some' h)
    omega

/-! ### The list of blocks -/
theorem nthB_get : ∀ (H : VH) (k : Nat), nthB H k = H[k]?
  | [], k => by simp [nthB]
  | b :: l, 0 => by simp [nthB]
  | b :: l, k + 1 => by simp [nthB, nthB_get l k]
theorem setB_set : ∀ (H : VH) (k : Nat) (b : VB), setB H k b = H.set k b
  | [], k, b => by simp [setB]
  | x :: l, 0, b => by simp [setB]
  | x :: l, k + 1, b => by simp [setB, setB_set l k b]
theorem nthB_set {H : VH} {k : Nat} {b x : VB} (h : nthB H k = some x) (j : Nat) : nthB (setB H k b) j = if j = k then some b else nthB H j := by
  rw [nthB_get] at h
  rw [nthB_get, nthB_get, setB_set, List.getElem?_set]
  have hk := (List.getElem?_eq_some_iff.1 h).1
  by_cases e : j = k
  · subst e; simp [hk]
  · rw [if_neg (fun e' => e e'.symm), if_neg e]
theorem nthB_push (H : VH) (b : VB) (j : Nat) : nthB (pushB H b) j = if j = H.length then some b else nthB H j := by
  rw [nthB_get, nthB_get]
  unfold pushB
  by_cases e : j = H.length
  · subst e; simp
  · rw [if_neg e]
    by_cases hl : j < H.length
    · rw [List.getElem?_append_left hl]
    · rw [List.getElem?_eq_none (by simp; omega), List.getElem?_eq_none (by omega)]
theorem nthB_lt {H : VH} {k : Nat} {x : VB} (h : nthB H k = some x) : k < H.length := by
  rw [nthB_get] at h
  exact (List.getElem?_eq_some_iff.1 h).1

/-! ### What a block holds -/
structure Blk (c : Ctx) (k : Nat) (l : List AV) : Prop where
  lo : c.E.m0 ≤ c.ρ k
  get : c.M.get (c.ρ k - c.E.m0) = some (.cells l)
  vis : visM c.lay (c.ck k) (c.ρ k)
theorem Blk.cells {c : Ctx} {k : Nat} {l : List AV} (h : Blk c k l) : cellsOf c.E c.M (c.ρ k) = some l := by rw [cellsOf_own h.lo, h.get]; rfl
theorem Blk.lt {c : Ctx} {k : Nat} {l : List AV} (h : Blk c k l) : c.ρ k < c.E.m0 + c.M.n := cells_lt h.cells
def RowC (c : Ctx) (m k s : Nat) (rows : List DV) : Prop := ∃ rcs, RRows c m rows rcs ∧ (∀ l ∈ rcs, l.length = s) ∧ (rows ≠ [] → Blk c k rcs.flatten)
def HRk (c : Ctx) (hm k : Nat) : VB → Prop
  | .box cs => ∃ l, RL c (c.ck k ||| hm) false cs l ∧ Blk c k l
  | .fbx cs => ∃ l, RL c (c.ck k ||| hm) false cs l ∧ Blk c k l ∧ Sta c (c.ck k) false (c.ρ k)
  | .row _ s rows => RowC c (c.ck k ||| hm) k s rows
  | .frz s rows => RowC c (c.ck k ||| hm) k s rows ∧ (rows ≠ [] → Sta c (c.ck k) false (c.ρ k))
  | .dead => True
structure Hp (c : Ctx) (hm : Nat) : Prop where
  inj : ∀ k k', Mutk c.H k → Mutk c.H k' → k ≠ k' → c.ρ k ≠ c.ρ k'
  hr : ∀ k B, nthB c.H k = some B → HRk c hm k B
  ta : ∀ b, c.Ta b → b < c.E.m0
  bm : ∀ i, c.B i → i < c.E.m0
  cell : ∀ b cs, cellsOf c.E c.M b = some cs → cs.all AV.isCell = true
  ro : ∀ b cs, b < c.E.m0 → c.E.ro b = some cs → c.B b ∧ ∀ i ∈ AV.idsL cs, c.B i
  ids : ∀ b cs, c.E.m0 ≤ b → cellsOf c.E c.M b = some cs → ∀ i ∈ AV.idsL cs, Okid c i
def NonE : VB → Prop
  | .row _ _ rows => rows ≠ []
  | .frz _ rows => rows ≠ []
  | .dead => False
  | _ => True
theorem RowC.mono {c c' : Ctx} {m m' k s : Nat} {rows : List DV} (h : RowC c m k s rows) (hx : ExtF c c' m m') (hb : rows ≠ [] → ∀ l, Blk c k l → Blk c' k l) : RowC c' m' k s rows := by
  obtain ⟨rcs, h1, h2, h3⟩ := h
  exact ⟨rcs, RRows.monoF hx rows rcs h1, h2, fun e => hb e _ (h3 e)⟩
theorem Ext.toF {c c' : Ctx} {m m' : Nat} (h : Ext c c' m m') : ExtF c c' m m' := ⟨h.sta⟩
theorem orSub {a b d : Nat} (h : Sub b d) : Sub (a ||| b) (a ||| d) := Sub.or (Sub.orl a d) (Sub.trans h (Sub.orr a d))
theorem Ext.up {c c' : Ctx} (hx : ∀ m, Ext c c' m m) {m m' : Nat} (hso : Sub m m') : Ext c c' m m' :=
  ⟨fun tg b cs h1 h2 => by
      obtain ⟨h3, h4⟩ := (hx _).sta tg b cs h1 h2
      exact ⟨h3.mono hso, h4⟩, fun k a h1 => ((hx _).own k a h1).mono hso, (hx 0).box, (hx 0).elp, fun k h1 h2 => Sub.trans ((hx _).ck k h1 h2) hso⟩
theorem Blk.keep {c c' : Ctx} {k : Nat} {l : List AV} (e : Blk c k l) (hE : c'.E = c.E) (hρ : c'.ρ k = c.ρ k) (hck : c'.ck k = c.ck k) (hM : c'.M.get (c.ρ k - c.E.m0) = some (.cells l)) (hl : c'.lay (c.ρ k) = c.lay (c.ρ k)) : Blk c' k l :=
  ⟨by rw [hE, hρ]; exact e.lo, by rw [hE, hρ]; exact hM, by
    rw [hρ, hck]
    intro j hj
    rw [hl] at hj
    exact e.vis j hj⟩
/-- A block that is as it was. -/
theorem HRk.keep {c c' : Ctx} {hm hm' k : Nat} {B : VB} (h : HRk c hm k B) (hx : ∀ m, Ext c c' m m) (hs : Sub hm hm') (hρ : c'.ρ k = c.ρ k) (hck : c'.ck k = c.ck k) (hb : NonE B → ∀ l, Blk c k l → Blk c' k l) : HRk c' hm' k B := by
  have hso : Sub (c.ck k ||| hm) (c'.ck k ||| hm') := by rw [hck]; exact orSub hs
  have hX : Ext c c' (c.ck k ||| hm) (c'.ck k ||| hm') := Ext.up hx hso
  cases B with
  | box cs => obtain ⟨l, h1, h2⟩ := h; exact ⟨l, RL.mono hX cs false l h1, hb trivial l h2⟩
  | fbx cs =>
    obtain ⟨l, h1, h2, h3⟩ := h
    refine ⟨l, RL.mono hX cs false l h1, hb trivial l h2, ?_⟩
    rw [hρ, hck]
    exact ((hx _).sta _ _ _ h3 h2.cells).1
  | row nn s rows => exact RowC.mono h hX.toF hb
  | frz s rows =>
    refine ⟨RowC.mono h.1 hX.toF hb, fun e => ?_⟩
    obtain ⟨rcs, _, _, h3⟩ := h.1
    rw [hρ, hck]
    exact ((hx _).sta _ _ _ (h.2 e) (h3 e).cells).1
  | dead => trivial
theorem Hp.mask {c : Ctx} {hm hm' : Nat} (h : Hp c hm) (hs : Sub hm hm') : Hp c hm' :=
  ⟨h.inj, fun k B e => (h.hr k B e).keep (fun m => Ext.sub (Sub.refl m)) hs rfl rfl (fun _ _ e => e), h.ta, h.bm, h.cell, h.ro, h.ids⟩
theorem Mutk.blk {c : Ctx} {hm k : Nat} (h : Hp c hm) (hm' : Mutk c.H k) : ∃ l, Blk c k l := by
  unfold Mutk at hm'
  split at hm'
  · rename_i cs e
    obtain ⟨l, _, h2⟩ := h.hr k _ e
    exact ⟨l, h2⟩
  · rename_i nn s rows e
    obtain ⟨rcs, _, _, h3⟩ := h.hr k _ e
    exact ⟨_, h3 hm'⟩
  · exact hm'.elim
theorem Mut.ge {c : Ctx} {hm b : Nat} (h : Hp c hm) (hb : Mut c b) : c.E.m0 ≤ b ∧ b < c.E.m0 + c.M.n := by
  obtain ⟨k, h1, rfl⟩ := hb
  obtain ⟨l, h2⟩ := h1.blk h
  exact ⟨h2.lo, h2.lt⟩
theorem Mutk.some {H : VH} {k : Nat} (h : Mutk H k) : ∃ B, nthB H k = some B := by
  unfold Mutk at h
  split at h <;> first | exact ⟨_, by assumption⟩ | cases h

/-! ### A new block -/
def updN {α : Type} (f : Nat → α) (k : Nat) (x : α) : Nat → α := fun j => if j = k then x else f j
theorem updN_same {α : Type} (f : Nat → α) (k : Nat) (x : α) : updN f k x k = x := by simp [updN]
theorem updN_other {α : Type} (f : Nat → α) {k j : Nat} (x : α) (h : j ≠ k) : updN f k x j = f j := by simp [updN, h]
def Ctx.push (c : Ctx) (l : List AV) (B : VB) (li : Option Nat) (u : Nat) : Ctx :=
  { c with M := c.M.push (.cells l), ρ := updN c.ρ c.H.length c.nb, H := pushB c.H B, lay := updN c.lay c.nb li, ck := updN c.ck c.H.length u }
theorem push_cells (c : Ctx) (l : List AV) (B : VB) (li : Option Nat) (u : Nat) (b : Nat) : cellsOf (c.push l B li u).E (c.push l B li u).M b = if b = c.nb then some l else cellsOf c.E c.M b := by
  show cellsOf c.E (c.M.push (.cells l)) b = _
  unfold Ctx.nb
  by_cases hb : b < c.E.m0
  · rw [cellsOf_ro hb, cellsOf_ro hb, if_neg (by omega)]
  · rw [cellsOf_own (by omega), cellsOf_own (by omega), Mem.get_push]
    by_cases e : b = c.E.m0 + c.M.n
    · rw [if_pos e, if_pos (by omega)]; rfl
    · rw [if_neg e, if_neg (by omega)]
theorem push_mut {c : Ctx} {hm : Nat} (h : Hp c hm) {l : List AV} {B : VB} {li : Option Nat} {u b : Nat} (hb : Mut (c.push l B li u) b) : Mut c b ∨ b = c.nb := by
  obtain ⟨k, h1, h2⟩ := hb
  by_cases e : k = c.H.length
  · subst e
    right
    rw [← h2]; exact updN_same _ _ _
  · left
    refine ⟨k, ?_, ?_⟩
    · unfold Mutk at h1 ⊢
      have : nthB (c.push l B li u).H k = nthB c.H k := by
        show nthB (pushB c.H B) k = _
        rw [nthB_push, if_neg e]
      rw [this] at h1; exact h1
    · rw [← h2]; exact (updN_other _ _ e).symm
theorem push_ext {c : Ctx} {hm : Nat} (h : Hp c hm) (l : List AV) (B : VB) (li : Option Nat) (u m : Nat) : Ext c (c.push l B li u) m m := by
  have hsta : ∀ tg b cs, Sta c m tg b → cellsOf c.E c.M b = some cs → Sta (c.push l B li u) m tg b ∧ cellsOf (c.push l B li u).E (c.push l B li u).M b = some cs := by
    intro tg b cs h1 h2
    have hlt := cells_lt h2
    have hne : b ≠ c.nb := by unfold Ctx.nb; omega
    refine ⟨⟨fun e => ?_, h1.2.1, fun j hj => ?_⟩, ?_⟩
    · rcases push_mut h e with e | e
      · exact h1.1 e
      · exact hne e
    · have : (c.push l B li u).lay b = c.lay b := updN_other _ _ hne
      rw [this] at hj
      exact h1.2.2 j hj
    · rw [push_cells, if_neg hne]; exact h2
  have hH : ∀ k x, nthB c.H k = some x → nthB (c.push l B li u).H k = some x ∧ (c.push l B li u).ρ k = c.ρ k ∧ (c.push l B li u).ck k = c.ck k := by
    intro k x hx
    have hlt := nthB_lt hx
    refine ⟨?_, updN_other _ _ (by omega), updN_other _ _ (by omega)⟩
    show nthB (pushB c.H B) k = _
    rw [nthB_push, if_neg (by omega)]; exact hx
  have hrd : ∀ tg b o n l', Sta c m tg b → rd c.E c.M b o n = some l' → Sta (c.push l B li u) m tg b ∧ rd (c.push l B li u).E (c.push l B li u).M b o n = some l' := fun tg b o n l' h1 h2 => (ExtF.mk hsta).rd h1 h2
  refine ⟨hsta, fun k a ho => ?_, fun k o a hp => ?_, fun k i o a he => ?_, fun k hk hx => ?_⟩
  · obtain ⟨x, hx⟩ := ho.some
    obtain ⟨h1, h2, h3⟩ := hH k x hx
    unfold OwnR at ho ⊢
    rw [hx] at ho; rw [h1]
    have hv : ∀ nn s rows, OwnV c m nn s k rows a → OwnV (c.push l B li u) m nn s k rows a := by
      intro nn s rows hv
      rcases hv with ⟨k1, e | ⟨k2, e | ⟨b, o, k3, k4, k5⟩⟩⟩ | ⟨k1, q, k2, k3⟩
      · exact .inl ⟨k1, .inl e⟩
      · exact .inl ⟨k1, .inr ⟨k2, .inl e⟩⟩
      · obtain ⟨k6, k7⟩ := hrd _ _ _ _ _ k4 k5
        exact .inl ⟨k1, .inr ⟨k2, .inr ⟨b, o, k3, k6, k7⟩⟩⟩
      · exact .inr ⟨k1, q, k2, by rw [h2]; exact k3⟩
    cases x <;> first | exact hv _ _ _ ho | exact ho
  · obtain ⟨x, hx⟩ := hp.some
    obtain ⟨h1, h2, h3⟩ := hH k x hx
    obtain ⟨⟨cs, k1⟩, k2⟩ := hp
    exact ⟨⟨cs, by rw [h1]; rw [hx] at k1; exact k1⟩, by rw [h2]; exact k2⟩
  · obtain ⟨x, hx⟩ := he.some
    obtain ⟨h1, h2, h3⟩ := hH k x hx
    unfold ElpR at he ⊢
    rw [hx] at he; rw [h1]
    cases x <;> first | (simp only [] at he ⊢; rw [h2]; exact he) | exact he
  · obtain ⟨x, hx⟩ := hx
    rw [(hH k x hx).2.2]; exact hk
theorem push_get (c : Ctx) (l : List AV) (B : VB) (li : Option Nat) (u i : Nat) (x : AObj) (h : c.M.get i = some x) : (c.push l B li u).M.get i = some x := by
  show (c.M.push (.cells l)).get i = _
  rw [Mem.get_push, if_neg (by have := Mem.get_lt h; omega)]; exact h
theorem push_blk {c : Ctx} {l : List AV} {B : VB} {li : Option Nat} {u : Nat} (hu : ∀ j, li = some j → u.testBit j = true) : Blk (c.push l B li u) c.H.length l := by
  have e1 : (c.push l B li u).ρ c.H.length = c.nb := updN_same _ _ _
  have e2 : (c.push l B li u).ck c.H.length = u := updN_same _ _ _
  refine ⟨?_, ?_, ?_⟩
  · rw [e1]; show c.E.m0 ≤ c.nb; unfold Ctx.nb; omega
  · rw [e1]
    show (c.M.push (.cells l)).get (c.nb - c.E.m0) = _
    rw [Mem.get_push, if_pos (by unfold Ctx.nb; omega)]
  · rw [e1, e2]
    intro j hj
    have : (c.push l B li u).lay c.nb = li := updN_same _ _ _
    rw [this] at hj
    exact hu j hj
theorem push_hp {c : Ctx} {hm : Nat} (h : Hp c hm) {l : List AV} {B : VB} {li : Option Nat} {u : Nat} (hl : l.all AV.isCell = true) (hid : ∀ i ∈ AV.idsL l, Okid c i) (hB : HRk (c.push l B li u) hm c.H.length B) : Hp (c.push l B li u) hm := by
  refine ⟨fun k k' h1 h2 hne => ?_, fun k x hx => ?_, h.ta, h.bm, fun b cs hb => ?_, h.ro, fun b cs h0 hb i hi => ?_⟩
  rotate_right
  · have hup : ∀ i, Okid c i → Okid (c.push l B li u) i := fun i hi => hi.imp id (fun e => ⟨e.1, by
      have : (c.push l B li u).nb = c.nb + 1 := by show c.E.m0 + (c.M.n + 1) = _; unfold Ctx.nb; omega
      omega⟩)
    rw [push_cells] at hb
    by_cases e : b = c.nb
    · rw [if_pos e] at hb; cases hb; exact hup i (hid i hi)
    · rw [if_neg e] at hb; exact hup i (h.ids b cs h0 hb i hi)
  rotate_right
  · rw [push_cells] at hb
    by_cases e : b = c.nb
    · rw [if_pos e] at hb; cases hb; exact hl
    · rw [if_neg e] at hb; exact h.cell b cs hb
  · have hold : ∀ j, j ≠ c.H.length → Mutk (c.push l B li u).H j → Mutk c.H j := by
      intro j hj hm
      unfold Mutk at hm ⊢
      have : nthB (c.push l B li u).H j = nthB c.H j := by
        show nthB (pushB c.H B) j = _
        rw [nthB_push, if_neg hj]
      rw [this] at hm; exact hm
    have hlt : ∀ j, j ≠ c.H.length → Mutk (c.push l B li u).H j → (c.push l B li u).ρ j ≠ c.nb := by
      intro j hj hm
      have := (Mut.ge h ⟨j, hold j hj hm, rfl⟩).2
      rw [show (c.push l B li u).ρ j = c.ρ j from updN_other _ _ hj]
      unfold Ctx.nb; omega
    by_cases e : k = c.H.length
    · subst e
      rw [show (c.push l B li u).ρ c.H.length = c.nb from updN_same _ _ _]
      exact fun e2 => hlt k' (Ne.symm hne) h2 e2.symm
    · by_cases e' : k' = c.H.length
      · subst e'
        rw [show (c.push l B li u).ρ c.H.length = c.nb from updN_same _ _ _]
        exact hlt k e h1
      · rw [show (c.push l B li u).ρ k = c.ρ k from updN_other _ _ e, show (c.push l B li u).ρ k' = c.ρ k' from updN_other _ _ e']
        exact h.inj k k' (hold k e h1) (hold k' e' h2) hne
  · by_cases e : k = c.H.length
    · subst e
      have : nthB (c.push l B li u).H c.H.length = some B := by
        show nthB (pushB c.H B) _ = _
        rw [nthB_push, if_pos rfl]
      rw [this] at hx; cases hx; exact hB
    · have : nthB (c.push l B li u).H k = nthB c.H k := by
        show nthB (pushB c.H B) _ = _
        rw [nthB_push, if_neg e]
      rw [this] at hx
      refine (h.hr k x hx).keep (fun m => push_ext h l B li u m) (Sub.refl hm) (updN_other _ _ e) (updN_other _ _ e) (fun _ l' hl => ?_)
      have hlt := hl.lt
      exact hl.keep rfl (updN_other _ _ e) (updN_other _ _ e) (push_get _ _ _ _ _ _ _ hl.get) (updN_other _ _ (by unfold Ctx.nb; omega))

/-! ### A block that is written, frozen, done with -/
def Kin : VB → VB → Prop
  | .row nn s rows, .row nn' s' rows' => nn = nn' ∧ s = s' ∧ rows'.length = rows.length
  | .row _ s rows, .frz s' rows' => s = s' ∧ rows' = rows
  | .row .., .dead => True
  | .frz s rows, .frz s' rows' => s = s' ∧ rows' = rows
  | .box _, .box _ => True
  | .box _, .fbx _ => True
  | .fbx _, .fbx _ => True
  | .dead, .dead => True
  | _, _ => False
def Ctx.upd (c : Ctx) (k : Nat) (B : VB) (M : Mem) : Ctx := { c with M := M, H := setB c.H k B }
/-- How the memory may differ: at the block itself alone, and there only if it may change. -/
def MemK (c : Ctx) (k : Nat) (M : Mem) : Prop := M = c.M ∨ (Mutk c.H k ∧ ∃ o, M = c.M.put (c.ρ k - c.E.m0) o ∧ ∀ cs, o = .cells cs → cs.all AV.isCell = true ∧ ∀ i ∈ AV.idsL cs, Okid c i)
theorem nil_len {α : Type} {l r : List α} (h : r.length = l.length) : l = [] ↔ r = [] := by
  cases l <;> cases r <;> simp at h ⊢
theorem Kin.mutk {H : VH} {k : Nat} {B B' : VB} (hB : nthB H k = some B) (hk : Kin B B') {j : Nat} (h : Mutk (setB H k B') j) : Mutk H j := by
  unfold Mutk at h ⊢
  rw [nthB_set hB] at h
  by_cases e : j = k
  · subst e
    rw [if_pos rfl] at h
    rw [hB]
    cases B <;> cases B' <;> simp only [Kin] at hk <;> simp only [] at h ⊢
    obtain ⟨_, _, h3⟩ := hk
    exact fun e => h ((nil_len h3).1 e)
  · rw [if_neg e] at h; exact h
theorem upd_get {c : Ctx} {hm k : Nat} (hp : Hp c hm) {M : Mem} (hM : MemK c k M) {i : Nat} (hi : Mutk c.H k → i ≠ c.ρ k - c.E.m0) : M.get i = c.M.get i := by
  rcases hM with rfl | ⟨h1, o, rfl, _⟩
  · rfl
  · obtain ⟨l, hl⟩ := h1.blk hp
    rw [Mem.get_put _ _ _ _ (Mem.get_lt hl.get), if_neg (hi h1)]
theorem upd_n {c : Ctx} {k : Nat} {M : Mem} (hM : MemK c k M) : M.n = c.M.n := by
  rcases hM with rfl | ⟨h1, o, rfl, _⟩ <;> rfl
theorem upd_ext {c : Ctx} {hm : Nat} (hp : Hp c hm) {k : Nat} {B B' : VB} {M : Mem} (hB : nthB c.H k = some B) (hk : Kin B B') (hM : MemK c k M) (m : Nat) : Ext c (c.upd k B' M) m m := by
  have hmut : ∀ b, Mut (c.upd k B' M) b → Mut c b := fun b ⟨j, h1, h2⟩ => ⟨j, Kin.mutk hB hk h1, h2⟩
  have hsta : ∀ tg b cs, Sta c m tg b → cellsOf c.E c.M b = some cs → Sta (c.upd k B' M) m tg b ∧ cellsOf (c.upd k B' M).E (c.upd k B' M).M b = some cs := by
    intro tg b cs h1 h2
    refine ⟨⟨fun e => h1.1 (hmut b e), h1.2.1, h1.2.2⟩, ?_⟩
    show cellsOf c.E M b = _
    by_cases hb : b < c.E.m0
    · rw [cellsOf_ro hb] at h2 ⊢; exact h2
    · rw [cellsOf_own (by omega)] at h2 ⊢
      rw [upd_get hp hM (fun e e2 => ?_)]
      · exact h2
      · refine h1.1 ⟨k, e, ?_⟩
        have := (Mut.ge hp ⟨k, e, rfl⟩).1
        omega
  have hrd : ∀ tg b o n l', Sta c m tg b → rd c.E c.M b o n = some l' → Sta (c.upd k B' M) m tg b ∧ rd (c.upd k B' M).E (c.upd k B' M).M b o n = some l' := fun tg b o n l' h1 h2 => (ExtF.mk hsta).rd h1 h2
  have hH : ∀ j x, nthB c.H j = some x → ∃ x', nthB (c.upd k B' M).H j = some x' ∧ (x' = x ∨ Kin x x') := by
    intro j x hx
    show ∃ x', nthB (setB c.H k B') j = some x' ∧ _
    rw [nthB_set hB]
    by_cases e : j = k
    · subst e; rw [hB] at hx; cases hx; exact ⟨B', by simp, .inr hk⟩
    · exact ⟨x, by rw [if_neg e]; exact hx, .inl rfl⟩
  refine ⟨hsta, fun j a ho => ?_, fun j o a hp => ?_, fun j i o a he => ?_, fun j hj _ => hj⟩
  · obtain ⟨x, hx⟩ := ho.some
    obtain ⟨x', h1, h2⟩ := hH j x hx
    have hsl := ho.sl
    unfold OwnR at ho ⊢
    rw [hx] at ho; rw [h1]
    have hv : ∀ nn nn' s rows rows', (nn' = nn ∨ nn' = false) → rows'.length = rows.length → OwnV c m nn s j rows a → OwnV (c.upd k B' M) m nn' s j rows' a := by
      intro nn nn' s rows rows' hnn hlen hv
      rcases hv with ⟨k1, e | ⟨k2, e | ⟨b, o, k3, k4, k5⟩⟩⟩ | ⟨k1, q, k2, k3⟩
      · exact .inl ⟨(nil_len hlen).1 k1, .inl e⟩
      · exact .inl ⟨(nil_len hlen).1 k1, .inr ⟨by rcases hnn with e | e <;> simp_all, .inl e⟩⟩
      · obtain ⟨k6, k7⟩ := hrd _ _ _ _ _ k4 k5
        refine .inl ⟨(nil_len hlen).1 k1, .inr ⟨?_, .inr ⟨b, o, k3, k6, k7⟩⟩⟩
        rcases hnn with e | e
        · rw [e]; exact k2
        · exact e
      · exact .inr ⟨fun e => k1 ((nil_len hlen).2 e), q, k2, by rw [hlen]; exact k3⟩
    rcases h2 with rfl | h2
    · cases x' <;> first | exact hv _ _ _ _ _ (.inl rfl) rfl ho | exact ho
    · cases x <;> cases x' <;> simp only [Kin] at h2 <;> first | exact hsl | exact ho | skip
      · obtain ⟨rfl, rfl, h5⟩ := h2; exact hv _ _ _ _ _ (.inl rfl) h5 ho
      · obtain ⟨rfl, rfl⟩ := h2; exact hv _ _ _ _ _ (.inr rfl) rfl ho
      · obtain ⟨rfl, rfl⟩ := h2; exact hv _ _ _ _ _ (.inr rfl) rfl ho
  · obtain ⟨x, hx⟩ := hp.some
    obtain ⟨x', h1, h2⟩ := hH j x hx
    obtain ⟨⟨cs, k1⟩, k2⟩ := hp
    refine ⟨?_, k2⟩
    rw [h1]
    rw [hx] at k1
    rcases h2 with rfl | h2
    · exact ⟨cs, k1⟩
    · cases x <;> simp only [boxO] at k1 <;> first | cases k1; done | skip
      all_goals (cases x' <;> simp only [Kin] at h2 <;> exact ⟨_, rfl⟩)
  · obtain ⟨x, hx⟩ := he.some
    obtain ⟨x', h1, h2⟩ := hH j x hx
    have hpt := he.pt
    unfold ElpR at he ⊢
    rw [hx] at he; rw [h1]
    rcases h2 with rfl | h2
    · exact he
    · cases x <;> cases x' <;> simp only [Kin] at h2 <;> first | exact hpt | exact he | skip
      · obtain ⟨rfl, rfl, h5⟩ := h2
        refine ⟨he.1, ?_⟩
        have h6 := he.2
        unfold inR at h6 ⊢
        rw [h5]; exact h6
      · obtain ⟨rfl, rfl⟩ := h2; exact he
      · obtain ⟨rfl, rfl⟩ := h2; exact he
theorem upd_hp {c : Ctx} {hm hm' : Nat} (hp : Hp c hm) (hs : Sub hm hm') {k : Nat} {B B' : VB} {M : Mem} (hB : nthB c.H k = some B) (hk : Kin B B') (hM : MemK c k M) (hN : HRk (c.upd k B' M) hm' k B') : Hp (c.upd k B' M) hm' := by
  refine ⟨fun j j' h1 h2 hne => hp.inj j j' (Kin.mutk hB hk h1) (Kin.mutk hB hk h2) hne, fun j x hx => ?_, hp.ta, hp.bm, fun b cs hb => ?_, hp.ro, fun b cs h0 hb i hi => ?_⟩
  rotate_right
  · have hb' : cellsOf c.E M b = some cs := hb
    have hup : ∀ i, Okid c i → Okid (c.upd k B' M) i := fun i hi => by
      have : (c.upd k B' M).nb = c.nb := by show c.E.m0 + M.n = _; rw [upd_n hM]; rfl
      unfold Okid at hi ⊢
      rw [this]; exact hi
    rcases hM with rfl | ⟨h1, o, rfl, ho⟩
    · exact hup i (hp.ids b cs h0 hb' i hi)
    · have h0' : c.E.m0 ≤ b := h0
      rw [cellsOf_own h0'] at hb'
      obtain ⟨l, hl⟩ := h1.blk hp
      rw [Mem.get_put _ _ _ _ (Mem.get_lt hl.get)] at hb'
      by_cases e : b - c.E.m0 = c.ρ k - c.E.m0
      · rw [if_pos e] at hb'
        have := objCells_some' hb'
        simp only [Option.some.injEq] at this
        exact hup i ((ho cs this).2 i hi)
      · rw [if_neg e] at hb'
        exact hup i (hp.ids b cs h0' (by rw [cellsOf_own h0']; exact hb') i hi)
  rotate_right
  · have hb' : cellsOf c.E M b = some cs := hb
    rcases hM with rfl | ⟨h1, o, rfl, ho⟩
    · exact hp.cell b cs hb'
    · by_cases h0 : b < c.E.m0
      · rw [cellsOf_ro h0] at hb'
        exact hp.cell b cs (by rw [cellsOf_ro h0]; exact hb')
      · rw [cellsOf_own (by omega)] at hb'
        obtain ⟨l, hl⟩ := h1.blk hp
        rw [Mem.get_put _ _ _ _ (Mem.get_lt hl.get)] at hb'
        by_cases e : b - c.E.m0 = c.ρ k - c.E.m0
        · rw [if_pos e] at hb'
          have := objCells_some' hb'
          simp only [Option.some.injEq] at this
          exact (ho cs this).1
        · rw [if_neg e] at hb'
          exact hp.cell b cs (by rw [cellsOf_own (by omega)]; exact hb')
  have hx' : nthB (setB c.H k B') j = some x := hx
  rw [nthB_set hB] at hx'
  by_cases e : j = k
  · subst e; rw [if_pos rfl] at hx'; cases hx'; exact hN
  · rw [if_neg e] at hx'
    have hrj := hp.hr j x hx'
    refine hrj.keep (fun m => upd_ext hp hB hk hM m) hs rfl rfl (fun hne l hl => ?_)
    refine hl.keep rfl rfl rfl ?_ rfl
    show M.get _ = _
    rw [upd_get hp hM (fun hmk e2 => ?_)]
    · exact hl.get
    · have hge := (Mut.ge hp ⟨k, hmk, rfl⟩).1
      have heq : c.ρ j = c.ρ k := by have := hl.lo; omega
      have hmj : ¬ Mut c (c.ρ j) → False := fun h => h ⟨k, hmk, heq.symm⟩
      cases x with
      | box cs => exact hp.inj j k (by unfold Mutk; rw [hx']; trivial) hmk e heq
      | row nn s rows => exact hp.inj j k (by unfold Mutk; rw [hx']; exact hne) hmk e heq
      | fbx cs => obtain ⟨_, _, _, h3⟩ := hrj; exact hmj h3.1
      | frz s rows => exact hmj (hrj.2 hne).1
      | dead => exact hne

/-! ### The blocks that values name -/
theorem idsL_append (l r : List AV) : AV.idsL (l ++ r) = AV.idsL l ++ AV.idsL r := by
  induction l with
  | nil => rfl
  | cons a l ih => simp only [List.cons_append, AV.idsL, ih, List.append_assoc]
theorem idsL_mem {l : List AV} {i : Nat} : i ∈ AV.idsL l ↔ ∃ a ∈ l, i ∈ a.ids := by
  induction l with
  | nil => simp [AV.idsL]
  | cons a l ih => simp only [AV.idsL, List.mem_append, ih, List.mem_cons]; constructor
                   · rintro (h | ⟨b, h1, h2⟩)
                     · exact ⟨a, .inl rfl, h⟩
                     · exact ⟨b, .inr h1, h2⟩
                   · rintro ⟨b, rfl | h1, h2⟩
                     · exact .inl h2
                     · exact .inr ⟨b, h1, h2⟩
theorem idsL_take {l : List AV} {n i : Nat} (h : i ∈ AV.idsL (l.take n)) : i ∈ AV.idsL l := by
  rw [idsL_mem] at h ⊢
  obtain ⟨a, h1, h2⟩ := h
  exact ⟨a, List.mem_of_mem_take h1, h2⟩
theorem idsL_drop {l : List AV} {n i : Nat} (h : i ∈ AV.idsL (l.drop n)) : i ∈ AV.idsL l := by
  rw [idsL_mem] at h ⊢
  obtain ⟨a, h1, h2⟩ := h
  exact ⟨a, List.mem_of_mem_drop h1, h2⟩
theorem Okid.of {c : Ctx} {hm b : Nat} {cs : List AV} (hp : Hp c hm) (h : cellsOf c.E c.M b = some cs) : Okid c b := by
  by_cases hb : b < c.E.m0
  · rw [cellsOf_ro hb] at h; exact .inl (hp.ro b cs hb h).1
  · exact .inr ⟨by omega, cells_lt h⟩
theorem SlR.ids {c : Ctx} {hm m : Nat} (hp : Hp c hm) {tg ex : Bool} {s n : Nat} {rc : List AV} {a : AV} (h : SlR c m tg ex s n rc a) : ∀ i ∈ a.ids, Okid c i := by
  rcases h with ⟨_, e | ⟨_, e, _⟩⟩ | ⟨b, o, cap, q, e, _, _, _, h5⟩
  · subst e; simp [AV.ids]
  · subst e; simp [AV.ids]
  · subst e
    obtain ⟨cs, h1, _⟩ := rd_cells h5
    intro i hi
    simp only [AV.ids, List.mem_singleton] at hi
    subst hi
    exact Okid.of hp h1
theorem noDead_mem {H : VH} {l : List Nat} (h : noDead H l = true) {k : Nat} (hk : k ∈ l) : nthB H k ≠ Option.some VB.dead := by
  induction l with
  | nil => simp at hk
  | cons j l ih =>
    simp only [noDead, Bool.and_eq_true, Bool.not_eq_true'] at h
    rcases List.mem_cons.1 hk with rfl | hk
    · intro e; rw [e] at h; simp [isDeadB] at h
    · exact ih h.2 hk
theorem noDead_sub {H : VH} {l r : List Nat} (h : noDead H l = true) (hs : ∀ k ∈ r, k ∈ l) : noDead H r = true := by
  induction r with
  | nil => rfl
  | cons k r ih =>
    simp only [noDead, Bool.and_eq_true, Bool.not_eq_true']
    refine ⟨?_, ih (fun j hj => hs j (by simp [hj]))⟩
    have := noDead_mem h (hs k (by simp))
    unfold isDeadB
    split
    · rename_i e; exact absurd e this
    · rfl
theorem OwnR.ids {c : Ctx} {hm m k : Nat} {a : AV} (hp : Hp c hm) (hd : nthB c.H k ≠ Option.some VB.dead) (h : OwnR c m k a) : ∀ i ∈ a.ids, Okid c i := by
  have key : ∀ nn s rows, (rows ≠ [] → ∃ l, Blk c k l) → OwnV c m nn s k rows a → ∀ i ∈ a.ids, Okid c i := by
    intro nn s rows hb hv i hi
    rcases hv with ⟨_, e | ⟨_, e | ⟨b, o, e, _, h5⟩⟩⟩ | ⟨e1, q, _, e⟩
    · subst e; simp [AV.ids] at hi
    · subst e; simp [AV.ids] at hi
    · subst e
      obtain ⟨cs, h1, _⟩ := rd_cells h5
      simp only [AV.ids, List.mem_singleton] at hi
      subst hi
      exact Okid.of hp h1
    · subst e
      simp only [AV.ids, List.mem_singleton] at hi
      subst hi
      obtain ⟨l, hl⟩ := hb e1
      exact Okid.of hp hl.cells
  unfold OwnR at h
  split at h
  · rename_i e
    exact key _ _ _ (fun hne => by obtain ⟨rcs, _, _, h3⟩ := hp.hr k _ e; exact ⟨_, h3 hne⟩) h
  · rename_i e
    exact key _ _ _ (fun hne => by obtain ⟨⟨rcs, _, _, h3⟩, _⟩ := hp.hr k _ e; exact ⟨_, h3 hne⟩) h
  · rename_i e; exact absurd e hd
  · exact h.elim
theorem PtrR.ids {c : Ctx} {hm k o : Nat} {a : AV} (hp : Hp c hm) (h : PtrR c k o a) : ∀ i ∈ a.ids, Okid c i := by
  obtain ⟨⟨cs, hc⟩, e⟩ := h
  subst e
  intro i hi
  simp only [AV.ids, List.mem_singleton] at hi
  subst hi
  unfold boxO at hc
  split at hc
  · rename_i e; obtain ⟨l, _, h2⟩ := hp.hr k _ e; exact Okid.of hp h2.cells
  · rename_i e; obtain ⟨l, _, h2, _⟩ := hp.hr k _ e; exact Okid.of hp h2.cells
  · cases hc
theorem ElpR.ids {c : Ctx} {hm k o : Nat} {ix : Int} {a : AV} (hp : Hp c hm) (hd : nthB c.H k ≠ Option.some VB.dead) (h : ElpR c k ix o a) : ∀ i ∈ a.ids, Okid c i := by
  have key : ∀ (s : Nat) (rows : List DV), (rows ≠ [] → ∃ l, Blk c k l) → a = .ptr (c.ρ k) (ix.toNat * s + o) ∧ inR ix rows = true → ∀ i ∈ a.ids, Okid c i := by
    rintro s rows hb ⟨e, hr⟩ i hi
    subst e
    simp only [AV.ids, List.mem_singleton] at hi
    subst hi
    obtain ⟨l, hl⟩ := hb (by
      intro e; subst e
      unfold inR at hr
      simp only [Bool.and_eq_true, decide_eq_true_eq, List.length_nil] at hr
      omega)
    exact Okid.of hp hl.cells
  unfold ElpR at h
  split at h
  · rename_i e
    exact key _ _ (fun hne => by obtain ⟨rcs, _, _, h3⟩ := hp.hr k _ e; exact ⟨_, h3 hne⟩) h
  · rename_i e
    exact key _ _ (fun hne => by obtain ⟨⟨rcs, _, _, h3⟩, _⟩ := hp.hr k _ e; exact ⟨_, h3 hne⟩) h
  · rename_i e; exact absurd e hd
  · exact h.elim
mutual
theorem R.ids {c : Ctx} {hm m : Nat} (hp : Hp c hm) : ∀ (v : DV) (z : Bool) (a : AV), noDead c.H (owns v) = true → R c m z v a → ∀ i ∈ a.ids, Okid c i
  | .int _, _, _, _, e => by simp only [R] at e; subst e; simp [AV.ids]
  | .bool _, _, _, _, e => by simp only [R] at e; subst e; simp [AV.ids]
  | .nilp, _, _, _, e => by simp only [R] at e; subst e; simp [AV.ids]
  | .nils, _, _, _, e => by simp only [R] at e; subst e; simp [AV.ids]
  | .nilf, _, _, _, e => by simp only [R] at e; subst e; simp [AV.ids]
  | .undef, _, _, _, e => by simp only [R] at e; subst e; simp [AV.ids]
  | .list tg ex s rows, _, _, _, e => by
    simp only [R] at e
    obtain ⟨rcs, _, _, h3⟩ := e
    exact h3.ids hp
  | .agg cs, z, _, hd, e => by
    simp only [R] at e
    obtain ⟨l, rfl, h2⟩ := e
    simp only [AV.ids]
    exact RL.ids' hp cs z l (by simpa only [owns] using hd) h2
  | .tup cs, z, _, hd, e => by
    simp only [R] at e
    obtain ⟨l, rfl, h2⟩ := e
    simp only [AV.ids]
    exact RL.ids' hp cs z l (by simpa only [owns] using hd) h2
  | .func f fs caps, z, _, hd, e => by
    simp only [R] at e
    obtain ⟨x, y, rfl, h2, h3⟩ := e
    simp only [owns] at hd
    intro i hi
    simp only [AV.ids, List.mem_append] at hi
    rcases hi with hi | hi
    · exact RL.ids' hp fs z x (noDead_sub hd (fun k hk => by simp [hk])) h2 i hi
    · exact RL.ids' hp caps z y (noDead_sub hd (fun k hk => by simp [hk])) h3 i hi
  | .own k, z, _, hd, e => by
    simp only [R] at e
    exact e.2.2.ids hp (noDead_mem hd (k := k) (by simp [owns]))
  | .ptr k o, z, _, hd, e => by
    simp only [R] at e
    exact e.2.2.ids hp
  | .elp k i o, z, _, hd, e => by
    simp only [R] at e
    exact e.2.2.ids hp (noDead_mem hd (k := k) (by simp [owns]))
  | .fbp tg cs o, _, _, _, e => by
    simp only [R] at e
    obtain ⟨b, base, l, rfl, h2, h3, h4⟩ := e
    obtain ⟨cs, h1, _⟩ := rd_cells h3
    intro i hi
    simp only [AV.ids, List.mem_singleton] at hi
    subst hi
    exact Okid.of hp h1
theorem RL.ids' {c : Ctx} {hm m : Nat} (hp : Hp c hm) : ∀ (ds : List DV) (z : Bool) (l : List AV), noDead c.H (ownsL ds) = true → RL c m z ds l → ∀ i ∈ AV.idsL l, Okid c i
  | [], _, _, _, e => by simp only [RL] at e; subst e; simp [AV.idsL]
  | d :: ds, z, _, hd, e => by
    simp only [RL] at e
    obtain ⟨a, r, rfl, h2, h3⟩ := e
    simp only [ownsL] at hd
    intro i hi
    simp only [AV.idsL, List.mem_append] at hi
    rcases hi with hi | hi
    · exact R.ids hp d z a (noDead_sub hd (fun k hk => by simp [hk])) h2 i hi
    · exact RL.ids' hp ds z r (noDead_sub hd (fun k hk => by simp [hk])) h3 i hi
end
theorem RL.ids {c : Ctx} {hm m : Nat} (hp : Hp c hm) {ds : List DV} {z : Bool} {l : List AV} (hd : noDead c.H (ownsL ds) = true) (h : RL c m z ds l) : ∀ i ∈ AV.idsL l, Okid c i := RL.ids' hp ds z l hd h
/-- Frozen values name no dead block. -/
theorem frozen_ids : ∀ {c : Ctx} {hm m : Nat} (_ : Hp c hm) {ds : List DV} {l : List AV}, RL c m true ds l → ∀ i ∈ AV.idsL l, Okid c i := by
  intro c hm m hp ds l h
  let c' : Ctx := { c with H := [] }
  have hp' : Hp c' hm := ⟨fun k k' h1 => by unfold Mutk at h1; simp [nthB, c'] at h1, fun k B hB => by simp [nthB, c'] at hB, hp.ta, hp.bm, hp.cell, hp.ro, hp.ids⟩
  have hx : ExtF c c' m m := ⟨fun tg b cs h1 h2 => ⟨⟨fun ⟨k, k1, _⟩ => by unfold Mutk at k1; simp [nthB, c'] at k1, h1.2.1, h1.2.2⟩, h2⟩⟩
  have h' : RL c' m true ds l := RL.monoF hx ds true l h
  have hnd : noDead c'.H (ownsL ds) = true := by
    have : ∀ r : List Nat, noDead ([] : VH) r = true := by
      intro r
      induction r with
      | nil => rfl
      | cons k r ih => simp only [noDead, nthB, isDeadB, ih]; rfl
    exact this _
  intro i hi
  have := RL.ids' hp' ds true l hnd h' i hi
  exact this
theorem RL.idsF {c : Ctx} {hm m : Nat} (hp : Hp c hm) {ds : List DV} {l : List AV} (h : RL c m true ds l) : ∀ i ∈ AV.idsL l, Okid c i := frozen_ids hp h
theorem RRows.ids {c : Ctx} {hm m : Nat} (hp : Hp c hm) : ∀ {ds : List DV} {l : List (List AV)}, RRows c m ds l → ∀ i ∈ AV.idsL l.flatten, Okid c i
  | [], _, h => by simp only [RRows] at h; subst h; simp [AV.idsL]
  | d :: ds, _, h => by
    rw [RRows_cons] at h
    obtain ⟨l, r, rfl, h1, h2⟩ := h
    intro i hi
    rw [List.flatten_cons, idsL_append, List.mem_append] at hi
    rcases hi with hi | hi
    · exact frozen_ids hp (RRow.cells h1) i hi
    · exact RRows.ids hp h2 i hi
end Go.Vx
/- V, text 3: operations that read alone. -/
namespace Go.Vx
open Go.Sx

/-! ### Operands -/
mutual
theorem dvA_R {c : Ctx} {m : Nat} : ∀ (a : AV) (v : DV), dvA a = some v → R c m true v a
  | .int k n, v, e => by cases k <;> simp only [dvA, Option.some.injEq] at e <;> first | (subst e; simp [R]; done) | cases e
  | .bool b, v, e => by simp only [dvA, Option.some.injEq] at e; subst e; simp [R]
  | .nilp, v, e => by simp only [dvA, Option.some.injEq] at e; subst e; simp [R]
  | .nils, v, e => by simp only [dvA, Option.some.injEq] at e; subst e; simp [R]
  | .nilf, v, e => by simp only [dvA, Option.some.injEq] at e; subst e; simp [R]
  | .agg cs, v, e => by
    simp only [dvA] at e
    cases hc : dvAL cs with
    | none => rw [hc] at e; simp [aggO] at e
    | some vs =>
      rw [hc] at e
      simp only [aggO, Option.some.injEq] at e
      subst e
      simp only [R]
      exact ⟨cs, rfl, dvAL_R cs vs hc⟩
  | .str _, v, e => by simp [dvA] at e
  | .ptr _ _, v, e => by simp [dvA] at e
  | .slice .., v, e => by simp [dvA] at e
  | .emp _, v, e => by simp [dvA] at e
  | .func .., v, e => by simp [dvA] at e
  | .yld _, v, e => by simp [dvA] at e
  | .tup _, v, e => by simp [dvA] at e
  | .undef, v, e => by simp [dvA] at e
theorem dvAL_R {c : Ctx} {m : Nat} : ∀ (l : List AV) (vs : List DV), dvAL l = some vs → RL c m true vs l
  | [], vs, e => by simp only [dvAL, Option.some.injEq] at e; subst e; simp [RL]
  | a :: l, vs, e => by
    simp only [dvAL] at e
    cases h1 : dvA a with
    | none => rw [h1] at e; simp [consD] at e
    | some d => cases h2 : dvAL l with
      | none => rw [h1, h2] at e; simp [consD] at e
      | some ds =>
        rw [h1, h2] at e
        simp only [consD, Option.some.injEq] at e
        subst e
        simp only [RL]
        exact ⟨a, l, rfl, dvA_R a d h1, dvAL_R l ds h2⟩
end
/-- The slots. -/
def TRel (c : Ctx) (pv : Nat → Nat) (T : VT) (TS : Tbl AV) : Prop := ∀ t v, T.get t = some v → ∃ a, TS.get t = some a ∧ R c (pv t) false v a
/-- What is asked of an operation's operands. -/
def Opn (c : Ctx) (u : Nat) (T : VT) (TS : Tbl AV) (l : List Operand) : Prop := ∀ x ∈ l, ∀ d, opdV T x = some d → ∃ a, opd TS x = some a ∧ R c u false d a
theorem Opn.one {c : Ctx} {u : Nat} {T : VT} {TS : Tbl AV} {l : List Operand} (h : Opn c u T TS l) {x : Operand} {d : DV} (hx : x ∈ l) (e : opdV T x = some d) : ∃ a, opd TS x = some a ∧ R c u false d a := h x hx d e
theorem opdsV_ok {c : Ctx} {u : Nat} {T : VT} {TS : Tbl AV} {l : List Operand} (h : Opn c u T TS l) : ∀ {xs : List Operand} {ds : List DV}, (∀ x ∈ xs, x ∈ l) → opdsV T xs = some ds → ∃ as, opds TS xs = some as ∧ RL c u false ds as
  | [], ds, _, e => by simp only [opdsV, Option.some.injEq] at e; subst e; exact ⟨[], rfl, by simp [RL]⟩
  | x :: xs, ds, hm, e => by
    simp only [opdsV] at e
    cases h1 : opdV T x with
    | none => rw [h1] at e; simp [consD] at e
    | some d => cases h2 : opdsV T xs with
      | none => rw [h1, h2] at e; simp [consD] at e
      | some r =>
        rw [h1, h2] at e
        simp only [consD, Option.some.injEq] at e
        subst e
        obtain ⟨a, k1, k2⟩ := h x (hm x (by simp)) d h1
        obtain ⟨as, k3, k4⟩ := opdsV_ok h (fun y hy => hm y (by simp [hy])) h2
        refine ⟨a :: as, by simp only [opds, k1, k3, cons?], ?_⟩
        simp only [RL]
        exact ⟨a, as, rfl, k2, k4⟩
theorem opn_of {c : Ctx} {u : Nat} {T : VT} {TS : Tbl AV} {pv : Nat → Nat} (h : TRel c pv T TS) {l : List Operand} (hu : ∀ t, .tmp t ∈ l → Sub (pv t) u) : Opn c u T TS l := by
  intro x hx d e
  cases x with
  | tmp t =>
    obtain ⟨a, h1, h2⟩ := h t d e
    exact ⟨a, by simp only [opd, h1, orUndef], h2.sub (hu t hx)⟩
  | const v =>
    simp only [opdV] at e
    cases hv : AV.ofV v with
    | none => rw [hv] at e; simp [dvO] at e
    | some a => rw [hv] at e; exact ⟨a, by simp only [opd, hv], (dvA_R a d e).thaw⟩
  | func f =>
    simp only [opdV, Option.some.injEq] at e
    subst e
    exact ⟨.func f [] [], rfl, by simp [R, RL]⟩
  | global g => simp [opdV] at e
theorem hasOwn_of {T : VT} : ∀ {l : List Operand} {x : Operand} {d : DV}, x ∈ l → opdV T x = some d → owns d ≠ [] → hasOwn T l = true
  | y :: l, x, d, hx, e, ho => by
    simp only [hasOwn, Bool.or_eq_true]
    rcases List.mem_cons.1 hx with rfl | hx
    · left
      rw [e]
      show hasOwn.isNeN (owns d) = true
      cases h : owns d with
      | nil => exact absurd h ho
      | cons a r => rfl
    · exact .inr (hasOwn_of hx e ho)

/-! ### What an operation leaves -/
def lm : Option Nat → Nat
  | some i => 1 <<< i
  | none => 0
structure Post (c c' : Ctx) (K : Nat) (li : Option Nat) (rm hm' : Nat) (v : DV) (a : AV) (H' : VH) : Prop where
  E : c'.E = c.E
  Ta : c'.Ta = c.Ta
  Bq : c'.B = c.B
  H : c'.H = H'
  ext : ∀ m, Ext c c' m m
  hp : Hp c' hm'
  r : R c' rm false v a
  n1 : c.M.n ≤ c'.M.n
  n2 : c'.M.n ≤ c.M.n + K
  lay1 : ∀ b, b < c.nb ∨ c'.nb ≤ b → c'.lay b = c.lay b
  lay2 : ∀ b, c.nb ≤ b → b < c'.nb → c'.lay b = li
theorem Ext.refl (c : Ctx) (m : Nat) : Ext c c m m := Ext.sub (Sub.refl m)
theorem Post.same {c : Ctx} {hm : Nat} {li : Option Nat} {u : Nat} {v : DV} {a : AV} (hp : Hp c hm) (h : R c u false v a) : Post c c 1 li u hm v a c.H :=
  ⟨rfl, rfl, rfl, rfl, fun m => Ext.refl c m, hp, h, Nat.le_refl _, by omega, fun _ _ => rfl, fun b h1 h2 => by omega⟩

/-! ### Reading -/
theorem rd_sub {E : Env} {M : Mem} {b base o n : Nat} {l : List AV} (h : rd E M b base l.length = some l) (hn : o + n ≤ l.length) : rd E M b (base + o) n = some ((l.drop o).take n) := by
  obtain ⟨cs, h1, h2⟩ := rd_cells h
  unfold rd
  rw [h1]
  simp only [rdIn] at h2 ⊢
  cases hb : Nat.ble (base + l.length) cs.length with
  | false => rw [hb] at h2; cases h2
  | true =>
    rw [hb, cond_true, Option.some.injEq] at h2
    have hle := bleT hb
    have : Nat.ble (base + o + n) cs.length = true := Nat.ble_eq_true_of_le (by omega)
    rw [this, cond_true]
    congr 1
    have e : (l.drop o).take n = (((cs.drop base).take l.length).drop o).take n := by rw [h2]
    rw [e, List.drop_take, List.drop_drop, List.take_take]
    congr 1
    omega
theorem rd_len {E : Env} {M : Mem} {b o n : Nat} {l : List AV} (h : rd E M b o n = some l) : l.length = n := by
  obtain ⟨cs, h1, h2⟩ := rd_cells h
  simp only [rdIn] at h2
  cases hb : Nat.ble (o + n) cs.length with
  | false => rw [hb] at h2; cases h2
  | true =>
    rw [hb, cond_true, Option.some.injEq] at h2
    have hle := bleT hb
    rw [← h2]; simp; omega
theorem Blk.rd {c : Ctx} {k : Nat} {l : List AV} (h : Blk c k l) : Go.Sx.rd c.E c.M (c.ρ k) 0 l.length = some l := by
  unfold Go.Sx.rd
  rw [h.cells]
  simp only [rdIn]
  rw [Nat.ble_eq_true_of_le (by omega), cond_true]
  simp
theorem take1 {l : List AV} {o : Nat} {a : AV} (h : l[o]? = some a) : (l.drop o).take 1 = [a] := by
  obtain ⟨h1, h2⟩ := List.getElem?_eq_some_iff.1 h
  rw [List.drop_eq_getElem_cons h1, h2]; rfl
theorem takeV_ok {c : Ctx} {u : Nat} {z : Bool} {cs : List DV} {l : List AV} {i : TyI} {o b base : Nat} {v : DV} (h : takeV i cs o = some v) (hr : RL c u z cs l) (hrd : rd c.E c.M b base l.length = some l) :
    ∃ a, dLoad c.E c.M (some (.ptr b (base + o))) (some i) = some (a, c.M) ∧ R c u z v a := by
  unfold takeV at h
  simp only [dLoad]
  have hl := hr.length
  cases hi : i.isAgg with
  | true =>
    rw [hi, cond_true] at h
    rw [cond_true]
    cases hb : Nat.ble (o + i.size) cs.length with
    | false => rw [hb] at h; cases h
    | true =>
      rw [hb, cond_true, Option.some.injEq] at h
      subst h
      have := bleT hb
      rw [rd_sub hrd (by omega)]
      refine ⟨_, rfl, ?_⟩
      simp only [R]
      exact ⟨_, rfl, (hr.drop o).take i.size⟩
  | false =>
    rw [hi, cond_false] at h
    rw [cond_false]
    obtain ⟨a, h1, h2⟩ := hr.get h
    have hlt := (List.getElem?_eq_some_iff.1 h1).1
    rw [rd_sub hrd (by omega), take1 h1]
    exact ⟨a, rfl, h2⟩
theorem retK_ok {H : VH} {k : K} {x : Option DV} {r : DV} (h : retK H k x = some r) : ∃ v, x = some v ∧ k v H = some r := by
  unfold retK at h
  split at h
  · exact ⟨_, rfl, h⟩
  · cases h
theorem isCs_prjs {css : List CS} : ∀ (pre cs : List DV), isCs css cs = true → ∀ d, d.cells = pre ++ cs → prjs css pre.length d = cs := by
  induction css with
  | nil => intro pre cs h d hd; cases cs <;> simp [isCs] at h; rfl
  | cons x css ih =>
    intro pre cs h d hd
    cases cs with
    | nil => simp [isCs] at h
    | cons e cs =>
      simp only [isCs, Bool.and_eq_true] at h
      simp only [prjs]
      have hc : cellOf d pre.length = e := by unfold cellOf; rw [hd]; simp
      have hp : prj x e = e := by
        have h1 := h.1
        cases x <;> cases e <;> simp [isC] at h1 <;> simp [prj, asI, asB, asR]
        obtain ⟨a, b, e⟩ := h1
        subst a; subst b
        exact ⟨rfl, rfl, Nat.eq_of_beq_eq_true (by simpa using e)⟩
      rw [hc, hp]
      have := ih (pre ++ [e]) cs h.2 d (by rw [hd]; simp)
      rw [List.length_append] at this
      simp only [List.length_singleton] at this
      rw [this]
theorem rowCs_eq {r : RS} {d : DV} (h : isRow r d = true) : rowCs r d = d.cells := by
  unfold isRow at h
  simp only [Bool.and_eq_true, beq_iff_eq] at h
  obtain ⟨h1, h2⟩ := h
  unfold rowCs
  cases hr : r.ag with
  | true =>
    rw [cond_true]
    exact isCs_prjs [] d.cells h2 d rfl
  | false =>
    rw [cond_false]
    rw [hr] at h1
    have e : d.cells = [d] := by cases d <;> simp [DV.isAgg] at h1 <;> rfl
    have h3 := isCs_prjs [] d.cells h2 d rfl
    rw [e] at h2 h3 ⊢
    cases hcs : r.css with
    | nil => rw [hcs] at h2; simp [isCs] at h2
    | cons x l =>
      rw [hcs] at h2 h3
      cases l with
      | cons y l => simp [isCs] at h2
      | nil =>
        simp only [prjs, List.length_nil] at h3
        simp only [prj1]
        have : cellOf d 0 = d := by unfold cellOf; rw [e]; rfl
        rw [this] at h3; exact h3
theorem inR_lt {i : Int} {rows : List DV} (h : inR i rows = true) : i.toNat < rows.length := by
  unfold inR at h
  simp only [Bool.and_eq_true, decide_eq_true_eq] at h
  omega
theorem getD_lt {rows : List DV} {n : Nat} (h : n < rows.length) : rows[n]? = some (rows.getD n .undef) := by simp [h]
/-- A row of an own block, or of a slice that is read alone. -/
theorem row_at {c : Ctx} {u s : Nat} {rows : List DV} {rcs : List (List AV)} (h1 : RRows c u rows rcs) (h2 : ∀ l ∈ rcs, l.length = s) {n : Nat} (hn : n < rows.length) :
    ∃ x, rcs[n]? = some x ∧ x.length = s ∧ RL c u true (rows.getD n .undef).cells x := by
  obtain ⟨x, k1, k2⟩ := h1.get (getD_lt hn)
  exact ⟨x, k1, h2 x (List.mem_of_getElem? k1), k2.cells⟩
theorem rd_row {E : Env} {M : Mem} {b o s : Nat} {rcs : List (List AV)} {x : List AV} {n : Nat} (h : rd E M b o (rcs.length * s) = some rcs.flatten) (h2 : ∀ l ∈ rcs, l.length = s) (hx : rcs[n]? = some x) : rd E M b (o + n * s) s = some x := by
  have hl := flat_length h2
  have hn := (List.getElem?_eq_some_iff.1 hx).1
  have hle : n * s + s ≤ rcs.flatten.length := by
    rw [hl]
    calc n * s + s = (n + 1) * s := by rw [Nat.add_mul]; omega
      _ ≤ rcs.length * s := Nat.mul_le_mul_right s hn
  rw [rd_sub (by rw [hl]; exact h) hle, flat_row h2 hx]
end Go.Vx
/- V, text 4: loads, arithmetic, addresses. -/
namespace Go.Vx
open Go.Sx

theorem ck_or {c : Ctx} {hm u k : Nat} (h1 : Sub (c.ck k) u) (h2 : Sub hm u) : Sub (c.ck k ||| hm) u := Sub.or h1 h2
theorem rowsO_some {c : Ctx} {hm b s : Nat} {rows : List DV} (hp : Hp c hm) (h : rowsO (nthB c.H b) = some (s, rows)) : RowC c (c.ck b ||| hm) b s rows := by
  unfold rowsO at h
  split at h
  · rename_i e; cases h; exact hp.hr b _ e
  · rename_i e; cases h; exact (hp.hr b _ e).1
  · cases h
theorem boxO_some {c : Ctx} {hm b : Nat} {cs : List DV} (hp : Hp c hm) (h : boxO (nthB c.H b) = some cs) : ∃ l, RL c (c.ck b ||| hm) false cs l ∧ Blk c b l := by
  unfold boxO at h
  split at h
  · rename_i e; cases h; exact hp.hr b _ e
  · rename_i e; cases h; obtain ⟨l, h1, h2, _⟩ := hp.hr b _ e; exact ⟨l, h1, h2⟩
  · cases h
/-- What 'elp' points at. -/
theorem elp_row {c : Ctx} {hm b s : Nat} {rows : List DV} {i : Int} {o : Nat} {a : AV} (hp : Hp c hm) (h : rowsO (nthB c.H b) = some (s, rows)) (he : ElpR c b i o a) :
    a = .ptr (c.ρ b) (i.toNat * s + o) ∧ ∃ x rcs, RRows c (c.ck b ||| hm) rows rcs ∧ (∀ l ∈ rcs, l.length = s) ∧ Blk c b rcs.flatten ∧ rcs[i.toNat]? = some x ∧ x.length = s ∧ RL c (c.ck b ||| hm) true (rows.getD i.toNat .undef).cells x ∧ rd c.E c.M (c.ρ b) (i.toNat * s) s = some x ∧ i.toNat < rows.length := by
  have hb : a = .ptr (c.ρ b) (i.toNat * s + o) ∧ inR i rows = true := by
    unfold ElpR at he
    unfold rowsO at h
    split at h
    · rename_i e; cases h; rw [e] at he; exact he
    · rename_i e; cases h; rw [e] at he; exact he
    · cases h
  obtain ⟨h1, h2⟩ := hb
  obtain ⟨rcs, k1, k2, k3⟩ := rowsO_some hp h
  have hlt := inR_lt h2
  have hB := k3 (by intro e; subst e; simp at hlt)
  obtain ⟨x, j1, j2, j3⟩ := row_at k1 k2 hlt
  refine ⟨h1, x, rcs, k1, k2, hB, j1, j2, j3, ?_, hlt⟩
  have := rd_row (n := i.toNat) (x := x) (o := 0) (E := c.E) (M := c.M) (b := c.ρ b) (s := s) (rcs := rcs) (by rw [← flat_length k2]; exact hB.rd) k2 j1
  simpa using this
theorem loadK_ok {ty : Nat → Option TyI} {t : Nat} {H : VH} {k : K} {x : Option DV} {i : Option TyI} {r : DV} (h : loadK ty t H k x i = some r) :
    ∃ d v, x = some d ∧ k v H = some r ∧ ∀ (c : Ctx) (hm u : Nat) (a : AV), c.H = H → Hp c hm → (owns d ≠ [] → Sub hm u) → R c u false d a → ∃ a', dLoad c.E c.M (some a) i = some (a', c.M) ∧ R c u false v a' := by
  unfold loadK at h
  split at h
  · rename_i b o i
    unfold loadB at h
    split at h
    · rename_i cs hb
      obtain ⟨v, h1, h2⟩ := retK_ok h
      refine ⟨_, v, rfl, h2, fun c hm u a hH hp ho hr => ?_⟩
      subst hH
      simp only [R] at hr
      obtain ⟨_, h3, _, h4⟩ := hr
      obtain ⟨l, h5, h6⟩ := boxO_some hp hb
      subst h4
      have := takeV_ok h1 (h5.sub (ck_or h3 (ho (by simp [owns])))) h6.rd
      simpa using this
    · cases h
  · rename_i tg cs o i
    obtain ⟨v, h1, h2⟩ := retK_ok h
    refine ⟨_, v, rfl, h2, fun c hm u a hH hp ho hr => ?_⟩
    simp only [R] at hr
    obtain ⟨b, base, l, rfl, h4, h5, h6⟩ := hr
    obtain ⟨a', k1, k2⟩ := takeV_ok h1 h6 (by rw [h6.length]; exact h5)
    exact ⟨a', k1, k2.thaw⟩
  · rename_i b ix o i
    unfold loadR at h
    split at h
    · rename_i rs s rows hrs hrow
      cases hc : (Nat.beq o 0 && Nat.beq s i.size) with
      | false => rw [hc] at h; cases h
      | true =>
        rw [hc, cond_true] at h
        simp only [Bool.and_eq_true] at hc
        have ho0 := Nat.eq_of_beq_eq_true hc.1
        have hs := Nat.eq_of_beq_eq_true hc.2
        subst ho0
        unfold loadE at h
        cases hi : isRow rs (rows.getD ix.toNat .undef) with
        | false => rw [hi] at h; cases h
        | true =>
          rw [hi, cond_true, rowCs_eq hi] at h
          obtain ⟨v, h1, h2⟩ := retK_ok h
          refine ⟨_, v, rfl, h2, fun c hm u a hH hp ho hr => ?_⟩
          subst hH
          simp only [R] at hr
          obtain ⟨_, h3, h4⟩ := hr
          obtain ⟨h5, x, rcs, _, _, _, j1, j2, j3, j4, _⟩ := elp_row hp hrow h4
          subst h5
          obtain ⟨a', k1, k2⟩ := takeV_ok (b := c.ρ b) (base := ix.toNat * s) h1 (j3.sub (ck_or h3 (ho (by simp [owns])))) (by rw [j2]; exact j4)
          exact ⟨a', k1, k2.thaw⟩
    · cases h
  · cases h

/-! ### Arithmetic -/
theorem eqC_ok {c : Ctx} {u : Nat} {z : Bool} {x y : DV} {a b : AV} {r : Bool} (h : eqC x y = some r) (hx : R c u z x a) (hy : R c u z y b) : eqCell a b = some r := by
  unfold eqC at h
  split at h
  · simp only [R] at hx hy; subst hx; subst hy
    simp only [eqCell, kindEq, cond_true]; exact h
  · simp only [R] at hx hy; subst hx; subst hy
    simp only [eqCell]; exact h
  · cases h
theorem eqCells_cons (a b : AV) (l r : List AV) : eqCells (a :: l) (b :: r) = and? (eqCell a b) (eqCells l r) := rfl
theorem eqCsV_ok {c : Ctx} {u : Nat} {z : Bool} : ∀ {xs ys : List DV} {l m : List AV} {r : Bool}, eqCsV xs ys = some r → RL c u z xs l → RL c u z ys m → eqCells l m = some r
  | [], [], l, m, r, h, hx, hy => by
    simp only [RL] at hx hy; subst hx; subst hy; simpa [eqCsV, eqCells] using h
  | [x], [y], l, m, r, h, hx, hy => by
    simp only [RL] at hx hy
    obtain ⟨a, _, rfl, h1, rfl⟩ := hx
    obtain ⟨b, _, rfl, h2, rfl⟩ := hy
    simp only [eqCsV] at h
    simp only [eqCells, eqC_ok h h1 h2, and?, Bool.and_true]
  | x :: x' :: xs, y :: ys, l, m, r, h, hx, hy => by
    simp only [eqCsV] at h
    cases h1 : eqC x y with
    | none => rw [h1] at h; simp [and2] at h
    | some p => cases h2 : eqCsV (x' :: xs) ys with
      | none => rw [h1, h2] at h; simp [and2] at h
      | some q =>
        rw [h1, h2] at h
        simp only [and2, Option.some.injEq] at h
        rw [RL] at hx hy
        obtain ⟨a, l', rfl, k1, k2⟩ := hx
        obtain ⟨b, m', rfl, k3, k4⟩ := hy
        rw [eqCells_cons, eqC_ok h1 k1 k3, eqCsV_ok h2 k2 k4]
        simp only [and?, h]
  | [x], y :: y' :: ys, l, m, r, h, hx, hy => by
    simp only [eqCsV] at h
    cases h1 : eqC x y with
    | none => rw [h1] at h; simp [and2] at h
    | some p => rw [h1] at h; simp [and2] at h
  | [], _ :: _, _, _, _, h, _, _ => by simp [eqCsV] at h
  | _ :: _, [], _, _, _, h, _, _ => by simp [eqCsV] at h
theorem likeV_ok {c : Ctx} {u : Nat} {z : Bool} : ∀ {as : List AV} {xs : List DV} {l : List AV}, likeV as xs = true → RL c u z xs l → likeL as l = true
  | [], [], l, _, hx => by simp only [RL] at hx; subst hx; rfl
  | a :: as, [], l, h, hx => by cases a <;> simp [likeV] at h
  | [], _ :: _, l, h, hx => by simp [likeV] at h
  | a :: as, x :: xs, l, h, hx => by
    simp only [RL] at hx
    obtain ⟨b, r, rfl, h1, h2⟩ := hx
    unfold likeV at h
    split at h
    · rename_i e; cases e
    · rename_i e1 e2; cases e1; cases e2; simp only [R] at h1; subst h1; simp only [likeL, kindOf]; exact likeV_ok h h2
    · rename_i e1 e2; cases e1; cases e2; simp only [R] at h1; subst h1; simp only [likeL, kindOf]; exact likeV_ok h h2
    · cases h
theorem eqK_ok {op : BinOp} {H : VH} {k : K} {x : Option Bool} {r : DV} (h : eqK op H k x = some r) : ∃ b q, x = some q ∧ k (.bool b) H = some r ∧ eqRes op (some q) = some (.bool b) := by
  unfold eqK at h
  split at h
  · split at h
    · exact ⟨_, _, rfl, h, rfl⟩
    · exact ⟨_, _, rfl, h, rfl⟩
    · cases h
  · cases h
theorem binK_ok {ty : Nat → Option TyI} {op : BinOp} {t : Nat} {H : VH} {k : K} {x y : Option DV} {r : DV} (h : binK ty op t H k x y = some r) :
    ∃ d e v, x = some d ∧ y = some e ∧ k v H = some r ∧ ∀ (c : Ctx) (hm u : Nat) (a b : AV), c.H = H → Hp c hm → R c u false d a → R c u false e b → ∃ a', bin ty op t a b = some a' ∧ R c u false v a' := by
  unfold binK at h
  split at h
  · rename_i a b
    unfold intK at h
    have key : ∀ (v : DV) (a' : AV), k v H = some r → intBin op .i64 .i64 a b = some a' → (∀ (c : Ctx) (u : Nat), R c u false v a') →
        ∃ d e v, some (DV.int a) = some d ∧ some (DV.int b) = some e ∧ k v H = some r ∧ ∀ (c : Ctx) (hm u : Nat) (a1 b1 : AV), c.H = H → Hp c hm → R c u false d a1 → R c u false e b1 → ∃ a', bin ty op t a1 b1 = some a' ∧ R c u false v a' := by
      intro v a' h1 h2 h3
      refine ⟨_, _, v, rfl, rfl, h1, fun c hm u a1 b1 _ _ k1 k2 => ?_⟩
      simp only [R] at k1 k2
      subst k1; subst k2
      exact ⟨a', by simp only [bin]; exact h2, h3 c u⟩
    cases op <;> simp only [] at h <;> first | (cases h; done) | skip
    all_goals first
      | exact key _ _ h rfl (fun _ _ => by simp only [R, w64])
      | skip
    all_goals (
      cases hb : decide (b = 0) with
      | true => rw [hb] at h; cases h
      | false =>
        rw [hb, cond_false] at h
        first
          | exact key _ (.int .i64 (w64 (a.tdiv b))) h (by simp only [intBin, kindEq, cond_true, arith, quoA, hb, cond_false]; rfl) (fun _ _ => by simp only [R])
          | exact key _ (.int .i64 (a.tmod b)) h (by simp only [intBin, kindEq, cond_true, arith, remA, hb, cond_false]) (fun _ _ => by simp only [R]))
  · rename_i a b
    cases hb : isBoolT (ty t) with
    | false => rw [hb] at h; cases h
    | true =>
      rw [hb, cond_true] at h
      obtain ⟨q, p, e, h1, h2⟩ := eqK_ok h
      cases e
      refine ⟨_, _, _, rfl, rfl, h1, fun c hm u a1 b1 _ _ k1 k2 => ?_⟩
      simp only [R] at k1 k2
      subst k1; subst k2
      refine ⟨_, ?_, by simp only [R]; rfl⟩
      simp only [bin, boolBin]
      unfold isBoolT at hb
      split at hb
      · rename_i i hi
        split at hb
        · rename_i b hz; rw [hi]; simp only [hz]; exact h2
        · cases hb
      · cases hb
  · rename_i xs ys
    unfold aggK at h
    split at h
    · rename_i i hi
      cases hc : (i.flat && likeV i.zero.cells xs && likeV i.zero.cells ys) with
      | false => rw [hc] at h; cases h
      | true =>
        rw [hc, cond_true] at h
        simp only [Bool.and_eq_true] at hc
        obtain ⟨q, p, e, h1, h2⟩ := eqK_ok h
        refine ⟨_, _, _, rfl, rfl, h1, fun c hm u a1 b1 _ _ k1 k2 => ?_⟩
        simp only [R] at k1 k2
        obtain ⟨l, rfl, k1⟩ := k1
        obtain ⟨m, rfl, k2⟩ := k2
        refine ⟨_, ?_, by simp only [R]; rfl⟩
        simp only [bin, aggBin, hi, hc.1.1, likeV_ok hc.1.2 k1, likeV_ok hc.2 k2, Bool.and_self, cond_true, eqCsV_ok e k1 k2]
        exact h2
    · cases h
  · rename_i x
    cases hb : isNilsT (ty t) with
    | false => rw [hb] at h; cases h
    | true =>
      rw [hb, cond_true] at h
      have hz : ∃ i, ty t = some i ∧ i.zero = .nils := by
        unfold isNilsT at hb
        split at hb
        · rename_i i hi
          split at hb
          · rename_i hz; exact ⟨i, hi, hz⟩
          · cases hb
        · cases hb
      obtain ⟨i, hi, hz⟩ := hz
      unfold nilSK at h
      split at h
      · obtain ⟨q, p, e, h1, h2⟩ := eqK_ok h
        cases e
        refine ⟨_, _, _, rfl, rfl, h1, fun c hm u a1 b1 _ _ k1 k2 => ?_⟩
        simp only [R] at k1 k2
        subst k1; subst k2
        refine ⟨_, ?_, by simp only [R]; rfl⟩
        simp only [bin, nilBin, hi, hz, isSlV, cond_true, isNilEq]; exact h2
      · rename_i b
        split at h
        · rename_i s rows hrow
          obtain ⟨q, p, e, h1, h2⟩ := eqK_ok h
          cases e
          refine ⟨_, _, _, rfl, rfl, h1, fun c hm u a1 b1 hH hp k1 k2 => ?_⟩
          subst hH
          simp only [R] at k1 k2
          subst k2
          obtain ⟨_, _, k1⟩ := k1
          unfold OwnR at k1
          rw [hrow] at k1
          refine ⟨_, ?_, by simp only [R]; rfl⟩
          rcases k1 with ⟨e1, e | ⟨e, _⟩⟩ | ⟨e1, q, _, e⟩
          · subst e; subst e1
            simp only [bin, nilBin, hi, hz, isSlV, cond_true, isNilEq]; exact h2
          · cases e
          · subst e
            have : rows.isEmpty = false := by cases rows <;> simp at e1 ⊢
            rw [this] at h2
            simp only [bin, nilBin, hi, hz, isSlV, cond_true, isNilEq]; exact h2
        · cases h
      · cases h
  · cases h
theorem unK_ok {op : UnOp} {H : VH} {k : K} {x : Option DV} {r : DV} (h : unK op H k x = some r) : ∃ d v, x = some d ∧ k v H = some r ∧ ∀ (c : Ctx) (u : Nat) (a : AV), R c u false d a → ∃ a', un op a = some a' ∧ R c u false v a' := by
  unfold unK at h
  split at h
  · split at h
    · refine ⟨_, _, rfl, h, fun c u a hr => ?_⟩
      simp only [R] at hr; subst hr
      exact ⟨_, rfl, by simp only [R, w64]⟩
    · cases h
  · split at h
    · refine ⟨_, _, rfl, h, fun c u a hr => ?_⟩
      simp only [R] at hr; subst hr
      exact ⟨_, rfl, by simp only [R]⟩
    · cases h
  · cases h
end Go.Vx
/- V, text 5: freezing; values that are handed on. -/
namespace Go.Vx
open Go.Sx

theorem frzB_kin (B : VB) : Kin B (frzB B) := by cases B <;> simp [frzB, Kin]
theorem frz_sta {c : Ctx} {hm k : Nat} (hp : Hp c hm) (hm0 : Mutk c.H k) {B' : VB} (hB' : ∀ j, Mutk (setB c.H k B') j → Mutk c.H j ∧ j ≠ k) {l : List AV} (hl : Blk c k l) : Sta (c.upd k B' c.M) (c.ck k) false (c.ρ k) := by
  refine ⟨fun ⟨j, h1, h2⟩ => ?_, fun _ e => ?_, hl.vis⟩
  · obtain ⟨h3, h4⟩ := hB' j h1
    exact hp.inj j k h3 hm0 h4 h2
  · have := hp.ta _ e
    have := hl.lo
    omega
theorem frz1_ok {c : Ctx} {hm k : Nat} {B : VB} (hp : Hp c hm) (hB : nthB c.H k = some B) : (∀ m, Ext c (c.upd k (frzB B) c.M) m m) ∧ Hp (c.upd k (frzB B) c.M) hm := by
  have hext := fun m => upd_ext hp hB (frzB_kin B) (.inl rfl) m
  refine ⟨hext, upd_hp hp (Sub.refl hm) hB (frzB_kin B) (.inl rfl) ?_⟩
  have hX : ∀ m, ExtF c (c.upd k (frzB B) c.M) m m := fun m => (hext m).toF
  have hblk : ∀ l, Blk c k l → Blk (c.upd k (frzB B) c.M) k l := fun l hl => hl.keep rfl rfl rfl hl.get rfl
  have hmut : ∀ (hne : ¬ Mutk (setB c.H k (frzB B)) k) j, Mutk (setB c.H k (frzB B)) j → Mutk c.H j ∧ j ≠ k := fun hne j hj => ⟨Kin.mutk hB (frzB_kin B) hj, fun e => by subst e; exact hne hj⟩
  have hr := hp.hr k B hB
  cases B with
  | box cs =>
    obtain ⟨l, h1, h2⟩ := hr
    refine ⟨l, RL.mono (hext _) cs false l h1, hblk l h2, frz_sta hp (by unfold Mutk; rw [hB]; trivial) (hmut ?_) h2⟩
    unfold Mutk; rw [nthB_set hB, if_pos rfl]; simp [frzB]
  | row nn s rows =>
    refine ⟨RowC.mono hr (hX _) (fun _ => hblk), fun e => ?_⟩
    obtain ⟨rcs, _, _, h3⟩ := hr
    refine frz_sta hp (by unfold Mutk; rw [hB]; exact e) (hmut ?_) (h3 e)
    unfold Mutk; rw [nthB_set hB, if_pos rfl]; simp [frzB]
  | fbx cs => exact hr.keep hext (Sub.refl hm) rfl rfl (fun _ => hblk)
  | frz s rows => exact hr.keep hext (Sub.refl hm) rfl rfl (fun _ => hblk)
  | dead => trivial
def Ctx.withH (c : Ctx) (H : VH) : Ctx := { c with H := H }
theorem frzB_idem (B : VB) : frzB (frzB B) = frzB B := by cases B <;> rfl
theorem Ext.trans {c c' c'' : Ctx} (h : ∀ m, Ext c c' m m) (k : ∀ m, Ext c' c'' m m) (hs : ∀ j x, nthB c.H j = some x → ∃ y, nthB c'.H j = some y) (m : Nat) : Ext c c'' m m :=
  ⟨fun tg b cs h1 h2 => by
    obtain ⟨h3, h4⟩ := (h m).sta tg b cs h1 h2
    exact (k m).sta tg b cs h3 h4, fun j a ho => (k m).own j a ((h m).own j a ho), fun j o a hh => (k m).box j o a ((h m).box j o a hh), fun j i o a hh => (k m).elp j i o a ((h m).elp j i o a hh),
    fun j h1 ⟨x, hx⟩ => (k m).ck j ((h m).ck j h1 ⟨x, hx⟩) (hs j x hx)⟩
theorem frzAll_ok {hm : Nat} : ∀ (ids : List Nat) (c : Ctx), Hp c hm → (∀ m, Ext c (c.withH (frzAll ids c.H)) m m) ∧ Hp (c.withH (frzAll ids c.H)) hm ∧ (∀ j B, nthB c.H j = some B → nthB (frzAll ids c.H) j = some B ∨ nthB (frzAll ids c.H) j = some (frzB B)) ∧ (∀ j B, j ∈ ids → nthB c.H j = some B → nthB (frzAll ids c.H) j = some (frzB B)) ∧ (frzAll ids c.H).length = c.H.length
  | [], c, hp => ⟨fun m => Ext.refl c m, hp, fun j B h => .inl h, fun j B h => by simp at h, rfl⟩
  | k :: ids, c, hp => by
    simp only [frzAll]
    cases hk : nthB c.H k with
    | none =>
      have e : frzAt c.H k = c.H := by unfold frzAt; rw [hk]
      rw [e]
      obtain ⟨h1, h2, h3, h4, h5⟩ := frzAll_ok ids c hp
      refine ⟨h1, h2, h3, fun j B hj hB => ?_, h5⟩
      rcases List.mem_cons.1 hj with rfl | hj
      · rw [hk] at hB; cases hB
      · exact h4 j B hj hB
    | some B =>
      have e : frzAt c.H k = setB c.H k (frzB B) := by unfold frzAt; rw [hk]
      rw [e]
      obtain ⟨k1, k2⟩ := frz1_ok hp hk
      obtain ⟨h1, h2, h3, h4, h5⟩ := frzAll_ok ids (c.upd k (frzB B) c.M) k2
      have hstep : ∀ j B', nthB c.H j = some B' → nthB (setB c.H k (frzB B)) j = some (if j = k then frzB B' else B') := by
        intro j B' hj
        rw [nthB_set hk]
        by_cases e : j = k
        · subst e; rw [hk] at hj; cases hj; simp
        · rw [if_neg e, if_neg e]; exact hj
      refine ⟨fun m => Ext.trans k1 h1 (fun j x hx => ⟨_, hstep j x hx⟩) m, h2, fun j B' hj => ?_, fun j B' hj hB => ?_, ?_⟩
      · have hs := hstep j B' hj
        rcases h3 j _ hs with e | e
        · by_cases ej : j = k
          · rw [if_pos ej] at e; exact .inr e
          · rw [if_neg ej] at e; exact .inl e
        · by_cases ej : j = k
          · rw [if_pos ej, frzB_idem] at e; exact .inr e
          · rw [if_neg ej] at e; exact .inr e
      · have hs := hstep j B' hB
        by_cases ej : j = k
        · rw [if_pos ej] at hs
          rcases h3 j _ hs with e | e
          · exact e
          · rw [frzB_idem] at e; exact e
        · rw [if_neg ej] at hs
          rcases List.mem_cons.1 hj with rfl | hj
          · exact absurd rfl ej
          · exact h4 j B' hj hs
      · refine h5.trans ?_
        show (setB c.H k (frzB B)).length = _
        rw [setB_set]; simp

/-! ### Values that are handed on -/
/-- From the frame's context to one in which values are read alone. -/
structure Hand (c d : Ctx) (u u' : Nat) (tg : Bool) (ids : List Nat) : Prop where
  ext : ExtF c d u u'
  own : ∀ k, (tg = true ∨ k ∈ ids) → ∀ l B, nthB c.H k = some B → NonE B → Blk c k l → Sub (c.ck k) u → Sta d u' tg (c.ρ k) ∧ cellsOf d.E d.M (c.ρ k) = some l
theorem Hand.less {c d : Ctx} {u u' : Nat} {tg : Bool} {ids ids' : List Nat} (h : Hand c d u u' tg ids) (hs : ∀ k ∈ ids', k ∈ ids) : Hand c d u u' tg ids' := ⟨h.ext, fun k e => h.own k (e.imp id (hs k))⟩
theorem SlR.tag {d : Ctx} {u : Nat} {tg tg' ex : Bool} {s n : Nat} {rc : List AV} {a : AV} (h : SlR d u tg' ex s n rc a) (ht : (tg || !tg') = true) : SlR d u tg false s n rc a := by
  rcases h with ⟨e, e1 | ⟨z, e1, _⟩⟩ | ⟨b, o, cap, q, h1, h2, h3, h4, h5⟩
  · exact .inl ⟨e, .inl e1⟩
  · exact .inl ⟨e, .inr ⟨z, e1, by simp⟩⟩
  · refine .inr ⟨b, o, cap, q, h1, h2, ⟨h3.1, h3.2.1, by simp⟩, ?_, h5⟩
    cases tg with
    | true => exact h4.tag
    | false => simp at ht; subst ht; exact h4
theorem OwnV.list {c d : Ctx} {hm u u' s k : Nat} {nn tg : Bool} {ids : List Nat} {rows : List DV} {a : AV} (hh : Hand c d u u' tg ids) (hk : tg = true ∨ k ∈ ids) (hB : ∃ B, nthB c.H k = some B ∧ (rows ≠ [] → NonE B)) (hc : RowC c (c.ck k ||| hm) k s rows) (hck : Sub (c.ck k) u) (hu : Sub hm u) (h : OwnV c u nn s k rows a) :
    R d u' true (.list tg false s rows) a := by
  obtain ⟨rcs, h1, h2, h3⟩ := hc
  simp only [R]
  have hlen := h1.length
  refine ⟨rcs, RRows.monoF hh.ext rows rcs (h1.sub (ck_or hck hu)), h2, ?_⟩
  rcases h with ⟨k1, e | ⟨k2, e | ⟨b, o, k3, k4, k5⟩⟩⟩ | ⟨k1, q, k2, k3⟩
  · exact .inl ⟨by rw [k1]; rfl, .inl e⟩
  · exact .inl ⟨by rw [k1]; rfl, .inr ⟨true, e, by simp⟩⟩
  · obtain ⟨k6, k7⟩ := hh.ext.rd k4 k5
    subst k1
    have : rcs = [] := by simpa using hlen
    subst this
    refine .inr ⟨b, o, 0, 0, k3, .inl rfl, by simp, ?_, by simpa using k7⟩
    cases tg with
    | true => exact k6.tag
    | false => exact k6
  · obtain ⟨B, hB1, hB2⟩ := hB
    obtain ⟨k4, k5⟩ := hh.own k hk _ B hB1 (hB2 k1) (h3 k1) hck
    refine .inr ⟨c.ρ k, 0, rows.length, q, k3, k2, ⟨Nat.le_refl _, fun e => absurd (List.eq_nil_of_length_eq_zero e) k1, by simp⟩, k4, ?_⟩
    unfold rd
    rw [k5]
    simp only [rdIn]
    have hl := flat_length h2
    rw [hlen] at hl
    rw [Nat.ble_eq_true_of_le (by omega), cond_true, List.drop_zero, List.take_of_length_le (by omega)]
theorem rowsO_B {c : Ctx} {k s : Nat} {rows : List DV} (h : rowsO (nthB c.H k) = some (s, rows)) : ∃ B, nthB c.H k = some B ∧ (rows ≠ [] → NonE B) := by
  unfold rowsO at h
  split at h
  · rename_i e; cases h; exact ⟨_, e, fun h => h⟩
  · rename_i e; cases h; exact ⟨_, e, fun h => h⟩
  · cases h
theorem own_rows {c : Ctx} {hm u k s : Nat} {rows : List DV} {a : AV} (hp : Hp c hm) (h : rowsO (nthB c.H k) = some (s, rows)) (ho : OwnR c u k a) : ∃ nn, OwnV c u nn s k rows a ∧ RowC c (c.ck k ||| hm) k s rows := by
  have hc := rowsO_some hp h
  unfold OwnR at ho
  unfold rowsO at h
  split at h
  · rename_i e; cases h; rw [e] at ho; exact ⟨_, ho, hc⟩
  · rename_i e; cases h; rw [e] at ho; exact ⟨_, ho, hc⟩
  · cases h
theorem nrm1_ok {c d : Ctx} {hm u u' : Nat} {tg : Bool} {ids : List Nat} {s : CS} {v w : DV} {a : AV} (hp : Hp c hm) (hh : Hand c d u u' tg ids) (hi : ∀ k ∈ owns v, k ∈ ids) (hu : owns v ≠ [] → Sub hm u) (h : nrm1 tg c.H s v = some w) (hr : R c u false v a) : R d u' true w a := by
  unfold nrm1 at h
  split at h
  · cases h; simpa only [R] using hr
  · cases h; simpa only [R] using hr
  · cases h
    simp only [R] at hr ⊢
    exact ⟨[], by simp [RRows], by simp, .inl ⟨rfl, .inl hr⟩⟩
  · rename_i s tg' ex s' rows
    cases hc : (Nat.beq s s' && (tg || !tg')) with
    | false => rw [hc] at h; cases h
    | true =>
      rw [hc, cond_true, Option.some.injEq] at h
      subst h
      simp only [Bool.and_eq_true] at hc
      have := Nat.eq_of_beq_eq_true hc.1
      subst this
      simp only [R] at hr ⊢
      obtain ⟨rcs, h1, h2, h3⟩ := hr
      exact ⟨rcs, RRows.monoF hh.ext rows rcs h1, h2, (h3.monoF hh.ext).tag hc.2⟩
  · rename_i s k
    split at h
    · rename_i s' rows hrow
      cases hc : Nat.beq s s' with
      | false => rw [hc] at h; cases h
      | true =>
        rw [hc, cond_true, Option.some.injEq] at h
        have := Nat.eq_of_beq_eq_true hc
        subst this; subst h
        rw [R] at hr
        obtain ⟨_, hck, ho⟩ := hr
        obtain ⟨nn, h1, h2⟩ := own_rows hp hrow ho
        exact h1.list hh (.inr (hi k (by simp [owns]))) (rowsO_B hrow) h2 hck (hu (by simp [owns]))
    · cases h
  · cases h
theorem nrmL_ok {c d : Ctx} {hm u u' : Nat} {tg : Bool} {ids : List Nat} (hp : Hp c hm) (hh : Hand c d u u' tg ids) : ∀ {css : List CS} {vs ws : List DV} {l : List AV}, (∀ k ∈ ownsL vs, k ∈ ids) → (ownsL vs ≠ [] → Sub hm u) → nrmL tg c.H css vs = some ws → RL c u false vs l → RL d u' true ws l ∧ ws.length = css.length
  | [], [], ws, l, _, _, h, hr => by
    simp only [nrmL, Option.some.injEq] at h; subst h
    simp only [RL] at hr ⊢
    exact ⟨hr, rfl⟩
  | s :: css, v :: vs, ws, l, hi, hu, h, hr => by
    simp only [nrmL] at h
    cases h1 : nrm1 tg c.H s v with
    | none => rw [h1] at h; simp [consD] at h
    | some w => cases h2 : nrmL tg c.H css vs with
      | none => rw [h1, h2] at h; simp [consD] at h
      | some r =>
        rw [h1, h2] at h
        simp only [consD, Option.some.injEq] at h
        subst h
        simp only [RL] at hr ⊢
        obtain ⟨a, as, rfl, k1, k2⟩ := hr
        obtain ⟨j1, j2⟩ := nrmL_ok hp hh (fun k hk => hi k (by simp [ownsL, hk])) (fun hne => hu (fun e => hne (by simp only [ownsL, List.append_eq_nil_iff] at e; exact e.2))) h2 k2
        refine ⟨⟨a, as, rfl, nrm1_ok hp hh (fun k hk => hi k (by simp [ownsL, hk])) (fun hne => hu (fun e => hne (by simp only [ownsL, List.append_eq_nil_iff] at e; exact e.1))) h1 k1, j1⟩, by simp [j2]⟩
  | [], _ :: _, _, _, _, _, h, _ => by simp [nrmL] at h
  | _ :: _, [], _, _, _, _, h, _ => by simp [nrmL] at h
theorem owns_cells (v : DV) (h : v.isAgg = true ∨ v.cells = [v]) : ownsL v.cells = owns v := by
  rcases h with h | h
  · cases v <;> simp [DV.isAgg] at h; rfl
  · rw [h]; simp [ownsL]
theorem cells_or (v : DV) : v.isAgg = true ∨ v.cells = [v] := by cases v <;> first | exact .inl rfl | exact .inr rfl
/-- A frozen cell that bears no tag itself bears none within. -/
theorem R_nt {c : Ctx} {u : Nat} {a : AV} {tg ex : Bool} {s : Nat} {rows : List DV} (h : R c u true (.list tg ex s rows) a) : ntL rows := by
  simp only [R] at h
  obtain ⟨rcs, h1, _⟩ := h
  exact h1.nt
theorem nrmL_nt {d : Ctx} {u : Nat} {H : VH} : ∀ {css : List CS} {vs ws : List DV} {l : List AV}, RL d u true ws l → nrmL false H css vs = some ws → ntL ws
  | [], [], ws, l, _, h => by simp only [nrmL, Option.some.injEq] at h; subst h; simp [ntL]
  | s :: css, v :: vs, ws, l, hr, h => by
    simp only [nrmL] at h
    cases h1 : nrm1 false H s v with
    | none => rw [h1] at h; simp [consD] at h
    | some w => cases h2 : nrmL false H css vs with
      | none => rw [h1, h2] at h; simp [consD] at h
      | some r =>
        rw [h1, h2] at h
        simp only [consD, Option.some.injEq] at h
        subst h
        rw [RL] at hr
        obtain ⟨a, as, rfl, k1, k2⟩ := hr
        simp only [ntL]
        refine ⟨?_, nrmL_nt k2 h2⟩
        unfold nrm1 at h1
        split at h1
        · cases h1; simp [nt]
        · cases h1; simp [nt]
        · cases h1; simp [nt, ntL]
        · rename_i s tg' ex s' rows
          cases hc : (Nat.beq s s' && (false || !tg')) <;> rw [hc] at h1 <;> cases h1
          simp only [nt]
          exact ⟨trivial, R_nt k1⟩
        · split at h1
          · rename_i s' rows _
            cases hc : Nat.beq _ s' <;> rw [hc] at h1 <;> cases h1
            simp only [nt]
            exact ⟨trivial, R_nt k1⟩
          · cases h1
        · cases h1
  | [], _ :: _, _, _, _, h => by simp [nrmL] at h
  | _ :: _, [], _, _, _, h => by simp [nrmL] at h
theorem nt_mkRow {ag : Bool} {cs : List DV} (h : ntL cs) : nt (mkRow ag cs) := by
  unfold mkRow
  cases ag with
  | true => rw [cond_true]; simpa only [nt] using h
  | false =>
    rw [cond_false]
    cases cs with
    | nil => simp [nt]
    | cons d l => simp only [ntL] at h; exact h.1
theorem nrmV_ok {c d : Ctx} {hm u u' : Nat} {tg : Bool} {ids : List Nat} {r : RS} {v w : DV} {a : AV} (hp : Hp c hm) (hh : Hand c d u u' tg ids) (hi : ∀ k ∈ owns v, k ∈ ids) (hu : owns v ≠ [] → Sub hm u) (h : nrmV tg c.H r v = some w) (hr : R c u false v a) :
    R d u' true w a ∧ (tg = false → RRow d u' w a.cells) ∧ a.cells.length = r.css.length ∧ w.isAgg = v.isAgg := by
  unfold nrmV at h
  cases hag : (r.ag == v.isAgg) with
  | false => rw [hag] at h; cases h
  | true =>
    rw [hag, cond_true] at h
    rw [beq_iff_eq] at hag
    cases hl : nrmL tg c.H r.css v.cells with
    | none => rw [hl] at h; simp [rowO] at h
    | some ws =>
      rw [hl] at h
      simp only [rowO, Option.some.injEq] at h
      have ho := owns_cells v (cells_or v)
      obtain ⟨k1, k2⟩ := nrmL_ok hp hh (by rw [ho]; exact hi) (by rw [ho]; exact hu) hl hr.cells
      have hlen := k1.length
      have hrw : R d u' true w a ∧ w.isAgg = v.isAgg := by
        subst h
        unfold mkRow
        rw [hag]
        cases hv : v.isAgg with
        | true =>
          rw [cond_true]
          cases v <;> simp [DV.isAgg] at hv
          simp only [R] at hr
          obtain ⟨l, rfl, _⟩ := hr
          simp only [R]
          exact ⟨⟨l, rfl, k1⟩, rfl⟩
        | false =>
          rw [cond_false]
          rw [hr.notAgg hv] at k1
          cases ws with
          | nil => simp [RL] at k1
          | cons x r' =>
            rw [RL] at k1
            obtain ⟨a', l', e, k3, k4⟩ := k1
            cases e
            simp only [List.headD_cons]
            refine ⟨k3, ?_⟩
            cases v <;> simp [DV.isAgg] at hv <;> simp only [DV.cells] at hl <;> cases hcs : r.css <;> rw [hcs] at hl <;> simp only [nrmL] at hl
            all_goals first | (cases hl; done) | skip
            all_goals (
              rename_i s' css'
              cases hn : nrm1 tg c.H s' _ with
              | none => rw [hn] at hl; simp [consD] at hl
              | some y =>
                cases css' with
                | cons _ _ => rw [hn] at hl; simp [nrmL, consD] at hl
                | nil =>
                  rw [hn] at hl
                  simp only [nrmL, consD, Option.some.injEq, List.cons.injEq] at hl
                  obtain ⟨rfl, _⟩ := hl
                  unfold nrm1 at hn
                  split at hn <;> first | (cases hn; rfl; done) | (cases hn; done) | skip
                  all_goals first
                    | (split at hn
                       · cases hc : (Nat.beq _ _) <;> rw [hc] at hn <;> cases hn; rfl
                       · cases hn)
                    | (cases hc : (Nat.beq _ _ && _) <;> rw [hc] at hn <;> cases hn; rfl))
      refine ⟨hrw.1, fun ht => RRow.of hrw.1 ?_, by rw [hlen, k2], hrw.2⟩
      subst ht
      rw [← h]
      exact nt_mkRow (nrmL_nt k1 hl)
end Go.Vx
