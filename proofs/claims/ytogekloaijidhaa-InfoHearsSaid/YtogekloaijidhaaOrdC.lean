/- REGIONS whose order is open, with a class of worlds of one's own: what is read stands in all of them. No program is named here. -/
import Derived.Test.YtogekloaijidhaaMore
namespace Go.Proofs.Ytogekloaijidhaa
open Go Go.RowKit
/-- an operation that reads, at most, and yields v, in all worlds of the class -/
def ReadsC (P : Program) (C : World → Prop) (a : Act) (v : Value) (o : Oper) : Prop :=
  match o.op with
  | .load t x => ∀ w, C w → rd P w t (a.eval x) = some v
  | _ => ∀ w, (execOp a.eval o).run P w = .ok (.value v) w
attribute [go_sem] ReadsC
theorem ReadsC.run {P : Program} {C : World → Prop} {w : World} {a : Act} {v : Value} {o : Oper} (hg : C w) (h : ReadsC P C a v o) : (execOp a.eval o).run P w = .ok (.value v) w := by
  unfold ReadsC at h
  split at h
  · rename_i t x hop
    unfold execOp
    simp only [hop, Sem.run_bind, run_rd P w t _ v (h w hg), Result.andThen_ok, Sem.run_pure]
  · exact h w
section
variable (P : Program) (ops : Array Oper) (C : World → Prop) (Q : Exit → Act → World → Prop)
/-- operation i reads: its value goes into its slot -/
def rdStepC (i : Nat) (K : Act → Prop) (a : Act) : Prop :=
  match ops[i]? with
  | none => False
  | some o => if Region.wanted o (yielded ops a.tmps) then ∃ v, ReadsC P C a v o ∧ K (a.put o.dst v) else K (a.put o.dst undef)
/-- operation i is carried out; what was there stays as it was -/
def efStepC (i : Nat) (K : Act → World → Prop) (a : Act) (w : World) : Prop :=
  match ops[i]? with
  | none => False
  | some o => if Region.wanted o (yielded ops a.tmps) then o.wp P a w (fun a' w' => C w' ∧ K a' w') (NoPanic Q) else K (a.put o.dst undef) w
def wpC : Ord → Act → World → Prop
  | .done, a, w => Q .normal a w
  | .rd i r, a, w => rdStepC P ops C i (fun a' => wpC r a' w) a
  | .alt i r m, a, w => efStepC P ops C Q i (wpC r) a w ∧ wpC m a w
  | .stop, _, _ => True
end
section
variable {P : Program} {ops : Array Oper} {C : World → Prop} {Q : Exit → Act → World → Prop}
theorem wpC_heads : ∀ (t : Ord) (a : Act) (w : World) (l : Array Bool), t.ok ops l false = true → wpC P ops C Q t a w → ∀ i ∈ t.heads, ∃ r, r.depth + 1 ≤ t.depth ∧ r.ok ops (l.setIfInBounds i true) true = true ∧ efStepC P ops C Q i (wpC P ops C Q r) a w
  | .done, _, _, _, _, _ => by intro i hi; cases hi
  | .rd _ _, _, _, _, _, _ => by intro i hi; cases hi
  | .stop, _, _, _, _, _ => by intro i hi; cases hi
  | .alt j r m, a, w, l, hB, h => by
    intro i hi
    simp only [Ord.ok, Bool.and_eq_true] at hB
    simp only [wpC] at h
    rcases List.mem_cons.1 hi with rfl | hi
    · exact ⟨r, by simp only [Ord.depth]; omega, hB.1.2, h.1⟩
    · obtain ⟨r', hd, ho, he⟩ := wpC_heads m a w l hB.2 h.2 i hi
      exact ⟨r', by simp only [Ord.depth]; omega, ho, he⟩
theorem wpC_any (hs : Region.noSelect ops = true) : ∀ (f : Nat) (t : Ord) (l : Array Bool) (a : Act) (w : World), t.depth ≤ f → t.ok ops l true = true → C w → wpC P ops C Q t a w →
    wpAnyH P .any ops (NoPanic Q) C f l a w := by
  intro f
  induction f with
  | zero =>
    intro t l a w hd hB hg h
    cases t with
    | done => simp only [Ord.ok, Bool.true_and] at hB; exact ⟨by simpa using hB, h⟩
    | rd i r => simp [Ord.depth] at hd
    | alt i r m => simp only [Ord.depth] at hd; omega
    | stop => simp [Ord.ok] at hB
  | succ f ih =>
    intro t l a w hd hB hg h
    cases t with
    | done =>
      simp only [Ord.ok, Bool.true_and] at hB
      have he : Region.ready .any ops l = [] := by simpa using hB
      refine ⟨fun _ => h, fun i hi => ?_⟩
      rw [he] at hi; cases hi
    | stop => simp [Ord.ok] at hB
    | rd i r =>
      simp only [Ord.ok, Bool.true_and, Bool.and_eq_true] at hB
      simp only [Ord.depth] at hd
      simp only [wpC, rdStepC] at h
      cases ho : ops[i]? with
      | none => simp [ho] at h
      | some o =>
        simp only [ho] at h
        by_cases hw : Region.wanted o (yielded ops a.tmps) = true
        · simp only [hw, if_true] at h
          obtain ⟨v, hv, hK⟩ := h
          refine wpAnyH_take ho hs hB.1.2 hB.1.1 ?_ (Or.inl ⟨hw, fun w' hw' => ReadsC.run hw' hv⟩) hg (ih r _ _ w (by omega) hB.2 hg hK)
          intro c a w h; exact h
        · simp only [hw] at h
          refine wpAnyH_take (v := undef) ho hs hB.1.2 hB.1.1 ?_ (Or.inr ⟨by simpa using hw, rfl⟩) hg (ih r _ _ w (by omega) hB.2 hg h)
          intro c a w h; exact h
    | alt i r m =>
      have hB' := hB
      simp only [Ord.ok, Bool.not_true, Bool.false_or, Bool.and_eq_true, decide_eq_true_eq] at hB
      have hB2 : (Ord.alt i r m).ok ops l false = true := by
        simp only [Ord.ok, Bool.not_false, Bool.true_or, Bool.true_and, Bool.and_eq_true]; exact ⟨hB.1.2, hB.2⟩
      refine wpAnyH_all hB.1.1.symm (by simp) fun j hj => ?_
      obtain ⟨r', hd', hok, he⟩ := wpC_heads (.alt i r m) a w l hB2 h j hj
      unfold efStepC at he
      unfold wpOp
      cases ho : ops[j]? with
      | none => simp [ho] at he
      | some o =>
        simp only [ho] at he ⊢
        by_cases hw : Region.wanted o (yielded ops a.tmps) = true
        · simp only [hw, if_true] at he ⊢
          exact .inl (Oper.wp_mono (fun a' w' h' => ⟨h'.1, ih r' _ _ _ (by omega) hok h'.1 h'.2⟩) he)
        · simp only [hw] at he ⊢
          exact ⟨hg, ih r' _ _ _ (by omega) hok hg he⟩
/-- a region whose order is open, walked in one order: what is read stands in all worlds of a class that what is carried out keeps -/
theorem wp_region_ordC {id : Nat} {a : Act} {w : World} (C : World → Prop) (t : Ord) (hm : P.follows .mixedOrders = true) (hB : t.fits ops = true) (hC : C w.drew) (h : wpC P ops C Q t a w.drew) : (Code.region id ops true).wp P Q a w := by
  simp only [Ord.fits, Bool.and_eq_true, decide_eq_true_eq] at hB
  refine wp_region_noPanic (wp_region_held (S := C) hm ?_)
  exact wpC_any hB.1.1 ops.size t _ a w.drew hB.1.2 hB.2 hC h
/-- one step: a reading -/
theorem wpC_rd {i : Nat} {r : Ord} {o : Oper} {a : Act} {w : World} (ho : ops[i]? = some o)
    (h : ∀ K : Act → Prop, (∀ a, wpC P ops C Q r a w → K a) → if Region.wanted o (yielded ops a.tmps) then ∃ v, ReadsC P C a v o ∧ K (a.put o.dst v) else K (a.put o.dst undef)) : wpC P ops C Q (.rd i r) a w := by
  have := h _ (fun _ h => h)
  simp only [wpC, rdStepC, ho]
  exact this
/-- one step: carried out -/
theorem wpC_ef {i : Nat} {r m : Ord} {o : Oper} {a : Act} {w : World} (ho : ops[i]? = some o)
    (h : ∀ K : Act → World → Prop, (∀ a w, C w ∧ wpC P ops C Q r a w → K a w) → C w → if Region.wanted o (yielded ops a.tmps) then o.wp P a w K (NoPanic Q) else K (a.put o.dst undef) w) (hg : C w) (hm : wpC P ops C Q m a w) : wpC P ops C Q (.alt i r m) a w := by
  have := h _ (fun _ _ h => h) hg
  simp only [wpC, efStepC, ho]
  refine ⟨?_, hm⟩
  split
  · rename_i hw; rw [if_pos hw] at this; exact this
  · rename_i hw; rw [if_neg hw] at this; exact this.2
theorem wpC_done {a : Act} {w : World} (h : Q .normal a w) : wpC P ops C Q .done a w := h
theorem wpC_stop {a : Act} {w : World} : wpC P ops C Q .stop a w := trivial
end
section
variable {P : Program} {ops : Array Oper} {C : World → Prop} {Q : Exit → Act → World → Prop}
theorem wpC_rdy {i : Nat} {r : Ord} {o : Oper} {a : Act} {w : World} (ho : (ops.toList.drop i).head? = some o) (hy : Region.wanted o (yielded ops a.tmps) = true)
    (h : ∀ K : Act → Prop, (∀ a, wpC P ops C Q r a w → K a) → ∃ v, ReadsC P C a v o ∧ K (a.put o.dst v)) : wpC P ops C Q (.rd i r) a w :=
  wpC_rd (op_at ho) fun K hK => by rw [if_pos hy]; exact h K hK
theorem wpC_rdn {i : Nat} {r : Ord} {o : Oper} {a : Act} {w : World} (ho : (ops.toList.drop i).head? = some o) (hy : Region.wanted o (yielded ops a.tmps) = false)
    (h : ∀ K : Act → Prop, (∀ a, wpC P ops C Q r a w → K a) → K (a.put o.dst undef)) : wpC P ops C Q (.rd i r) a w :=
  wpC_rd (op_at ho) fun K hK => by rw [if_neg (by rw [hy]; exact Bool.false_ne_true)]; exact h K hK
theorem wpC_efy {i : Nat} {r m : Ord} {o : Oper} {a : Act} {w : World} (ho : (ops.toList.drop i).head? = some o) (hy : Region.wanted o (yielded ops a.tmps) = true)
    (h : ∀ K : Act → World → Prop, (∀ a w, C w ∧ wpC P ops C Q r a w → K a w) → C w → o.wp P a w K (NoPanic Q)) (hg : C w) (hm : wpC P ops C Q m a w) : wpC P ops C Q (.alt i r m) a w :=
  wpC_ef (op_at ho) (fun K hK hg => by rw [if_pos hy]; exact h K hK hg) hg hm
end
attribute [irreducible] wpC
end Go.Proofs.Ytogekloaijidhaa
