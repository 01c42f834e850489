/- Regions whose order is open and that end in stores into memory that was there: the loads come first, whatever the order. -/
import Derived.Test.YtogekloaijidhaaMore
import Derived.StillTail
namespace Go.Proofs.Ytogekloaijidhaa
open Go Go.RowKit

section
variable {P : Program} {ops : Array Oper} {Q : Exit → Act → World → Prop} {md : Region.Mode} {S : Array Bool → World → Prop}
/-- whatever order is picked from here on; S, which hangs on what has come up, holds behind each operation -/
def wpAnyS (P : Program) (md : Region.Mode) (ops : Array Oper) (Q : Exit → Act → World → Prop) (S : Array Bool → World → Prop) : Nat → Array Bool → Act → World → Prop
  | 0, listed, a, w => Region.ready md ops listed = [] ∧ Q .normal a w
  | fuel + 1, listed, a, w =>
    (Region.ready md ops listed = [] → Q .normal a w) ∧
    ∀ i ∈ Region.ready md ops listed, wpOp P ops Q i (fun a' w' => S (listed.setIfInBounds i true) w' ∧ wpAnyS P md ops Q S fuel (listed.setIfInBounds i true) a' w') a w
theorem wpAny_of_S : ∀ (fuel : Nat) (listed : Array Bool) (a : Act) (w : World), wpAnyS P md ops Q S fuel listed a w → wpAny P md ops Q fuel listed a w
  | 0, _, _, _, h => h
  | fuel + 1, _, _, _, h => ⟨h.1, fun i hi => wpOp_mono (fun a' w' h' => wpAny_of_S fuel _ a' w' h'.2) (h.2 i hi)⟩
/-- the worlds in which operation i may come up -/
def SU (S : Array Bool → World → Prop) (i : Nat) (w : World) : Prop := ∃ l : Array Bool, l.getD i true = false ∧ S l w
theorem wpAnyS_first {i : Nat} {oi : Oper} {v : Value} (hi : ops[i]? = some oi) (hsel : ∀ (j : Nat) (o : Oper) cs b, ops[j]? = some o → o.op ≠ .select cs b)
    (hQ : ∀ c a w, Q (.panic c) (a.put oi.dst v) w → Q (.panic c) a w) (hS1 : ∀ l w, i ∈ Region.ready md ops l → S l w → S (l.setIfInBounds i true) w)
    (hS2 : ∀ l j w w', j ≠ i → j ∈ Region.ready md ops l → S l w → S ((l.setIfInBounds j true).setIfInBounds i true) w' → S (l.setIfInBounds j true) w') :
    ∀ (fuel : Nat) (listed : Array Bool) (a : Act) (w : World),
      (∀ j oj, ops[j]? = some oj → j ≠ i → listed.getD j true = false → (∀ e ∈ oj.after, Region.binds md e = true → e.on ≠ i) → oi.apart ops oj = true) →
      i ∈ Region.ready md ops listed → YieldsIf P ops (SU S i) oi v a → S listed w →
      wpAnyS P md ops Q S fuel (listed.setIfInBounds i true) (a.put oi.dst v) w → wpAnyS P md ops Q S (fuel + 1) listed a w := by
  intro fuel
  induction fuel with
  | zero =>
    intro listed a w _ hr hy hS H
    refine ⟨fun h => (by rw [h] at hr; cases hr), fun j hj => ?_⟩
    by_cases hji : j = i
    · subst hji; exact hy.wpOp hi ⟨listed, (mem_ready.1 hr).1, hS⟩ ⟨hS1 _ _ hr hS, H⟩
    · have := ready_mono hj hji
      rw [H.1] at this
      cases this
  | succ fuel ih =>
    intro listed a w hfree hr hy hS H
    refine ⟨fun h => (by rw [h] at hr; cases hr), fun j hj => ?_⟩
    by_cases hji : j = i
    · subst hji; exact hy.wpOp hi ⟨listed, (mem_ready.1 hr).1, hS⟩ ⟨hS1 _ _ hr hS, H⟩
    · have h1 := H.2 j (ready_mono hj hji)
      obtain ⟨hjun, oj, hoj, hall⟩ := mem_ready.1 hj
      have hnot : ∀ e ∈ oj.after, Region.binds md e = true → e.on ≠ i := fun e he hb heq => by
        have h1 := hall e he hb
        have h0 := (mem_ready.1 hr).1
        rw [heq] at h1
        rcases Nat.lt_or_ge i listed.size with h' | h'
        · simp [h'] at h0 h1; rw [h0] at h1; cases h1
        · simp [Array.getElem?_eq_none h'] at h1
      have h2 := wpOp_putIf hoj (hfree j oj hoj hji hjun hnot) (fun cs b => hsel i oi cs b hi) (fun cs b => hsel j oj cs b hoj) hQ hy h1
      have hfree' : ∀ k ok, ops[k]? = some ok → k ≠ i → (listed.setIfInBounds j true).getD k true = false →
          (∀ e ∈ ok.after, Region.binds md e = true → e.on ≠ i) → oi.apart ops ok = true := fun k ok hk hki hun hno => by
        refine hfree k ok hk hki ?_ hno
        by_cases hjk : j = k
        · subst hjk; exact hjun
        · rw [getD_set_ne true hjk] at hun; exact hun
      refine wpOp_mono (fun a' w' h3 => ?_) h2
      have hS' : S (listed.setIfInBounds j true) w' := by
        have := h3.2.1
        rw [Array.setIfInBounds_comm _ _ (Ne.symm hji)] at this
        exact hS2 _ _ _ _ hji hj hS this
      refine ⟨hS', ih (listed.setIfInBounds j true) a' w' hfree' (ready_mono hr (Ne.symm hji)) h3.1 hS' ?_⟩
      rw [Array.setIfInBounds_comm _ _ hji]
      exact h3.2.2
end

section
variable (P : Program) (ops : Array Oper) (W : World) (Q : Exit → Act → World → Prop) (St : List Nat)
/-- as long as no store has come up, what was there is as it was -/
def Till (l : Array Bool) (w : World) : Prop := (∀ j ∈ St, l.getD j false = false) → Grow W w
def efStepS (i : Nat) (K : Act → World → Prop) (a : Act) (w : World) : Prop :=
  match ops[i]? with
  | none => False
  | some o => if Region.wanted o (yielded ops a.tmps) then o.wp P a w (fun a' w' => (i ∈ St ∨ Grow W w') ∧ K a' w') (NoPanic Q) else (i ∈ St ∨ Grow W w) ∧ K (a.put o.dst undef) w
def wpS : Ord → Act → World → Prop
  | .done, a, w => Q .normal a w
  | .rd i r, a, w => rdStep P ops W i (fun a' => wpS r a' w) a
  | .alt i r m, a, w => efStepS P ops W Q St i (wpS r) a w ∧ wpS m a w
  | .stop, _, _ => True
/-- the stores wait for the loads; no reading is a store -/
def stOk : Bool := St.all (fun j => decide (j < ops.size) && (List.range ops.size).all fun i => match ops[i]?, ops[j]? with
  | some oi, some oj => !(match oi.op with | .load _ _ => true | _ => false) || oj.after.any (fun e => Region.binds .any e && e.on == i)
  | _, _ => false)
def Ord.noRd (St : List Nat) : Ord → Bool
  | .done => true
  | .rd i r => !St.contains i && r.noRd St
  | .alt _ r m => r.noRd St && m.noRd St
  | .stop => true
/-- what has come up is closed under what it waits for -/
def Closed (l : Array Bool) : Prop := l.size = ops.size ∧ ∀ j oj, ops[j]? = some oj → l.getD j false = true → ∀ e ∈ oj.after, Region.binds .any e = true → l.getD e.on false = true
end
section
variable {P : Program} {ops : Array Oper} {W : World} {Q : Exit → Act → World → Prop} {St : List Nat}
theorem Closed.set {i : Nat} {l : Array Bool} (inv : Closed ops l) (hi : i ∈ Region.ready .any ops l) : Closed ops (l.setIfInBounds i true) := by
  obtain ⟨_, oi, hoi, hall⟩ := mem_ready.1 hi
  refine ⟨by simp [inv.1], fun j oj hj hl e he hb => ?_⟩
  by_cases hij : i = j
  · subst hij
    have : oj = oi := Option.some.inj (hj.symm.trans hoi)
    subst this
    exact getD_set_true (hall e he hb)
  · rw [getD_set_ne false hij] at hl
    exact getD_set_true (inv.2 j oj hj hl e he hb)
theorem wpS_heads : ∀ (t : Ord) (a : Act) (w : World) (l : Array Bool), t.ok ops l false = true → t.noRd St = true → wpS P ops W Q St t a w → ∀ i ∈ t.heads, ∃ r, r.depth + 1 ≤ t.depth ∧ r.noRd St = true ∧ r.ok ops (l.setIfInBounds i true) true = true ∧ efStepS P ops W Q St i (wpS P ops W Q St r) a w
  | .done, _, _, _, _, _, _ => by intro i hi; cases hi
  | .rd _ _, _, _, _, _, _, _ => by intro i hi; cases hi
  | .stop, _, _, _, _, _, _ => by intro i hi; cases hi
  | .alt j r m, a, w, l, hB, hN, h => by
    intro i hi
    simp only [Ord.ok, Bool.and_eq_true] at hB
    simp only [Ord.noRd, Bool.and_eq_true] at hN
    simp only [wpS] at h
    rcases List.mem_cons.1 hi with rfl | hi
    · exact ⟨r, by simp only [Ord.depth]; omega, hN.1, hB.1.2, h.1⟩
    · obtain ⟨r', hd, hn, ho, he⟩ := wpS_heads m a w l hB.2 hN.2 h.2 i hi
      exact ⟨r', by simp only [Ord.depth]; omega, hn, ho, he⟩
theorem Till.set_other {i : Nat} (hi : i ∉ St) (l : Array Bool) (w : World) : Till W St (l.setIfInBounds i true) w ↔ Till W St l w := by
  have hne : ∀ j ∈ St, i ≠ j := fun j hj e => hi (by rw [e]; exact hj)
  unfold Till
  constructor
  · intro h hl
    exact h fun j hj => by rw [getD_set_ne false (hne j hj)]; exact hl j hj
  · intro h hl
    exact h fun j hj => by
      have := hl j hj
      rwa [getD_set_ne false (hne j hj)] at this
/-- closed, and till a store comes up, grown -/
def Cls (ops : Array Oper) (W : World) (St : List Nat) (l : Array Bool) (w : World) : Prop := Closed ops l ∧ Till W St l w
theorem Cls.load {i : Nat} {o : Oper} {t : TypeId} {x : Operand} (hst : stOk ops St = true) (ho : ops[i]? = some o) (hl : o.op = .load t x) {w : World} (h : SU (Cls ops W St) i w) : Grow W w := by
  obtain ⟨l, hu, hc, ht⟩ := h
  refine ht fun j hj => ?_
  have h1 := List.all_eq_true.1 hst j hj
  simp only [Bool.and_eq_true, decide_eq_true_eq] at h1
  obtain ⟨hjs, h1⟩ := h1
  have h2 := List.all_eq_true.1 h1 i (List.mem_range.2 (Array.getElem?_eq_some_iff.1 ho).1)
  simp only [ho, Array.getElem?_eq_getElem hjs, hl, Bool.not_true, Bool.false_or] at h2
  obtain ⟨e, he, hb⟩ := Array.any_eq_true'.1 h2
  simp only [Bool.and_eq_true, beq_iff_eq] at hb
  cases hlj : l.getD j false with
  | false => rfl
  | true =>
    have h3 := hc.2 j _ (Array.getElem?_eq_getElem hjs) hlj e he hb.1
    rw [hb.2, getD_both hu] at h3
    cases h3
theorem wpS_any (hs : Region.noSelect ops = true) (hst : stOk ops St = true) : ∀ (f : Nat) (t : Ord) (l : Array Bool) (a : Act) (w : World), t.depth ≤ f → t.ok ops l true = true → t.noRd St = true → Cls ops W St l w → wpS P ops W Q St t a w →
    wpAnyS P .any ops (NoPanic Q) (Cls ops W St) f l a w := by
  have hS2 : ∀ (i : Nat), i ∉ St → ∀ l j w w', j ≠ i → j ∈ Region.ready .any ops l → Cls ops W St l w → Cls ops W St ((l.setIfInBounds j true).setIfInBounds i true) w' → Cls ops W St (l.setIfInBounds j true) w' :=
    fun i hi l j w w' _ hj hc hc' => ⟨hc.1.set hj, (Till.set_other hi _ _).1 hc'.2⟩
  have hS1 : ∀ (i : Nat), i ∉ St → ∀ l w, i ∈ Region.ready .any ops l → Cls ops W St l w → Cls ops W St (l.setIfInBounds i true) w :=
    fun i hi l w hr hc => ⟨hc.1.set hr, (Till.set_other hi _ _).2 hc.2⟩
  intro f
  induction f with
  | zero =>
    intro t l a w hd hB hN hg h
    cases t with
    | done => simp only [Ord.ok, Bool.true_and] at hB; exact ⟨by simpa using hB, h⟩
    | rd i r => simp [Ord.depth] at hd
    | alt i r m => simp only [Ord.depth] at hd; omega
    | stop => simp [Ord.ok] at hB
  | succ f ih =>
    intro t l a w hd hB hN hg h
    cases t with
    | done =>
      simp only [Ord.ok, Bool.true_and] at hB
      have he : Region.ready .any ops l = [] := by simpa using hB
      refine ⟨fun _ => h, fun i hi => ?_⟩
      rw [he] at hi; cases hi
    | stop => simp [Ord.ok] at hB
    | rd i r =>
      simp only [Ord.ok, Bool.true_and, Bool.and_eq_true] at hB
      simp only [Ord.noRd, Bool.and_eq_true, Bool.not_eq_true', List.contains_eq_mem, decide_eq_false_iff_not] at hN
      simp only [Ord.depth] at hd
      simp only [wpS, rdStep] at h
      have hrd : i ∈ Region.ready .any ops l := by simpa using hB.1.1
      cases ho : ops[i]? with
      | none => simp [ho] at h
      | some o =>
        simp only [ho] at h
        have hfree := Region.free_spec ho hB.1.2
        by_cases hw : Region.wanted o (yielded ops a.tmps) = true
        · simp only [hw, if_true] at h
          obtain ⟨v, hv, hK⟩ := h
          have hy : YieldsIf P ops (SU (Cls ops W St) i) o v a := Or.inl ⟨hw, fun w' hw' => by
            unfold Reads at hv
            split at hv
            · rename_i t x hop
              exact Reads.run (Cls.load hst ho hop hw') (by unfold Reads; rw [hop]; exact hv)
            · exact hv w'⟩
          exact wpAnyS_first ho (Region.noSelect_spec hs) (fun c a w h => h) (hS1 i hN.1) (hS2 i hN.1) f l a w hfree hrd hy hg (ih r _ _ w (by omega) hB.2 hN.2 (hS1 i hN.1 _ _ hrd hg) hK)
        · simp only [hw] at h
          have hy : YieldsIf P ops (SU (Cls ops W St) i) o undef a := Or.inr ⟨by simpa using hw, rfl⟩
          exact wpAnyS_first ho (Region.noSelect_spec hs) (fun c a w h => h) (hS1 i hN.1) (hS2 i hN.1) f l a w hfree hrd hy hg (ih r _ _ w (by omega) hB.2 hN.2 (hS1 i hN.1 _ _ hrd hg) h)
    | alt i r m =>
      simp only [Ord.ok, Bool.not_true, Bool.false_or, Bool.and_eq_true, decide_eq_true_eq] at hB
      have hB2 : (Ord.alt i r m).ok ops l false = true := by
        simp only [Ord.ok, Bool.not_false, Bool.true_or, Bool.true_and, Bool.and_eq_true]; exact ⟨hB.1.2, hB.2⟩
      have hall : ∀ j ∈ Region.ready .any ops l, wpOp P ops (NoPanic Q) j (fun a' w' => Cls ops W St (l.setIfInBounds j true) w' ∧ wpAnyS P .any ops (NoPanic Q) (Cls ops W St) f (l.setIfInBounds j true) a' w') a w := by
        rw [← hB.1.1]
        intro j hj
        have hrd : j ∈ Region.ready .any ops l := by rw [← hB.1.1]; exact hj
        obtain ⟨r', hd', hn', hok, he⟩ := wpS_heads (.alt i r m) a w l hB2 hN h j hj
        have hcls : ∀ w', (j ∈ St ∨ Grow W w') → Cls ops W St (l.setIfInBounds j true) w' := fun w' h' => ⟨hg.1.set hrd, fun hl => by
          rcases h' with h' | h'
          · have := hl j h'
            have hlt : j < l.size := by rw [hg.1.1]; obtain ⟨_, o, ho, _⟩ := mem_ready.1 hrd; exact (Array.getElem?_eq_some_iff.1 ho).1
            simp [hlt] at this
          · exact h'⟩
        unfold efStepS at he
        unfold wpOp
        cases ho : ops[j]? with
        | none => simp [ho] at he
        | some o =>
          simp only [ho] at he ⊢
          by_cases hw : Region.wanted o (yielded ops a.tmps) = true
          · simp only [hw, if_true] at he ⊢
            exact .inl (Oper.wp_mono (fun a' w' h' => ⟨hcls _ h'.1, ih r' _ _ _ (by omega) hok hn' (hcls _ h'.1) h'.2⟩) he)
          · simp only [hw] at he ⊢
            exact ⟨hcls _ he.1, ih r' _ _ _ (by omega) hok hn' (hcls _ he.1) he.2⟩
      refine ⟨fun h0 => ?_, hall⟩
      rw [h0] at hB
      exact absurd hB.1.1 (by simp)
def Ord.fitsS (ops : Array Oper) (St : List Nat) (t : Ord) : Bool := t.fits ops && stOk ops St && t.noRd St
/-- a region whose order is open and that ends in stores -/
theorem wp_region_ordS {id : Nat} {a : Act} {w : World} (St : List Nat) (t : Ord) (hm : P.follows .mixedOrders = true) (hB : t.fitsS ops St = true) (h : wpS P ops w Q St t a w.drew) : (Code.region id ops true).wp P Q a w := by
  simp only [Ord.fitsS, Ord.fits, Bool.and_eq_true, decide_eq_true_eq] at hB
  refine wp_region_noPanic (wp_region_any hm (wpAny_of_S _ _ _ _ (S := Cls ops w St) ?_))
  refine wpS_any hB.1.1.1.1 hB.1.2 ops.size t _ a w.drew hB.1.1.1.2 hB.1.1.2 hB.2 ⟨⟨by simp, fun j oj _ hl => ?_⟩, fun _ => (Grow.refl w).drew⟩ h
  rw [getD_replicate_false] at hl
  cases hl
theorem wpS_rd {i : Nat} {r : Ord} {o : Oper} {a : Act} {w : World} (ho : ops[i]? = some o)
    (h : ∀ K : Act → Prop, (∀ a, wpS P ops W Q St r a w → K a) → if Region.wanted o (yielded ops a.tmps) then ∃ v, Reads P W a v o ∧ K (a.put o.dst v) else K (a.put o.dst undef)) : wpS P ops W Q St (.rd i r) a w := by
  have := h _ (fun _ h => h)
  simp only [wpS, rdStep, ho]
  exact this
/-- carried out, and what was there stays -/
theorem wpS_ef {i : Nat} {r m : Ord} {o : Oper} {a : Act} {w : World} (ho : ops[i]? = some o)
    (h : ∀ K : Act → World → Prop, (∀ a w, Grow W w ∧ wpS P ops W Q St r a w → K a w) → Grow W w → if Region.wanted o (yielded ops a.tmps) then o.wp P a w K (NoPanic Q) else K (a.put o.dst undef) w) (hg : Grow W w) (hm : wpS P ops W Q St m a w) : wpS P ops W Q St (.alt i r m) a w := by
  have := h (fun a w => (i ∈ St ∨ Grow W w) ∧ wpS P ops W Q St r a w) (fun _ _ h => ⟨.inr h.1, h.2⟩) hg
  simp only [wpS, efStepS, ho]
  refine ⟨?_, hm⟩
  split
  · rename_i hw; rw [if_pos hw] at this; exact this
  · rename_i hw; rw [if_neg hw] at this; exact this
/-- a store -/
theorem wpS_st {i : Nat} {r m : Ord} {o : Oper} {a : Act} {w : World} (ho : ops[i]? = some o) (hi : St.contains i = true)
    (h : ∀ K : Act → World → Prop, (∀ a w, wpS P ops W Q St r a w → K a w) → if Region.wanted o (yielded ops a.tmps) then o.wp P a w K (NoPanic Q) else K (a.put o.dst undef) w) (hm : wpS P ops W Q St m a w) : wpS P ops W Q St (.alt i r m) a w := by
  have hi' : i ∈ St := by simpa using hi
  have := h (fun a w => (i ∈ St ∨ Grow W w) ∧ wpS P ops W Q St r a w) (fun _ _ h => ⟨.inl hi', h⟩)
  simp only [wpS, efStepS, ho]
  refine ⟨?_, hm⟩
  split
  · rename_i hw; rw [if_pos hw] at this; exact this
  · rename_i hw; rw [if_neg hw] at this; exact this
theorem wpS_rdy {i : Nat} {r : Ord} {o : Oper} {a : Act} {w : World} (ho : (ops.toList.drop i).head? = some o) (hy : Region.wanted o (yielded ops a.tmps) = true)
    (h : ∀ K : Act → Prop, (∀ a, wpS P ops W Q St r a w → K a) → ∃ v, Reads P W a v o ∧ K (a.put o.dst v)) : wpS P ops W Q St (.rd i r) a w :=
  wpS_rd (op_at ho) fun K hK => by rw [if_pos hy]; exact h K hK
theorem wpS_rdn {i : Nat} {r : Ord} {o : Oper} {a : Act} {w : World} (ho : (ops.toList.drop i).head? = some o) (hy : Region.wanted o (yielded ops a.tmps) = false)
    (h : ∀ K : Act → Prop, (∀ a, wpS P ops W Q St r a w → K a) → K (a.put o.dst undef)) : wpS P ops W Q St (.rd i r) a w :=
  wpS_rd (op_at ho) fun K hK => by rw [if_neg (by rw [hy]; exact Bool.false_ne_true)]; exact h K hK
theorem wpS_efy {i : Nat} {r m : Ord} {o : Oper} {a : Act} {w : World} (ho : (ops.toList.drop i).head? = some o) (hy : Region.wanted o (yielded ops a.tmps) = true)
    (h : ∀ K : Act → World → Prop, (∀ a w, Grow W w ∧ wpS P ops W Q St r a w → K a w) → Grow W w → o.wp P a w K (NoPanic Q)) (hg : Grow W w) (hm : wpS P ops W Q St m a w) : wpS P ops W Q St (.alt i r m) a w :=
  wpS_ef (op_at ho) (fun K hK hg => by rw [if_pos hy]; exact h K hK hg) hg hm
theorem wpS_sty {i : Nat} {r m : Ord} {o : Oper} {a : Act} {w : World} (ho : (ops.toList.drop i).head? = some o) (hi : St.contains i = true) (hy : Region.wanted o (yielded ops a.tmps) = true)
    (h : ∀ K : Act → World → Prop, (∀ a w, wpS P ops W Q St r a w → K a w) → o.wp P a w K (NoPanic Q)) (hm : wpS P ops W Q St m a w) : wpS P ops W Q St (.alt i r m) a w :=
  wpS_st (op_at ho) hi (fun K hK => by rw [if_pos hy]; exact h K hK) hm
theorem wpS_done {a : Act} {w : World} (h : Q .normal a w) : wpS P ops W Q St .done a w := h
theorem wpS_stop {a : Act} {w : World} : wpS P ops W Q St .stop a w := trivial
end
attribute [irreducible] wpS
end Go.Proofs.Ytogekloaijidhaa
