/- Words on memory for this seat's walks: cells put at a place of a block, a world that has grown, regions whose order is open. No program is named here. -/
import Derived.WalkKit
import Derived.WalkSpells
import Derived.WalkLawsBesides
import Derived.Deep.Draws
import Derived.OrdersHeld
import Derived.Deep.RegionHeld3
import Derived.Lib.Hide
namespace Go.Proofs.Ytogekloaijidhaa
open Go Go.RowKit

/-- l written over c from o on -/
def overL (c : List Value) (o : Nat) (l : List Value) : List Value := c.take o ++ l ++ c.drop (o + l.length)
def putObj (o : Nat) (l : List Value) : Obj → Obj
  | .cells c T fr => .cells (overL c.toList o l).toArray T fr
  | x => x
/-- the cells l at block b from o on -/
def put (w : World) (b o : Nat) (l : List Value) : World := { w with heap := w.heap.modify b (putObj o l) }
/-- there are n writable cells at block b from o on -/
def Fit (w : World) (b o n : Nat) : Prop := ∃ c T, w.heap[b]? = some (.cells c T (0, 0)) ∧ o + n ≤ c.size

theorem overL_length {c l : List Value} {o : Nat} (h : o + l.length ≤ c.length) : (overL c o l).length = c.length := by
  simp only [overL, List.length_append, List.length_take, List.length_drop]; omega
theorem overL_get {c l : List Value} {o k : Nat} (h : o + l.length ≤ c.length) (hk : k < l.length) : (overL c o l)[o + k]? = l[k]? := by
  have h1 : (c.take o).length = o := by simp; omega
  unfold overL
  rw [List.append_assoc, List.getElem?_append_right (by omega), h1, List.getElem?_append_left (by omega)]
  congr 1; omega
theorem overL_low {c l : List Value} {o k : Nat} (h : o + l.length ≤ c.length) (hk : k < o) : (overL c o l)[k]? = c[k]? := by
  have h1 : (c.take o).length = o := by simp; omega
  unfold overL
  rw [List.append_assoc, List.getElem?_append_left (by omega), List.getElem?_take_of_lt hk]
theorem overL_high {c l : List Value} {o k : Nat} (h : o + l.length ≤ c.length) (hk : o + l.length ≤ k) : (overL c o l)[k]? = c[k]? := by
  have h1 : (c.take o ++ l).length = o + l.length := by simp; omega
  unfold overL
  rw [List.getElem?_append_right (by omega), h1, List.getElem?_drop]
  congr 1; omega
theorem overL_overL {c l m : List Value} {o : Nat} (h : o + l.length ≤ c.length) (hl : l.length = m.length) : overL (overL c o l) o m = overL c o m := by
  have h1 : (c.take o).length = o := by simp; omega
  have e1 : (overL c o l).take o = c.take o := by
    unfold overL; rw [List.append_assoc, List.take_append_of_le_length (by omega), List.take_of_length_le (by omega)]
  have e2 : (overL c o l).drop (o + m.length) = c.drop (o + m.length) := by
    unfold overL; rw [← hl, List.drop_append_of_le_length (by simp; omega), List.drop_of_length_le (by simp; omega)]; simp
  unfold overL at *
  rw [e1, e2]
theorem overL_set {c l : List Value} {o k : Nat} (h : o + l.length ≤ c.length) (hk : k < l.length) (v : Value) : (overL c o l).set (o + k) v = overL c o (l.set k v) := by
  have h1 : (c.take o).length = o := by simp; omega
  unfold overL
  rw [List.append_assoc, List.set_append_right _ _ (by omega), h1, Nat.add_sub_cancel_left, List.set_append_left _ _ hk, ← List.append_assoc, List.length_set]
theorem overL_self {c l : List Value} {o : Nat} (h : o + l.length ≤ c.length) (hc : ∀ k, k < l.length → c[o + k]? = l[k]?) : overL c o l = c := by
  apply List.ext_getElem?
  intro i
  rcases Nat.lt_or_ge i o with h1 | h1
  · exact overL_low h h1
  · rcases Nat.lt_or_ge i (o + l.length) with h2 | h2
    · have := hc (i - o) (by omega)
      have h3 := overL_get (k := i - o) h (by omega)
      rw [show o + (i - o) = i by omega] at this h3
      rw [h3, this]
    · exact overL_high h h2

theorem put_heap {w : World} {b o : Nat} {l : List Value} {c : Array Value} {T : TypeId} {fr : Nat × Nat} (h : w.heap[b]? = some (.cells c T fr)) :
    (put w b o l).heap[b]? = some (.cells (overL c.toList o l).toArray T fr) := by
  simp [put, Array.getElem?_modify, h, putObj]
theorem put_other {w : World} {b b' o : Nat} {l : List Value} (h : b' ≠ b) : (put w b o l).heap[b']? = w.heap[b']? := by
  simp [put, Array.getElem?_modify, Ne.symm h]
@[simp, go_sem] theorem put_size {w : World} {b o : Nat} {l : List Value} : (put w b o l).heap.size = w.heap.size := by simp [put]
@[simp, go_sem] theorem put_drew {w : World} {b o : Nat} {l : List Value} : (put w b o l).drew = put w.drew b o l := rfl
@[simp, go_sem] theorem put_drewN {w : World} {b o n : Nat} {l : List Value} : (put w b o l).drewN n = put (w.drewN n) b o l := rfl
@[simp, go_sem] theorem Fit.drew {w : World} {b o n : Nat} : Fit w.drew b o n ↔ Fit w b o n := ⟨fun h => h, fun h => h⟩
@[simp, go_sem] theorem Fit.drewN {w : World} {b o n m : Nat} : Fit (w.drewN m) b o n ↔ Fit w b o n := ⟨fun h => h, fun h => h⟩
theorem Fit.lt {w : World} {b o n : Nat} (h : Fit w b o n) : b < w.heap.size := by
  obtain ⟨c, T, hb, _⟩ := h
  exact (Array.getElem?_eq_some_iff.1 hb).1
theorem Fit.put {w : World} {b o n b' o' : Nat} {l : List Value} (h : Fit w b o n) (hl : Fit w b' o' l.length) : Fit (put w b' o' l) b o n := by
  obtain ⟨c, T, hb, hc⟩ := h
  by_cases e : b = b'
  · subst e
    obtain ⟨c', T', hb', hc'⟩ := hl
    rw [hb] at hb'
    injection hb' with hb'; injection hb' with e1 e2; subst e1
    exact ⟨_, T, put_heap hb, by rw [List.size_toArray, overL_length (by simpa using hc')]; simpa using hc⟩
  · exact ⟨c, T, by rw [put_other e]; exact hb, hc⟩
theorem put_cell {w : World} {b o k n : Nat} {l : List Value} (h : Fit w b o n) (hn : l.length = n) (hk : k < n) : (put w b o l).cell? ⟨b, o + k, none⟩ = l[k]? := by
  obtain ⟨c, T, hb, hc⟩ := h
  simp only [World.cell?, put_heap hb, Option.isSome_none, Bool.false_eq_true, if_false]
  rw [List.getElem?_toArray, overL_get (by simpa [hn] using hc) (by omega)]
theorem put_cell_other {w : World} {b o : Nat} {l : List Value} {a : Addr} (h : a.block ≠ b) : (put w b o l).cell? a = w.cell? a := by
  simp [World.cell?, put_other h]
theorem put_frozen_other {w : World} {b o : Nat} {l : List Value} {a : Addr} (h : a.block ≠ b) : (put w b o l).frozen? a = w.frozen? a := by
  simp [World.frozen?, put_other h]
theorem put_frozen {w : World} {b o k n : Nat} {l : List Value} (h : Fit w b o n) : (put w b o l).frozen? ⟨b, k, none⟩ = false := by
  obtain ⟨c, T, hb, hc⟩ := h
  simp [World.frozen?, put_heap hb]
theorem put_setCell {w : World} {b o k n : Nat} {l : List Value} (h : Fit w b o n) (hn : l.length = n) (hk : k < n) (v : Value) : (put w b o l).setCell ⟨b, o + k, none⟩ v = put w b o (l.set k v) := by
  obtain ⟨c, T, hb, hc⟩ := h
  unfold World.setCell put
  congr 1
  apply Array.ext
  · simp
  · intro i h1 h2
    simp only [Array.getElem_modify]
    split
    · rename_i hk
      subst hk
      have : w.heap[b]'(by simpa using h1) = .cells c T (0, 0) := (Array.getElem?_eq_some_iff.1 hb).2
      simp [this, putObj, overL_set (c := c.toList) (l := l) (o := o) (k := k) (by simpa [hn] using hc) (by omega)]
    · rfl
theorem put_setCell_other {w : World} {b o : Nat} {l : List Value} {a : Addr} {v : Value} (h : a.block ≠ b) : (put w b o l).setCell a v = put (w.setCell a v) b o l := by
  unfold World.setCell put
  congr 1
  apply Array.ext
  · simp
  · intro i h1 h2
    simp only [Array.getElem_modify]
    by_cases e1 : a.block = i
    · have e2 : ¬ b = i := fun e => h (e1.trans e.symm)
      simp only [e1, e2, if_true, if_false]
    · simp only [e1, if_false]
theorem put_put {w : World} {b o : Nat} {l m : List Value} (h : Fit w b o l.length) (hl : l.length = m.length) : put (put w b o l) b o m = put w b o m := by
  obtain ⟨c, T, hb, hc⟩ := h
  unfold put
  congr 1
  apply Array.ext
  · simp
  · intro i h1 h2
    simp only [Array.getElem_modify]
    split
    · rename_i hk
      subst hk
      have : w.heap[b]'(by simpa using h1) = .cells c T (0, 0) := (Array.getElem?_eq_some_iff.1 hb).2
      simp [this, putObj, overL_overL (c := c.toList) (l := l) (m := m) (o := o) (by simpa using hc) hl]
    · rfl
theorem put_comm {w : World} {b o b' o' : Nat} {l m : List Value} (h : b ≠ b') : put (put w b o l) b' o' m = put (put w b' o' m) b o l := by
  unfold put
  congr 1
  apply Array.ext
  · simp
  · intro i h1 h2
    simp only [Array.getElem_modify]
    by_cases e1 : b = i
    · have e2 : ¬ b' = i := fun e => h (e1.trans e.symm)
      simp only [e1, e2, if_true, if_false]
    · simp only [e1, if_false]
/-- l stands at block b from o on -/
def At (w : World) (b o : Nat) (l : List Value) : Prop := ∃ c T, w.heap[b]? = some (.cells c T (0, 0)) ∧ o + l.length ≤ c.size ∧ ∀ k, k < l.length → c[o + k]? = l[k]?
@[simp, go_sem] theorem At.drew {w : World} {b o : Nat} {l : List Value} : At w.drew b o l ↔ At w b o l := ⟨fun h => h, fun h => h⟩
@[simp, go_sem] theorem At.drewN {w : World} {b o n : Nat} {l : List Value} : At (w.drewN n) b o l ↔ At w b o l := ⟨fun h => h, fun h => h⟩
theorem At.fit {w : World} {b o : Nat} {l : List Value} (h : At w b o l) : Fit w b o l.length := by
  obtain ⟨c, T, hb, hc, _⟩ := h; exact ⟨c, T, hb, hc⟩
theorem At.put_self {w : World} {b o : Nat} {l : List Value} (h : At w b o l) : put w b o l = w := by
  obtain ⟨c, T, hb, hc, hk⟩ := h
  have e : overL c.toList o l = c.toList := overL_self (by simpa using hc) (by simpa using hk)
  have hw : w = { w with heap := w.heap } := rfl
  conv => rhs; rw [hw]
  unfold put
  congr 1
  apply Array.ext
  · simp
  · intro i h1 h2
    simp only [Array.getElem_modify]
    split
    · rename_i hk
      subst hk
      have : w.heap[b]'(by simpa using h1) = .cells c T (0, 0) := (Array.getElem?_eq_some_iff.1 hb).2
      simp [this, putObj, e]
    · rfl
theorem At.of_put {w : World} {b o : Nat} {l : List Value} (h : Fit w b o l.length) : At (put w b o l) b o l := by
  obtain ⟨c, T, hb, hc⟩ := h
  refine ⟨_, T, put_heap hb, by rw [List.size_toArray, overL_length (by simpa using hc)]; simpa using hc, fun k hk => ?_⟩
  rw [List.getElem?_toArray, overL_get (by simpa using hc) hk]
theorem At.cell {w : World} {b o k : Nat} {l : List Value} (h : At w b o l) (hk : k < l.length) : w.cell? ⟨b, o + k, none⟩ = l[k]? := by
  obtain ⟨c, T, hb, hc, hl⟩ := h
  simp [World.cell?, hb, hl k hk]
theorem At.sub {w : World} {b o k : Nat} {l m : List Value} (h : At w b o l) (hm : (l.drop k).take m.length = m) (hk : k + m.length ≤ l.length) : At w b (o + k) m := by
  obtain ⟨c, T, hb, hc, hl⟩ := h
  refine ⟨c, T, hb, by omega, fun j hj => ?_⟩
  rw [Nat.add_assoc, hl (k + j) (by omega), ← hm, List.getElem?_take_of_lt hj, List.getElem?_drop]
theorem At.put_other {w : World} {b o b' o' : Nat} {l m : List Value} (h : At w b o l) (hb : b ≠ b') : At (put w b' o' m) b o l := by
  obtain ⟨c, T, hb', r⟩ := h
  exact ⟨c, T, by rw [Ytogekloaijidhaa.put_other hb]; exact hb', r⟩

/-- w' is w, and more -/
def Grow (w w' : World) : Prop := Below w.heap.size w w'
theorem Grow.refl (w : World) : Grow w w := Below.refl _ _
theorem Grow.trans {a b c : World} (h : Grow a b) (h' : Grow b c) : Grow a c := Below.trans h (Below.mono h' h.size)
theorem Grow.drew {a w : World} (h : Grow a w) : Grow a w.drew := Below.drew h
theorem Grow.drewN {a w : World} (h : Grow a w) (n : Nat) : Grow a (w.drewN n) := ⟨h.os, h.tape, h.output, h.size, h.block⟩
theorem Grow.alloc {a w : World} (h : Grow a w) (o : Obj) : Grow a (w.alloc o) := Below.alloc h h.size o
theorem Grow.cell {a w : World} (h : Grow a w) {p : Addr} {v : Value} (hv : a.cell? p = some v) : w.cell? p = some v := by
  have hb : p.block < a.heap.size := block_lt_of_cell hv
  rw [Below.cell h hb]; exact hv
theorem Grow.size {a w : World} (h : Grow a w) : a.heap.size ≤ w.heap.size := Below.size h
theorem Grow.heap {a w : World} (h : Grow a w) {b : Nat} {o : Obj} (hb : a.heap[b]? = some o) : w.heap[b]? = some o := by
  have : b < a.heap.size := by
    rcases Nat.lt_or_ge b a.heap.size with h | h
    · exact h
    · simp [Array.getElem?_eq_none h] at hb
  rw [Below.block h b this]; exact hb
theorem Grow.fit {a w : World} (h : Grow a w) {b o n : Nat} (hf : Fit a b o n) : Fit w b o n := by
  obtain ⟨c, T, hb, hc⟩ := hf
  exact ⟨c, T, h.heap hb, hc⟩
theorem Grow.at {a w : World} (h : Grow a w) {b o : Nat} {l : List Value} (hf : At a b o l) : At w b o l := by
  obtain ⟨c, T, hb, r⟩ := hf
  exact ⟨c, T, h.heap hb, r⟩
/-- a put at a block that is newer than a's -/
theorem Grow.put_new {a w : World} (h : Grow a w) {b o : Nat} {l : List Value} (hb : a.heap.size ≤ b) : Grow a (put w b o l) :=
  ⟨h.os, h.tape, h.output, by rw [put_size]; exact h.size, fun k hk => by rw [put_other (by omega)]; exact h.block k hk⟩
theorem Grow.put {a w : World} (h : Grow a w) {b o : Nat} {l : List Value} (hb : b < a.heap.size) : Grow (put a b o l) (put w b o l) := by
  refine ⟨h.os, h.tape, h.output, by rw [put_size, put_size]; exact h.size, fun k hk => ?_⟩
  rw [put_size] at hk
  by_cases e : k = b
  · subst e
    simp only [Ytogekloaijidhaa.put, Array.getElem?_modify, if_true]
    rw [h.block k hk]
  · rw [put_other e, put_other e]; exact h.block k hk
/-- what is grown out of a put is a put in what is grown -/
theorem Grow.unput {w w' : World} {b o : Nat} {l : List Value} (h : Grow (Ytogekloaijidhaa.put w b o l) w') (hf : Fit w b o l.length) : ∃ w1, Grow w w1 ∧ w' = Ytogekloaijidhaa.put w1 b o l := by
  obtain ⟨c, T, hb, hc⟩ := hf
  have hlt := (Array.getElem?_eq_some_iff.1 hb).1
  have hat : At w' b o l := h.at (At.of_put ⟨c, T, hb, hc⟩)
  let old : List Value := (c.toList.drop o).take l.length
  have hol : old.length = l.length := by simp [old]; omega
  have hA : At w b o old := ⟨c, T, hb, by omega, fun k hk => by
    rw [List.getElem?_take_of_lt (by omega), List.getElem?_drop]; simp⟩
  have hfit' : Fit w' b o old.length := by rw [hol]; exact hat.fit
  refine ⟨Ytogekloaijidhaa.put w' b o old, ?_, ?_⟩
  · refine ⟨h.os, h.tape, h.output, by rw [put_size]; simpa using h.size, fun k hk => ?_⟩
    by_cases e : k = b
    · subst e
      have h1 := h.block k (by rw [put_size]; exact hlt)
      have h2 : (Ytogekloaijidhaa.put w' k o old).heap[k]? = (Ytogekloaijidhaa.put (Ytogekloaijidhaa.put w k o l) k o old).heap[k]? := by
        simp only [Ytogekloaijidhaa.put, Array.getElem?_modify, if_true] at h1 ⊢
        rw [h1]
      rw [h2, put_put ⟨c, T, hb, hc⟩ hol.symm, hA.put_self]
    · rw [put_other e]
      have := h.block k (by rw [put_size]; exact hk)
      rw [this, put_other e]
  · rw [put_put (by rw [hol] at hfit' ⊢; exact hfit') hol]
    exact hat.put_self.symm
/-- a block that is made: put where nothing was -/
theorem alloc_put (w : World) (l : List Value) (T : TypeId) : ∃ w1, Grow w w1 ∧ Fit w1 w.heap.size 0 l.length ∧ w1.heap.size = w.heap.size + 1 ∧ w.alloc (.cells l.toArray T) = put w1 w.heap.size 0 l := by
  have hA : At (w.alloc (.cells l.toArray T)) w.heap.size 0 l := ⟨l.toArray, T, heap_alloc_new w _, by simp, fun k _ => by simp⟩
  exact ⟨_, (Grow.refl w).alloc _, hA.fit, by simp, hA.put_self.symm⟩

theorem At.alloc_new (w : World) (l : List Value) (T : TypeId) : At (w.alloc (.cells l.toArray T)) w.heap.size 0 l := ⟨l.toArray, T, heap_alloc_new w _, by simp, fun k _ => by simp⟩
theorem At.alloc {w : World} {b o : Nat} {l : List Value} (h : At w b o l) (x : Obj) : At (w.alloc x) b o l := ((Grow.refl w).alloc x).at h
theorem Grow.unalloc {w w' : World} {l : List Value} {T : TypeId} (h : Grow (w.alloc (.cells l.toArray T)) w') : ∃ w1, Grow w w1 ∧ Fit w1 w.heap.size 0 l.length ∧ w.heap.size < w1.heap.size ∧ w' = Ytogekloaijidhaa.put w1 w.heap.size 0 l := by
  have hA : At w' w.heap.size 0 l := h.at (At.alloc_new w l T)
  exact ⟨w', ((Grow.refl w).alloc _).trans h, hA.fit, by have := h.size; simp at this; omega, hA.put_self.symm⟩
/-- two blocks that are made -/
theorem alloc_put2 (w : World) (l1 l2 : List Value) (T1 T2 : TypeId) : ∃ w1, Grow w w1 ∧ Fit w1 w.heap.size 0 l1.length ∧ Fit w1 (w.heap.size + 1) 0 l2.length ∧ w1.heap.size = w.heap.size + 2 ∧
    (w.alloc (.cells l1.toArray T1)).alloc (.cells l2.toArray T2) = put (put w1 w.heap.size 0 l1) (w.heap.size + 1) 0 l2 := by
  have h1 : At ((w.alloc (.cells l1.toArray T1)).alloc (.cells l2.toArray T2)) w.heap.size 0 l1 := (At.alloc_new w l1 T1).alloc _
  have h2 : At ((w.alloc (.cells l1.toArray T1)).alloc (.cells l2.toArray T2)) (w.heap.size + 1) 0 l2 := by simpa using At.alloc_new (w.alloc (.cells l1.toArray T1)) l2 T2
  exact ⟨_, ((Grow.refl w).alloc _).alloc _, h1.fit, h2.fit, by simp, by rw [h1.put_self, h2.put_self]⟩
/-- three blocks that are made -/
theorem alloc_put3 (w : World) (l1 l2 l3 : List Value) (T1 T2 T3 : TypeId) : ∃ w1, Grow w w1 ∧ Fit w1 w.heap.size 0 l1.length ∧ Fit w1 (w.heap.size + 1) 0 l2.length ∧ Fit w1 (w.heap.size + 2) 0 l3.length ∧ w1.heap.size = w.heap.size + 3 ∧
    ((w.alloc (.cells l1.toArray T1)).alloc (.cells l2.toArray T2)).alloc (.cells l3.toArray T3) = put (put (put w1 w.heap.size 0 l1) (w.heap.size + 1) 0 l2) (w.heap.size + 2) 0 l3 := by
  have h1 : At (((w.alloc (.cells l1.toArray T1)).alloc (.cells l2.toArray T2)).alloc (.cells l3.toArray T3)) w.heap.size 0 l1 := ((At.alloc_new w l1 T1).alloc _).alloc _
  have h2 : At (((w.alloc (.cells l1.toArray T1)).alloc (.cells l2.toArray T2)).alloc (.cells l3.toArray T3)) (w.heap.size + 1) 0 l2 := by
    have := (At.alloc_new (w.alloc (.cells l1.toArray T1)) l2 T2).alloc (.cells l3.toArray T3)
    simpa using this
  have h3 : At (((w.alloc (.cells l1.toArray T1)).alloc (.cells l2.toArray T2)).alloc (.cells l3.toArray T3)) (w.heap.size + 2) 0 l3 := by
    have := At.alloc_new ((w.alloc (.cells l1.toArray T1)).alloc (.cells l2.toArray T2)) l3 T3
    simpa using this
  exact ⟨_, (((Grow.refl w).alloc _).alloc _).alloc _, h1.fit, h2.fit, h3.fit, by simp, by rw [h1.put_self, h2.put_self, h3.put_self]⟩

/-! ### Loads and stores of several cells -/
/-- what a load reads, cell by cell -/
def rdCells (w : World) (a : Addr) : Nat → Nat → Option (List Value)
  | _, 0 => some []
  | i, n + 1 => match w.cell? (a.add i), rdCells w a (i + 1) n with
    | some v, some l => some (v :: l)
    | _, _ => none
theorem run_rdCells (P : Program) (w : World) (a : Addr) : ∀ (n i : Nat) (l : List Value) (acc : Array Value), rdCells w a i n = some l → (loadCellsFrom a i n acc).run P w = .ok (acc ++ l.toArray) w
  | 0, i, l, acc, h => by
    simp only [rdCells, Option.some.injEq] at h
    subst h
    simp [loadCellsFrom]
  | n + 1, i, l, acc, h => by
    simp only [rdCells] at h
    split at h
    · rename_i v l' hv hl
      injection h with h
      subst h
      have ih := run_rdCells P w a n (i + 1) l' (acc.push v) hl
      simp [loadCellsFrom, hv, ih]
    · cases h
theorem rdCells_grow {w w' : World} (hg : Grow w w') (a : Addr) : ∀ (n i : Nat) (l : List Value), rdCells w a i n = some l → rdCells w' a i n = some l
  | 0, _, _, h => h
  | n + 1, i, l, h => by
    simp only [rdCells] at h ⊢
    split at h
    · rename_i v l' hv hl
      injection h with h
      subst h
      rw [hg.cell hv, rdCells_grow hg a n (i + 1) l' hl]
    · cases h
theorem rdCells_same {w w' : World} {a : Addr} (h : ∀ i, w'.cell? (a.add i) = w.cell? (a.add i)) : ∀ (n i : Nat), rdCells w' a i n = rdCells w a i n
  | 0, _ => rfl
  | n + 1, i => by simp only [rdCells, h i, rdCells_same h n (i + 1)]
theorem block_add (a : Addr) (i : Nat) : (a.add i).block = a.block := by unfold Addr.add; split <;> rfl
theorem rdCells_put_other {w : World} {b o n i : Nat} {l : List Value} {a : Addr} (h : a.block ≠ b) : rdCells (put w b o l) a i n = rdCells w a i n :=
  rdCells_same (fun i => put_cell_other (by rw [block_add]; exact h)) n i
theorem rdCells_at {w : World} {b o : Nat} {l : List Value} (h : At w b o l) : ∀ (n i : Nat) (m : List Value), i + n = l.length → m = l.drop i → rdCells w ⟨b, o, none⟩ i n = some m
  | 0, i, m, hn, hm => by simp [rdCells, hm, List.drop_of_length_le (show l.length ≤ i by omega)]
  | n + 1, i, m, hn, hm => by
    have hi : i < l.length := by omega
    simp only [rdCells, Addr.add_lit, h.cell hi, rdCells_at h n (i + 1) (l.drop (i + 1)) (by omega) rfl, List.getElem?_eq_getElem hi]
    rw [hm, List.drop_eq_getElem_cons hi]
theorem At.rd {w : World} {b o : Nat} {l : List Value} (h : At w b o l) : rdCells w ⟨b, o, none⟩ 0 l.length = some l := rdCells_at h _ 0 l (by simp) (by simp)
theorem rdCells_put {w : World} {b o n : Nat} {l : List Value} (h : Fit w b o n) (hn : l.length = n) : rdCells (put w b o l) ⟨b, o, none⟩ 0 n = some l := by
  subst hn; exact (At.of_put h).rd
theorem rdCells_put_sub {w : World} {b o n k m : Nat} {l s : List Value} (h : Fit w b o n) (hn : l.length = n) (hs : (l.drop k).take m = s) (hm : s.length = m) (hk : k + m ≤ n) : rdCells (put w b o l) ⟨b, o + k, none⟩ 0 m = some s := by
  subst hn; subst hm
  exact ((At.of_put h).sub hs hk).rd
@[go_sem] theorem rdCells_drew {w : World} {a : Addr} {i n : Nat} : rdCells w.drew a i n = rdCells w a i n := rdCells_same (w := w) (w' := w.drew) (fun _ => rfl) n i
@[go_sem] theorem rdCells_drewN {w : World} {a : Addr} {i n m : Nat} : rdCells (w.drewN m) a i n = rdCells w a i n := rdCells_same (w := w) (w' := w.drewN m) (fun _ => rfl) n i
theorem rdCells_alloc_new {w : World} {l : List Value} {T : TypeId} {b n : Nat} (hb : b = w.heap.size) (hn : l.length = n) : rdCells (w.alloc (.cells l.toArray T)) ⟨b, 0, none⟩ 0 n = some l := by
  subst hb; subst hn; exact (At.alloc_new w l T).rd
@[go_sem ↓] theorem rdCells_alloc_old {w : World} {x : Obj} {b o i n : Nat} (hb : b < w.heap.size) : rdCells (w.alloc x) ⟨b, o, none⟩ i n = rdCells w ⟨b, o, none⟩ i n :=
  rdCells_same (fun j => by rw [World.cell?_alloc_lt _ _ _ (by rw [block_add]; exact hb)]) n i
@[go_sem] theorem rdCells_alloc_new' {w : World} {l : List Value} {T : TypeId} {b n : Nat} (hb : b = w.heap.size) (hn : (l.length == n) = true) : rdCells (w.alloc (.cells l.toArray T)) ⟨b, 0, none⟩ 0 n = some l :=
  rdCells_alloc_new hb (by simpa using hn)
theorem At.sub_take {w : World} {b o k n : Nat} {l : List Value} (h : At w b o l) (hk : k + n ≤ l.length) : At w b (o + k) ((l.drop k).take n) :=
  h.sub (by rw [List.length_take, List.length_drop, Nat.min_eq_left (by omega)]) (by rw [List.length_take, List.length_drop]; omega)
@[go_sem] theorem rdCells_alloc_sub {w : World} {l : List Value} {T : TypeId} {b k n : Nat} (hb : b = w.heap.size) (hn : decide (k + n ≤ l.length) = true) : rdCells (w.alloc (.cells l.toArray T)) ⟨b, k, none⟩ 0 n = some ((l.drop k).take n) := by
  subst hb
  replace hn : k + n ≤ l.length := by simpa using hn
  have := ((At.alloc_new w l T).sub_take hn).rd
  rw [Nat.zero_add] at this
  rw [← this]
  congr 1
  rw [List.length_take, List.length_drop]; omega
/-- a load that is not known cell by cell -/
def loadSlow (P : Program) (a : Addr) (n : Nat) (w : World) : Result (Array Value) := (loadCellsFrom a 0 n #[]).run P w
@[go_sem ↓] theorem load_rd (P : Program) (a : Addr) (n : Nat) (w : World) : (loadCellsFrom a 0 n #[]).run P w = (match rdCells w a 0 n with | some l => .ok l.toArray w | none => loadSlow P a n w) := by
  cases h : rdCells w a 0 n with
  | none => rfl
  | some l => simpa using run_rdCells P w a n 0 l #[] h
@[go_sem ↓] theorem run_bind_pre {α β : Type} (P : Program) (m : Sem α) (f : α → Sem β) (w : World) : (m >>= f).run P w = (m.run P w).andThen fun a w' => (f a).run P w' := Sem.run_bind ..
/-- a store of several cells over cells that are there -/
def wrCells (w : World) (a : Addr) : Nat → List Value → Option World
  | _, [] => some w
  | i, v :: r => match w.cell? (a.add i) with
    | some _ => if w.frozen? (a.add i) = false ∧ v.oneCell' = true then wrCells (w.setCell (a.add i) v) a (i + 1) r else none
    | none => none
theorem run_wrCells (P : Program) (a : Addr) : ∀ (l : List Value) (w w' : World) (i : Nat), wrCells w a i l = some w' → (storeCells a l i).run P w = .ok () w'
  | [], w, w', i, h => by
    simp only [wrCells, Option.some.injEq] at h
    subst h
    simp [storeCells]
  | v :: l, w, w', i, h => by
    simp only [wrCells] at h
    split at h
    · rename_i u hu
      split at h
      · rename_i hc
        obtain ⟨hf, ho⟩ := hc
        have ih := run_wrCells P a l _ w' (i + 1) h
        simp only [storeCells, Sem.run_bind]
        have hst : (store (a.add i) v).run P w = .ok () (w.setCell (a.add i) v) := by
          cases v <;> first | (simp [Value.oneCell'] at ho; done) | simp [store, Sem.run, hu, hf]
        rw [hst]
        exact ih
      · cases h
    · cases h
theorem wrCells_put_from {b o n : Nat} {l : List Value} : ∀ (m : List Value) (w : World) (i : Nat) (c : List Value), Fit w b o n → c.length = n → i + m.length = n → (∀ v ∈ m, v.oneCell' = true) → l = c.take i ++ m →
    wrCells (put w b o c) ⟨b, o, none⟩ i m = some (put w b o l)
  | [], w, i, c, _, hc, hi, _, hl => by
    have : l = c := by rw [hl, List.append_nil, List.take_of_length_le (by simp at hi; omega)]
    simp [wrCells, this]
  | v :: m, w, i, c, hf, hc, hi, hv, hl => by
    have h1 : i < n := by simp at hi; omega
    have hcell : ∃ u, (put w b o c).cell? ⟨b, o + i, none⟩ = some u := by
      rw [put_cell hf hc h1]
      exact ⟨_, List.getElem?_eq_getElem (by omega)⟩
    obtain ⟨u, hu⟩ := hcell
    have ih := wrCells_put_from (b := b) (o := o) (n := n) (l := l) m w (i + 1) (c.set i v) hf (by simpa using hc) (by simp at hi ⊢; omega) (fun x hx => hv x (by simp [hx])) (by
      rw [hl, List.take_succ_eq_append_getElem (by simp; omega)]
      simp [List.take_set_of_le])
    simp only [wrCells, Addr.add_lit, hu, put_frozen hf, hv v (by simp), and_self, if_true, put_setCell hf hc h1]
    exact ih
theorem wrCells_put {w : World} {b o n : Nat} {c l : List Value} (hf : Fit w b o n) (hc : c.length = n) (hl : l.length = n) (hv : l.all Value.oneCell' = true) : wrCells (put w b o c) ⟨b, o, none⟩ 0 l = some (put w b o l) :=
  wrCells_put_from l w 0 c hf hc (by omega) (fun v h => List.all_eq_true.1 hv v h) (by simp)
theorem wrCells_put_sub {w : World} {b o n k m : Nat} {c l s : List Value} (hf : Fit w b o n) (hc : c.length = n) (hs : s.length = m) (hk : k + m ≤ n) (hv : s.all Value.oneCell' = true) (hl : l = c.take k ++ s ++ c.drop (k + m)) : wrCells (put w b o c) ⟨b, o + k, none⟩ 0 s = some (put w b o l) := by
  have hln : l.length = n := by rw [hl]; simp; omega
  have hf' : Fit w b (o + k) m := by obtain ⟨C, T, h1, h2⟩ := hf; exact ⟨C, T, h1, by omega⟩
  have hfc : Fit w b o c.length := by rw [hc]; exact hf
  have hfp : Fit (put w b o c) b (o + k) m := hf'.put hfc
  have e1 : put w b o c = put (put w b o c) b (o + k) ((c.drop k).take m) := by
    refine (At.put_self ?_).symm
    exact (At.of_put hfc).sub (by rw [List.length_take, List.length_drop, Nat.min_eq_left (by omega)]) (by rw [List.length_take, List.length_drop]; omega)
  have e2 : put (put w b o c) b (o + k) s = put w b o l := by
    obtain ⟨C, T, h1, h2⟩ := hf
    unfold put
    congr 1
    apply Array.ext
    · simp
    · intro i hi1 hi2
      simp only [Array.getElem_modify]
      split
      · rename_i hb
        subst hb
        have : w.heap[b]'(by simpa using hi1) = .cells C T (0, 0) := (Array.getElem?_eq_some_iff.1 h1).2
        simp only [this, putObj]
        congr 2
        apply List.ext_getElem?
        intro j
        have hC : o + c.length ≤ C.toList.length := by simpa [hc] using h2
        have hC' : o + k + s.length ≤ (overL C.toList o c).length := by rw [overL_length hC]; simp; omega
        have hL : o + l.length ≤ C.toList.length := by rw [hln]; simpa using h2
        rcases Nat.lt_or_ge j o with h | h
        · rw [overL_low hC' (by omega), overL_low hC h, overL_low hL h]
        · rcases Nat.lt_or_ge j (o + n) with h' | h'
          · obtain ⟨q, rfl⟩ : ∃ q, j = o + q := ⟨j - o, by omega⟩
            rw [overL_get (c := C.toList) (l := l) hL (by omega)]
            rcases Nat.lt_or_ge q k with h3 | h3
            · rw [overL_low hC' (by omega), overL_get hC (by omega), hl, List.append_assoc, List.getElem?_append_left (by simp; omega), List.getElem?_take_of_lt h3]
            · rcases Nat.lt_or_ge q (k + m) with h4 | h4
              · obtain ⟨z, rfl⟩ : ∃ z, q = k + z := ⟨q - k, by omega⟩
                have e3 := overL_get (c := overL C.toList o c) (l := s) (o := o + k) (k := z) hC' (by omega)
                rw [Nat.add_assoc] at e3
                rw [e3, hl, List.append_assoc, List.getElem?_append_right (by simp; omega), List.getElem?_append_left (by simp; omega)]
                congr 1
                simp; omega
              · rw [overL_high hC' (by omega), overL_get hC (by omega), hl, List.getElem?_append_right (by simp; omega), List.getElem?_drop]
                congr 1
                simp; omega
          · rw [overL_high hC' (by omega), overL_high hC (by omega), overL_high hL (by omega)]
      · rfl
  rw [e1, ← e2]
  exact wrCells_put hfp (by simp; omega) hs hv
theorem wrCells_far {b o : Nat} {l : List Value} {a : Addr} (h : a.block ≠ b) : ∀ (m : List Value) (w : World) (i : Nat), wrCells (put w b o l) a i m = (wrCells w a i m).map fun x => put x b o l
  | [], w, i => rfl
  | v :: m, w, i => by
    have hb : (a.add i).block ≠ b := by rw [block_add]; exact h
    simp only [wrCells, put_cell_other hb, put_frozen_other hb]
    split
    · split
      · rw [put_setCell_other hb]; exact wrCells_far h m _ _
      · rfl
    · rfl
/-- a store that is not known cell by cell -/
def storeSlow (P : Program) (a : Addr) (l : List Value) (w : World) : Result Unit := (storeCells a l 0).run P w
theorem store_wr (P : Program) (a : Addr) (l : List Value) (w : World) : (storeCells a l 0).run P w = (match wrCells w a 0 l with | some w' => .ok () w' | none => storeSlow P a l w) := by
  cases h : wrCells w a 0 l with
  | none => rfl
  | some w' => exact run_wrCells P a l w w' 0 h
/-! ### What stands elsewhere is as it was -/
@[go_sem] theorem put_cell_far {w : World} {b b' o k : Nat} {l : List Value} (h : b' ≠ b) : (put w b o l).cell? ⟨b', k, none⟩ = w.cell? ⟨b', k, none⟩ := put_cell_other h
@[go_sem] theorem put_frozen_far {w : World} {b b' o k : Nat} {l : List Value} (h : b' ≠ b) : (put w b o l).frozen? ⟨b', k, none⟩ = w.frozen? ⟨b', k, none⟩ := put_frozen_other h
@[go_sem] theorem put_setCell_far {w : World} {b b' o k : Nat} {l : List Value} {v : Value} (h : b' ≠ b) : (put w b o l).setCell ⟨b', k, none⟩ v = put (w.setCell ⟨b', k, none⟩ v) b o l := put_setCell_other h
@[go_sem ↓] theorem rdCells_put_far {w : World} {b b' o k i n : Nat} {l : List Value} (h : b' ≠ b) : rdCells (put w b o l) ⟨b', k, none⟩ i n = rdCells w ⟨b', k, none⟩ i n := rdCells_put_other h
@[go_sem ↓] theorem wrCells_put_far {w : World} {b b' o k i : Nat} {l m : List Value} (h : b' ≠ b) : wrCells (put w b o l) ⟨b', k, none⟩ i m = (wrCells w ⟨b', k, none⟩ i m).map fun x => put x b o l := wrCells_far h m w i
theorem Fit.put_far {w : World} {b b' o o' n : Nat} {l : List Value} (h : b ≠ b') : Fit (Ytogekloaijidhaa.put w b' o' l) b o n ↔ Fit w b o n := by
  unfold Fit
  rw [Ytogekloaijidhaa.put_other h]
attribute [go_sem] Fit.put_far
theorem Grow.unput2 {w w' : World} {b1 b2 o1 o2 : Nat} {l1 l2 : List Value} (h : Grow (Ytogekloaijidhaa.put (Ytogekloaijidhaa.put w b1 o1 l1) b2 o2 l2) w') (h1 : Fit w b1 o1 l1.length) (h2 : Fit w b2 o2 l2.length) (hb : b1 ≠ b2) : ∃ w1, Grow w w1 ∧ w' = Ytogekloaijidhaa.put (Ytogekloaijidhaa.put w1 b1 o1 l1) b2 o2 l2 := by
  obtain ⟨w1, g1, rfl⟩ := h.unput ((Fit.put_far hb.symm).2 h2)
  obtain ⟨w2, g2, rfl⟩ := g1.unput h1
  exact ⟨w2, g2, rfl⟩
theorem Grow.unput3 {w w' : World} {b1 b2 b3 o1 o2 o3 : Nat} {l1 l2 l3 : List Value} (h : Grow (Ytogekloaijidhaa.put (Ytogekloaijidhaa.put (Ytogekloaijidhaa.put w b1 o1 l1) b2 o2 l2) b3 o3 l3) w') (h1 : Fit w b1 o1 l1.length) (h2 : Fit w b2 o2 l2.length) (h3 : Fit w b3 o3 l3.length) (hb : b1 ≠ b2) (hb1 : b1 ≠ b3) (hb2 : b2 ≠ b3) :
    ∃ w1, Grow w w1 ∧ w' = Ytogekloaijidhaa.put (Ytogekloaijidhaa.put (Ytogekloaijidhaa.put w1 b1 o1 l1) b2 o2 l2) b3 o3 l3 := by
  obtain ⟨w1, g1, rfl⟩ := h.unput ((Fit.put_far hb2.symm).2 ((Fit.put_far hb1.symm).2 h3))
  obtain ⟨w2, g2, rfl⟩ := g1.unput2 h1 h2 hb
  exact ⟨w2, g2, rfl⟩
/-! ### Reading, for regions whose order is open -/
/-- the value that a load of type t at x yields -/
def rd (P : Program) (w : World) (t : TypeId) (x : Value) : Option Value :=
  match x with
  | .pointer (some a) =>
    match P.underlying t with
    | some (.struct _) | some (.array _ _) => match P.info? t with
      | some i => (rdCells w a 0 i.size).map fun l => .agg l.toArray
      | none => none
    | some _ => w.cell? a
    | none => none
  | _ => none
theorem run_rd (P : Program) (w : World) (t : TypeId) (x v : Value) (h : rd P w t x = some v) : (Instr.loadAt t x).run P w = .ok v w := by
  unfold rd at h
  split at h
  · rename_i a
    unfold Instr.loadAt Instr.sureAddr loadVar isAgg
    simp only [Sem.run_bind, Sem.run_pure, Result.andThen_ok]
    cases hu : P.underlying t with
    | none => simp [hu] at h
    | some d =>
      rw [run_underlying hu]
      simp only [Result.andThen_ok]
      cases d <;> simp only [hu] at h
      case struct fs =>
        cases hi : P.info? t with
        | none => simp [hi] at h
        | some i =>
          simp only [hi, Option.map_eq_some_iff] at h
          obtain ⟨l, hl, rfl⟩ := h
          have := run_rdCells P w a i.size 0 l #[] hl
          simp [sizeOf, typeInfo, hi, loadCells, this]
      case array n e =>
        cases hi : P.info? t with
        | none => simp [hi] at h
        | some i =>
          simp only [hi, Option.map_eq_some_iff] at h
          obtain ⟨l, hl, rfl⟩ := h
          have := run_rdCells P w a i.size 0 l #[] hl
          simp [sizeOf, typeInfo, hi, loadCells, this]
      all_goals simp [h]
  · cases h
@[go_sem] theorem rd_eq (P : Program) (w : World) (t : TypeId) (a : Addr) : rd P w t (.pointer (some a)) =
    (match (isAgg t).run P w with
    | .ok true _ => match (sizeOf t).run P w with
      | .ok n _ => (rdCells w a 0 n).map fun l => .agg l.toArray
      | _ => none
    | .ok false _ => w.cell? a
    | _ => none) := by
  unfold rd isAgg
  cases hu : P.underlying t with
  | none => simp [underlying, hu, Sem.run_bind]
  | some d =>
    rw [Sem.run_bind, run_underlying hu]
    cases hi : P.info? t <;> cases d <;> simp [sizeOf, typeInfo, hi]
theorem rd_grow {P : Program} {w w' : World} (hg : Grow w w') {t : TypeId} {x v : Value} (h : rd P w t x = some v) : rd P w' t x = some v := by
  unfold rd at h ⊢
  split at h
  · rename_i a
    cases hu : P.underlying t with
    | none => simp [hu] at h
    | some d =>
      cases d <;> simp only [hu] at h ⊢
      case struct fs =>
        cases hi : P.info? t with
        | none => simp [hi] at h
        | some i =>
          simp only [hi, Option.map_eq_some_iff] at h ⊢
          obtain ⟨l, hl, rfl⟩ := h
          exact ⟨l, rdCells_grow hg a _ _ _ hl, rfl⟩
      case array n e =>
        cases hi : P.info? t with
        | none => simp [hi] at h
        | some i =>
          simp only [hi, Option.map_eq_some_iff] at h ⊢
          obtain ⟨l, hl, rfl⟩ := h
          exact ⟨l, rdCells_grow hg a _ _ _ hl, rfl⟩
      all_goals exact hg.cell h
  · cases h

/-- an operation that reads, at most, and yields v: in W, and in whatever is W and more -/
def Reads (P : Program) (W : World) (a : Act) (v : Value) (o : Oper) : Prop :=
  match o.op with
  | .load t x => rd P W t (a.eval x) = some v
  | _ => ∀ w, (execOp a.eval o).run P w = .ok (.value v) w
attribute [go_sem] Reads
theorem Reads.run {P : Program} {W w : World} {a : Act} {v : Value} {o : Oper} (hg : Grow W w) (h : Reads P W a v o) : (execOp a.eval o).run P w = .ok (.value v) w := by
  unfold Reads at h
  split at h
  · rename_i t x hop
    unfold execOp
    simp only [hop, Sem.run_bind, run_rd P w t _ v (rd_grow hg h), Result.andThen_ok, Sem.run_pure]
  · exact h w

/-- an order for a region: readings as they come, and what is carried out, with all ways that are open -/
inductive Ord where
  | done
  | rd (i : Nat) (r : Ord)
  | alt (i : Nat) (r : Ord) (more : Ord)
  | stop
def Ord.rds : List Nat → Ord → Ord
  | [], t => t
  | i :: l, t => .rd i (Ord.rds l t)
def Ord.depth : Ord → Nat
  | .done => 0
  | .rd _ r => r.depth + 1
  | .alt _ r m => max (r.depth + 1) m.depth
  | .stop => 0
def Ord.heads : Ord → List Nat
  | .alt i _ m => i :: m.heads
  | _ => []
def Ord.ok (ops : Array Oper) : Ord → Array Bool → Bool → Bool
  | .done, l, f => f && (Region.ready .any ops l).isEmpty
  | .rd i r, l, f => f && (Region.ready .any ops l).contains i && Region.free .any ops l i && r.ok ops (l.setIfInBounds i true) true
  | .alt i r m, l, f => (!f || decide (i :: m.heads = Region.ready .any ops l)) && r.ok ops (l.setIfInBounds i true) true && m.ok ops l false
  | .stop, _, f => !f
def Ord.fits (ops : Array Oper) (t : Ord) : Bool :=
  Region.noSelect ops && decide (t.depth ≤ ops.size) && t.ok ops (Array.replicate ops.size false) true

section
variable (P : Program) (ops : Array Oper) (W : World) (Q : Exit → Act → World → Prop)
/-- operation i reads: its value goes into its slot -/
def rdStep (i : Nat) (K : Act → Prop) (a : Act) : Prop :=
  match ops[i]? with
  | none => False
  | some o => if Region.wanted o (yielded ops a.tmps) then ∃ v, Reads P W a v o ∧ K (a.put o.dst v) else K (a.put o.dst undef)
/-- operation i is carried out; what was there stays as it was -/
def efStep (i : Nat) (K : Act → World → Prop) (a : Act) (w : World) : Prop :=
  match ops[i]? with
  | none => False
  | some o => if Region.wanted o (yielded ops a.tmps) then o.wp P a w (fun a' w' => Grow W w' ∧ K a' w') (NoPanic Q) else K (a.put o.dst undef) w
def wpM : Ord → Act → World → Prop
  | .done, a, w => Q .normal a w
  | .rd i r, a, w => rdStep P ops W i (fun a' => wpM r a' w) a
  | .alt i r m, a, w => efStep P ops W Q i (wpM r) a w ∧ wpM m a w
  | .stop, _, _ => True
end
section
variable {P : Program} {ops : Array Oper} {W : World} {Q : Exit → Act → World → Prop}
theorem wpM_heads : ∀ (t : Ord) (a : Act) (w : World) (l : Array Bool), t.ok ops l false = true → wpM P ops W Q t a w → ∀ i ∈ t.heads, ∃ r, r.depth + 1 ≤ t.depth ∧ r.ok ops (l.setIfInBounds i true) true = true ∧ efStep P ops W Q i (wpM P ops W Q r) a w
  | .done, _, _, _, _, _ => by intro i hi; cases hi
  | .rd _ _, _, _, _, _, _ => by intro i hi; cases hi
  | .stop, _, _, _, _, _ => by intro i hi; cases hi
  | .alt j r m, a, w, l, hB, h => by
    intro i hi
    simp only [Ord.ok, Bool.and_eq_true] at hB
    simp only [wpM] at h
    rcases List.mem_cons.1 hi with rfl | hi
    · exact ⟨r, by simp only [Ord.depth]; omega, hB.1.2, h.1⟩
    · obtain ⟨r', hd, ho, he⟩ := wpM_heads m a w l hB.2 h.2 i hi
      exact ⟨r', by simp only [Ord.depth]; omega, ho, he⟩
theorem wpM_any (hs : Region.noSelect ops = true) : ∀ (f : Nat) (t : Ord) (l : Array Bool) (a : Act) (w : World), t.depth ≤ f → t.ok ops l true = true → Grow W w → wpM P ops W Q t a w →
    wpAnyH P .any ops (NoPanic Q) (Grow W) f l a w := by
  intro f
  induction f with
  | zero =>
    intro t l a w hd hB hg h
    cases t with
    | done => simp only [Ord.ok, Bool.true_and] at hB; exact ⟨by simpa using hB, h⟩
    | rd i r => simp [Ord.depth] at hd
    | alt i r m => simp only [Ord.depth] at hd; omega
    | stop => simp [Ord.ok] at hB
  | succ f ih =>
    intro t l a w hd hB hg h
    cases t with
    | done =>
      simp only [Ord.ok, Bool.true_and] at hB
      have he : Region.ready .any ops l = [] := by simpa using hB
      refine ⟨fun _ => h, fun i hi => ?_⟩
      rw [he] at hi; cases hi
    | stop => simp [Ord.ok] at hB
    | rd i r =>
      simp only [Ord.ok, Bool.true_and, Bool.and_eq_true] at hB
      simp only [Ord.depth] at hd
      simp only [wpM, rdStep] at h
      cases ho : ops[i]? with
      | none => simp [ho] at h
      | some o =>
        simp only [ho] at h
        by_cases hw : Region.wanted o (yielded ops a.tmps) = true
        · simp only [hw, if_true] at h
          obtain ⟨v, hv, hK⟩ := h
          refine wpAnyH_take ho hs hB.1.2 hB.1.1 ?_ (Or.inl ⟨hw, fun w' hw' => Reads.run hw' hv⟩) hg (ih r _ _ w (by omega) hB.2 hg hK)
          intro c a w h; exact h
        · simp only [hw] at h
          refine wpAnyH_take (v := undef) ho hs hB.1.2 hB.1.1 ?_ (Or.inr ⟨by simpa using hw, rfl⟩) hg (ih r _ _ w (by omega) hB.2 hg h)
          intro c a w h; exact h
    | alt i r m =>
      have hB' := hB
      simp only [Ord.ok, Bool.not_true, Bool.false_or, Bool.and_eq_true, decide_eq_true_eq] at hB
      have hB2 : (Ord.alt i r m).ok ops l false = true := by
        simp only [Ord.ok, Bool.not_false, Bool.true_or, Bool.true_and, Bool.and_eq_true]; exact ⟨hB.1.2, hB.2⟩
      refine wpAnyH_all hB.1.1.symm (by simp) fun j hj => ?_
      obtain ⟨r', hd', hok, he⟩ := wpM_heads (.alt i r m) a w l hB2 h j hj
      unfold efStep at he
      unfold wpOp
      cases ho : ops[j]? with
      | none => simp [ho] at he
      | some o =>
        simp only [ho] at he ⊢
        by_cases hw : Region.wanted o (yielded ops a.tmps) = true
        · simp only [hw, if_true] at he ⊢
          exact .inl (Oper.wp_mono (fun a' w' h' => ⟨h'.1, ih r' _ _ _ (by omega) hok h'.1 h'.2⟩) he)
        · simp only [hw] at he ⊢
          exact ⟨hg, ih r' _ _ _ (by omega) hok hg he⟩
/-- a region whose order is open, walked in one order, with all ways where more than one operation may be carried out -/
theorem wp_region_ord {id : Nat} {a : Act} {w : World} (t : Ord) (hm : P.follows .mixedOrders = true) (hB : t.fits ops = true) (h : wpM P ops w Q t a w.drew) : (Code.region id ops true).wp P Q a w := by
  simp only [Ord.fits, Bool.and_eq_true, decide_eq_true_eq] at hB
  refine wp_region_noPanic (wp_region_held (S := Grow w) hm ?_)
  exact wpM_any hB.1.1 ops.size t _ a w.drew hB.1.2 hB.2 (Grow.refl w).drew h
/-- one step: a reading -/
theorem wpM_rd {i : Nat} {r : Ord} {o : Oper} {a : Act} {w : World} (ho : ops[i]? = some o)
    (h : ∀ K : Act → Prop, (∀ a, wpM P ops W Q r a w → K a) → if Region.wanted o (yielded ops a.tmps) then ∃ v, Reads P W a v o ∧ K (a.put o.dst v) else K (a.put o.dst undef)) : wpM P ops W Q (.rd i r) a w := by
  have := h _ (fun _ h => h)
  simp only [wpM, rdStep, ho]
  exact this
/-- one step: carried out -/
theorem wpM_ef {i : Nat} {r m : Ord} {o : Oper} {a : Act} {w : World} (ho : ops[i]? = some o)
    (h : ∀ K : Act → World → Prop, (∀ a w, Grow W w ∧ wpM P ops W Q r a w → K a w) → Grow W w → if Region.wanted o (yielded ops a.tmps) then o.wp P a w K (NoPanic Q) else K (a.put o.dst undef) w) (hg : Grow W w) (hm : wpM P ops W Q m a w) : wpM P ops W Q (.alt i r m) a w := by
  have := h _ (fun _ _ h => h) hg
  simp only [wpM, efStep, ho]
  refine ⟨?_, hm⟩
  split
  · rename_i hw; rw [if_pos hw] at this; exact this
  · rename_i hw; rw [if_neg hw] at this; exact this.2
theorem wpM_done {a : Act} {w : World} (h : Q .normal a w) : wpM P ops W Q .done a w := h
theorem wpM_stop {a : Act} {w : World} : wpM P ops W Q .stop a w := trivial
end
attribute [irreducible] wpM
end Go.Proofs.Ytogekloaijidhaa
