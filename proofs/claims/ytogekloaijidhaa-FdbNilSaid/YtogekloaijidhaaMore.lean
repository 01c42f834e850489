/- More words on memory: blocks that are made, by names. -/
import Derived.Test.YtogekloaijidhaaData
namespace Go.Proofs.Ytogekloaijidhaa
open Go Go.RowKit
/-- block n is none of w's -/
def New (w : World) (n : Nat) : Prop := w.heap.size ≤ n
theorem Grow.new {a w : World} (h : Grow a w) {b o : Nat} {l : List Value} (hb : New a b) : Grow a (Ytogekloaijidhaa.put w b o l) := h.put_new hb
theorem New.ne {w : World} {n b : Nat} (h : New w n) (hb : b < w.heap.size) : b ≠ n ∧ n ≠ b := by unfold New at h; omega
theorem New.of_grow {a w : World} {n : Nat} (h : Grow a w) (hn : New w n) : New a n := Nat.le_trans h.size hn
theorem box1 (w : World) (l1 : List Value) (T1 : TypeId) : ∃ w1, Grow w w1 ∧ Fit w1 w.heap.size 0 l1.length ∧ New w w.heap.size ∧ w.alloc (.cells l1.toArray T1) = put w1 w.heap.size 0 l1 := by
  obtain ⟨w1, g, f1, _, e⟩ := alloc_put w l1 T1
  exact ⟨w1, g, f1, Nat.le_refl _, e⟩
theorem box2 (w : World) (l1 l2 : List Value) (T1 T2 : TypeId) : ∃ w1, Grow w w1 ∧ Fit w1 w.heap.size 0 l1.length ∧ Fit w1 (w.heap.size + 1) 0 l2.length ∧ New w w.heap.size ∧ New w (w.heap.size + 1) ∧ w.heap.size ≠ w.heap.size + 1 ∧ w.heap.size + 1 ≠ w.heap.size ∧
    (w.alloc (.cells l1.toArray T1)).alloc (.cells l2.toArray T2) = put (put w1 w.heap.size 0 l1) (w.heap.size + 1) 0 l2 := by
  obtain ⟨w1, g, f1, f2, _, e⟩ := alloc_put2 w l1 l2 T1 T2
  exact ⟨w1, g, f1, f2, Nat.le_refl _, Nat.le_succ _, by omega, by omega, e⟩
theorem box3 (w : World) (l1 l2 l3 : List Value) (T1 T2 T3 : TypeId) : ∃ w1, Grow w w1 ∧ Fit w1 w.heap.size 0 l1.length ∧ Fit w1 (w.heap.size + 1) 0 l2.length ∧ Fit w1 (w.heap.size + 2) 0 l3.length ∧ New w w.heap.size ∧ New w (w.heap.size + 1) ∧ New w (w.heap.size + 2) ∧
    (w.heap.size ≠ w.heap.size + 1 ∧ w.heap.size + 1 ≠ w.heap.size) ∧ (w.heap.size ≠ w.heap.size + 2 ∧ w.heap.size + 2 ≠ w.heap.size) ∧ (w.heap.size + 1 ≠ w.heap.size + 2 ∧ w.heap.size + 2 ≠ w.heap.size + 1) ∧
    ((w.alloc (.cells l1.toArray T1)).alloc (.cells l2.toArray T2)).alloc (.cells l3.toArray T3) = put (put (put w1 w.heap.size 0 l1) (w.heap.size + 1) 0 l2) (w.heap.size + 2) 0 l3 := by
  obtain ⟨w1, g, f1, f2, f3, _, e⟩ := alloc_put3 w l1 l2 l3 T1 T2 T3
  exact ⟨w1, g, f1, f2, f3, Nat.le_refl _, Nat.le_succ _, by unfold New; omega, by omega, by omega, by omega, e⟩
theorem Fit.own {w : World} {b o n : Nat} (h : Fit w b o n) : ∃ c : List Value, c.length = n ∧ At w b o c := by
  obtain ⟨c, T, hb, hc⟩ := h
  refine ⟨(c.toList.drop o).take n, by rw [List.length_take, List.length_drop]; simp; omega, c, T, hb, by rw [List.length_take, List.length_drop]; simp; omega, fun k hk => ?_⟩
  rw [List.length_take] at hk
  rw [List.getElem?_take_of_lt (by omega), List.getElem?_drop]
  simp
/-- a store over cells that are there, whatever they hold -/
theorem wrCells_fit {w : World} {b o n : Nat} {l : List Value} (h : Fit w b o n) (hl : l.length = n) (hv : l.all Value.oneCell' = true) : wrCells w ⟨b, o, none⟩ 0 l = some (put w b o l) := by
  obtain ⟨c, hc, hA⟩ := h.own
  have := wrCells_put h hc hl hv
  rw [hA.put_self] at this
  exact this
/-- a block that is made, by a name -/
theorem made (w : World) (l : List Value) (T : TypeId) : ∃ w1 n, Grow w w1 ∧ Fit w1 n 0 l.length ∧ New w n ∧ n < w1.heap.size ∧ n = w.heap.size ∧ w.alloc (.cells l.toArray T) = w1 :=
  ⟨_, _, (Grow.refl w).alloc _, (At.alloc_new w l T).fit, Nat.le_refl _, by simp, rfl, rfl⟩
theorem Grow.at_new {a w : World} (h : Grow a w) {b o : Nat} {l : List Value} (hb : New a b) : Grow a (Ytogekloaijidhaa.put w b o l) := h.put_new hb
@[go_sem] theorem Mac.wr_fit {w : World} {b o : Nat} {q : Mac} (h : Fit w b o 6) : wrCells w ⟨b, o, none⟩ 0 q.enc = some (put w b o q.enc) := wrCells_fit h rfl rfl
@[go_sem] theorem Vec.wr_fit {w : World} {b o : Nat} {q : Vec} (h : Fit w b o 4) : wrCells w ⟨b, o, none⟩ 0 q.enc = some (put w b o q.enc) := wrCells_fit h rfl rfl
@[go_sem] theorem Tms.wr_fit {w : World} {b o : Nat} {q : Tms} (h : Fit w b o 4) : wrCells w ⟨b, o, none⟩ 0 q.enc = some (put w b o q.enc) := wrCells_fit h rfl rfl
@[go_sem] theorem Bpdu.wr_fit {w : World} {b o : Nat} {q : Bpdu} (h : Fit w b o 10) : wrCells w ⟨b, o, none⟩ 0 q.enc = some (put w b o q.enc) := wrCells_fit h rfl rfl
@[go_sem] theorem Prt.wr_fit {w : World} {b o : Nat} {q : Prt} (h : Fit w b o 90) : wrCells w ⟨b, o, none⟩ 0 q.enc = some (put w b o q.enc) := wrCells_fit h rfl rfl
@[go_sem] theorem Brg.wr_fit {w : World} {b o : Nat} {q : Brg} (h : Fit w b o 18) : wrCells w ⟨b, o, none⟩ 0 q.enc = some (put w b o q.enc) := wrCells_fit h rfl rfl
section
variable {P : Program} {ops : Array Oper} {W : World} {Q : Exit → Act → World → Prop}
theorem op_at {i : Nat} {o : Oper} (h : (ops.toList.drop i).head? = some o) : ops[i]? = some o := by
  rw [List.head?_drop] at h
  simpa using h
theorem wanted_plain {o : Oper} {y : Nat → Option Bool} (h : o.guard = none) : Region.wanted o y = true := by simp [Region.wanted, h]
theorem wanted_yes {o oj : Oper} {tmps : Array Value} {j d : Nat} {c : Bool} (h : o.guard = some (j, c)) (hj : (ops.toList.drop j).head? = some oj) (hd : oj.dst = some d) (hv : (tmps.toList.drop d).head? = some (.bool c)) : Region.wanted o (yielded ops tmps) = true := by
  have h1 := op_at hj
  rw [List.head?_drop] at hv
  have h2 : tmps[d]? = some (.bool c) := by simpa using hv
  simp [Region.wanted, h, yielded, h1, hd, h2]
theorem wanted_no {o oj : Oper} {tmps : Array Value} {j d : Nat} {c : Bool} (h : o.guard = some (j, c)) (hj : (ops.toList.drop j).head? = some oj) (hd : oj.dst = some d) (hv : (tmps.toList.drop d).head? = some (.bool (!c))) : Region.wanted o (yielded ops tmps) = false := by
  have h1 := op_at hj
  rw [List.head?_drop] at hv
  have h2 : tmps[d]? = some (.bool (!c)) := by simpa using hv
  simp [Region.wanted, h, yielded, h1, hd, h2]
theorem wanted_undef {o oj : Oper} {tmps : Array Value} {j d : Nat} {c : Bool} (h : o.guard = some (j, c)) (hj : (ops.toList.drop j).head? = some oj) (hd : oj.dst = some d) (hv : (tmps.toList.drop d).head? = some undef) : Region.wanted o (yielded ops tmps) = false := by
  have h1 := op_at hj
  rw [List.head?_drop] at hv
  have h2 : tmps[d]? = some undef := by simpa using hv
  simp [Region.wanted, h, yielded, h1, hd, h2, undef]
theorem wpM_rdy {i : Nat} {r : Ord} {o : Oper} {a : Act} {w : World} (ho : (ops.toList.drop i).head? = some o) (hy : Region.wanted o (yielded ops a.tmps) = true)
    (h : ∀ K : Act → Prop, (∀ a, wpM P ops W Q r a w → K a) → ∃ v, Reads P W a v o ∧ K (a.put o.dst v)) : wpM P ops W Q (.rd i r) a w :=
  wpM_rd (op_at ho) fun K hK => by rw [if_pos hy]; exact h K hK
theorem wpM_rdn {i : Nat} {r : Ord} {o : Oper} {a : Act} {w : World} (ho : (ops.toList.drop i).head? = some o) (hy : Region.wanted o (yielded ops a.tmps) = false)
    (h : ∀ K : Act → Prop, (∀ a, wpM P ops W Q r a w → K a) → K (a.put o.dst undef)) : wpM P ops W Q (.rd i r) a w :=
  wpM_rd (op_at ho) fun K hK => by rw [if_neg (by rw [hy]; exact Bool.false_ne_true)]; exact h K hK
theorem wpM_efy {i : Nat} {r m : Ord} {o : Oper} {a : Act} {w : World} (ho : (ops.toList.drop i).head? = some o) (hy : Region.wanted o (yielded ops a.tmps) = true)
    (h : ∀ K : Act → World → Prop, (∀ a w, Grow W w ∧ wpM P ops W Q r a w → K a w) → Grow W w → o.wp P a w K (NoPanic Q)) (hg : Grow W w) (hm : wpM P ops W Q m a w) : wpM P ops W Q (.alt i r m) a w :=
  wpM_ef (op_at ho) (fun K hK hg => by rw [if_pos hy]; exact h K hK hg) hg hm
theorem wpM_efn {i : Nat} {r m : Ord} {o : Oper} {a : Act} {w : World} (ho : (ops.toList.drop i).head? = some o) (hy : Region.wanted o (yielded ops a.tmps) = false)
    (h : ∀ K : Act → World → Prop, (∀ a w, Grow W w ∧ wpM P ops W Q r a w → K a w) → Grow W w → K (a.put o.dst undef) w) (hg : Grow W w) (hm : wpM P ops W Q m a w) : wpM P ops W Q (.alt i r m) a w :=
  wpM_ef (op_at ho) (fun K hK hg => by rw [if_neg (by rw [hy]; exact Bool.false_ne_true)]; exact h K hK hg) hg hm
end
theorem Grow.made {a w : World} (hg : Grow a w) (l : List Value) (T : TypeId) : ∃ w1 n, Grow a w1 ∧ Grow w w1 ∧ Fit w1 n 0 l.length ∧ New a n ∧ n = w.heap.size ∧ w.alloc (.cells l.toArray T) = w1 :=
  ⟨_, _, hg.alloc _, (Grow.refl w).alloc _, (At.alloc_new w l T).fit, hg.size, rfl, rfl⟩
theorem At.of_put_other {w : World} {b o b' o' : Nat} {l m : List Value} (h : At (put w b' o' m) b o l) (hb : b ≠ b') : At w b o l := by
  obtain ⟨c, T, hb', r⟩ := h
  rw [Ytogekloaijidhaa.put_other hb] at hb'
  exact ⟨c, T, hb', r⟩
end Go.Proofs.Ytogekloaijidhaa
