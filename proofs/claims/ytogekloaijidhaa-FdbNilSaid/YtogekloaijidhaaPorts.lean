/- PORTS IN MEMORY: a slice of ports that can be read; a row of ports of its own. No program is named here. -/
import Derived.Test.YtogekloaijidhaaMore
import Derived.Laws.AppendOwn
set_option maxRecDepth 100000
namespace Go.Proofs.Ytogekloaijidhaa
open Go Go.RowKit

/-- the cells of ports, one behind the other -/
def flat (l : List Prt) : List Value := (l.map Prt.enc).flatten
theorem flat_nil : flat [] = [] := rfl
theorem flat_cons (p : Prt) (l : List Prt) : flat (p :: l) = p.enc ++ flat l := by simp [flat]
theorem flat_length : ∀ l : List Prt, (flat l).length = l.length * 90
  | [] => rfl
  | p :: l => by rw [flat_cons, List.length_append, flat_length l, Prt.length_enc, List.length_cons]; omega
theorem flat_at : ∀ (l : List Prt) (k : Nat) (h : k < l.length), ((flat l).drop (k * 90)).take 90 = l[k].enc
  | [], k, h => by simp at h
  | p :: l, 0, _ => by rw [flat_cons, Nat.zero_mul, List.drop_zero, List.take_append_of_le_length (by simp)]; rfl
  | p :: l, k + 1, h => by
    rw [flat_cons, show (k + 1) * 90 = p.enc.length + k * 90 by rw [Prt.length_enc]; omega, List.drop_append, List.drop_of_length_le (by omega), Nat.add_sub_cancel_left, List.nil_append]
    exact flat_at l k (by simpa using h)
theorem flat_set : ∀ (l : List Prt) (k : Nat) (q : Prt) (_ : k < l.length), flat (l.set k q) = (flat l).take (k * 90) ++ q.enc ++ (flat l).drop (k * 90 + 90)
  | [], k, _, h => by simp at h
  | p :: l, 0, q, _ => by
    rw [List.set_cons_zero, flat_cons, flat_cons, Nat.zero_mul, List.take_zero, List.nil_append, Nat.zero_add]
    rw [show (90 : Nat) = p.enc.length by rw [Prt.length_enc], List.drop_left]
  | p :: l, k + 1, q, h => by
    rw [List.set_cons_succ, flat_cons, flat_cons, flat_set l k q (by simpa using h)]
    rw [show (k + 1) * 90 = p.enc.length + k * 90 by rw [Prt.length_enc]; omega, List.take_append, List.take_of_length_le (show p.enc.length ≤ _ by omega), Nat.add_sub_cancel_left]
    rw [show p.enc.length + k * 90 + 90 = p.enc.length + (k * 90 + 90) by omega, List.drop_append, List.drop_of_length_le (show p.enc.length ≤ _ by omega), Nat.add_sub_cancel_left]
    simp only [List.nil_append, List.append_assoc]
theorem all_flat (l : List Prt) : ∀ u ∈ flat l, u.oneCell' = true := by
  intro u hu
  simp only [flat, List.mem_flatten, List.mem_map] at hu
  obtain ⟨c, ⟨p, _, rfl⟩, hu⟩ := hu
  exact List.all_eq_true.1 p.one u hu
theorem At.port {w : World} {b o : Nat} {l : List Prt} (h : At w b o (flat l)) (k : Nat) (hk : k < l.length) : At w b (o + k * 90) l[k].enc :=
  h.sub (by rw [Prt.length_enc]; exact flat_at l k hk) (by rw [Prt.length_enc, flat_length]; omega)
theorem At.put_sub {w : World} {b o k : Nat} {l s : List Value} (h : At w b o l) (hk : k + s.length ≤ l.length) : At (put w b (o + k) s) b o (l.take k ++ s ++ l.drop (k + s.length)) := by
  obtain ⟨c, T, hb, hc, hl⟩ := h
  have hC : o + k + s.length ≤ c.toList.length := by simp; omega
  refine ⟨_, T, put_heap hb, ?_, fun j hj => ?_⟩
  · rw [List.size_toArray, overL_length hC]
    simp
    omega
  · have hlen : (l.take k ++ s ++ l.drop (k + s.length)).length = l.length := by simp; omega
    rw [hlen] at hj
    rw [List.getElem?_toArray]
    rcases Nat.lt_or_ge j k with h1 | h1
    · rw [overL_low hC (by omega), List.append_assoc, List.getElem?_append_left (by simp; omega), List.getElem?_take_of_lt h1]
      have := hl j hj
      simpa using this
    · rcases Nat.lt_or_ge j (k + s.length) with h2 | h2
      · have := overL_get (c := c.toList) (l := s) (o := o + k) (k := j - k) hC (by omega)
        rw [show o + k + (j - k) = o + j by omega] at this
        rw [this, List.append_assoc, List.getElem?_append_right (by simp; omega), List.getElem?_append_left (by simp; omega)]
        congr 1
        simp; omega
      · rw [overL_high hC (by omega), List.getElem?_append_right (by simp; omega), List.getElem?_drop]
        have := hl j hj
        rw [show (k + s.length + (j - (l.take k ++ s).length)) = j by simp; omega]
        simpa using this
theorem At.put_port {w : World} {b o : Nat} {l : List Prt} (h : At w b o (flat l)) (k : Nat) (hk : k < l.length) (q : Prt) : At (put w b (o + k * 90) q.enc) b o (flat (l.set k q)) := by
  have := h.put_sub (k := k * 90) (s := q.enc) (by rw [Prt.length_enc, flat_length]; omega)
  rw [Prt.length_enc] at this
  rwa [flat_set l k q hk]
/-- a slice of ports that can be read -/
def PortsIn (w : World) (s : Sl) (l : List Prt) : Prop :=
  s.n = l.length ∧ ∀ (k : Nat) (h : k < l.length), ∃ b o, s.a = some ⟨b, o, none⟩ ∧ rdCells w ⟨b, o + k * 90, none⟩ 0 90 = some l[k].enc
theorem PortsIn.grow {w w' : World} {s : Sl} {l : List Prt} (h : PortsIn w s l) (g : Grow w w') : PortsIn w' s l :=
  ⟨h.1, fun k hk => by
    obtain ⟨b, o, e, hr⟩ := h.2 k hk
    exact ⟨b, o, e, rdCells_grow g _ _ _ _ hr⟩⟩
theorem PortsIn.of_at {w : World} {b o c : Nat} {l : List Prt} (h : At w b o (flat l)) : PortsIn w ⟨some ⟨b, o, none⟩, l.length, c⟩ l :=
  ⟨rfl, fun k hk => ⟨b, o, rfl, by have := (h.port k hk).rd; rwa [Prt.length_enc] at this⟩⟩
theorem rdCells_get {w : World} {a : Addr} : ∀ (n i : Nat) (l : List Value), rdCells w a i n = some l → ∀ j, j < n → w.cell? (a.add (i + j)) = l[j]?
  | 0, _, _, _, j, hj => by omega
  | n + 1, i, l, h, j, hj => by
    simp only [rdCells] at h
    split at h
    · rename_i v l' hv hl
      cases h
      cases j with
      | zero => simpa using hv
      | succ j =>
        have := rdCells_get n (i + 1) l' hl j (by omega)
        rw [show i + (j + 1) = i + 1 + j by omega]
        simpa using this
    · cases h
theorem PortsIn.cells {w : World} {s : Sl} {l : List Prt} (h : PortsIn w s l) {ad : Addr} (ha : s.a = some ad) : ∀ (j : Nat) (u : Value), (flat l)[j]? = some u → w.cell? (ad.add j) = some u := by
  intro j u hu
  have hj : j < l.length * 90 := by rw [← flat_length]; exact (List.getElem?_eq_some_iff.1 hu).1
  have hk : j / 90 < l.length := by omega
  obtain ⟨b, o, e, hr⟩ := h.2 (j / 90) hk
  rw [ha] at e
  cases e
  have := rdCells_get 90 0 _ hr (j % 90) (by omega)
  have e2 : l[j / 90].enc[j % 90]? = (flat l)[j]? := by
    rw [← flat_at l (j / 90) hk, List.getElem?_take_of_lt (by omega), List.getElem?_drop]
    congr 1
    omega
  rw [e2, hu, Addr.add_lit, Nat.zero_add] at this
  rw [Addr.add_lit]
  rw [show o + j = o + j / 90 * 90 + j % 90 by omega]
  exact this
theorem New.upto {w w1 : World} {n : Nat} (h : New w1 n) (g : Grow w w1) : New w n := Nat.le_trans g.size h
theorem At.of_owns {w : World} {base e : Nat} {a : Option Addr} {n c m : Nat} {l : List Prt} (h : w.ownsRow base e 90 (.slice a n c) m (flat l)) (hne : a ≠ none) : ∃ g, a = some ⟨g, 0, none⟩ ∧ n = m ∧ base ≤ g ∧ At w g 0 (flat l) := by
  obtain ⟨hl, h | ⟨g, cap, cur, hv, hg, hb, hn, hm, hs, ht⟩⟩ := h
  · exact absurd (by have := h.1; simp at this; exact this.1) hne
  · simp only [Value.slice.injEq] at hv
    obtain ⟨rfl, rfl, rfl⟩ := hv
    refine ⟨g, rfl, rfl, hg, cur, e, hb, ?_, fun k hk => ?_⟩
    · rw [hl, hs, Nat.zero_add]; exact Nat.mul_le_mul_right _ hn
    · rw [Nat.zero_add, ← ht]
      rw [hl] at hk
      rw [List.getElem?_take_of_lt hk]
      simp
theorem Grow.of_grown {w w' : World} {row : Option Nat} {k : Nat} (h : w.grownBy w' row) (hr : row = some k) {a : World} (ha : Grow a w) (hk : a.heap.size ≤ k) : Grow a w' := by
  subst hr
  exact ⟨h.os.trans ha.os, h.tape.trans ha.tape, h.output.trans ha.output, Nat.le_trans ha.size h.size, fun i hi => (h.block i (Nat.lt_of_lt_of_le hi ha.size) (by simp; omega)).trans (ha.block i hi)⟩
end Go.Proofs.Ytogekloaijidhaa
