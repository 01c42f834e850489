/- DATA THAT CAME IN: the cells of a value whose type is made of numbers, bools, strings, structs and arrays of these, and slices of such. No program is named here. -/
import Derived.WalkKit
import Derived.ProofKit
namespace Go.Proofs.Ytogekloaijidhaa
open Go Go.RowKit

/-- the kind of one cell -/
inductive LK where
  | b
  | i (k : IntKind)
  | f (k : FloatKind)
  | s
  | sl (e : TypeId)
def LK.fits (sl : TypeId → Option Addr → Nat → Nat → Prop) : LK → Value → Prop
  | .b, v => ∃ x, v = .bool x
  | .i k, v => ∃ n, v = .int k n ∧ (Lit.int k n).wf = true
  | .f k, v => ∃ n, v = .float k n ∧ (Lit.float k n).wf = true
  | .s, v => ∃ x, v = .string x ∧ x.size ≤ maxLen
  | .sl e, v => ∃ a n c, v = .slice a n c ∧ sl e a n c
/-- the fields' kinds, one behind the other -/
def foldK (P : Program) (g : TypeId → Option (List LK)) : List LK → List Field → Option (List LK)
  | l, [] => some l
  | l, x :: r => match g x.type with
    | some m => if l.length = x.offset ∧ m.length = P.cellsOf x.type then foldK P g (l ++ m) r else none
    | none => none
/-- the kinds of a type's cells, in their order -/
def flatK (P : Program) : Nat → TypeId → Option (List LK)
  | 0, _ => none
  | f + 1, t =>
    match P.underlying t with
    | some .bool => some [.b]
    | some (.int k) => some [.i k]
    | some (.float k) => some [.f k]
    | some .string => some [.s]
    | some (.slice e) => some [.sl e]
    | some (.struct fs) => match foldK P (flatK P f) [] fs.toList with
      | some l => if l.length = P.cellsOf t then some l else none
      | none => none
    | some (.array n e) => match flatK P f e with
      | some m => if m.length = P.cellsOf e ∧ n * m.length = P.cellsOf t then some (List.replicate n m).flatten else none
      | none => none
    | _ => none
/-- a slice that came in: nil, or its elements read -/
def SlIn {H : Type} (enc : TypeId × Value → H) (P : Program) (w : World) (base : Nat) (spare : Nat → Bool) (held : Bool) (e : TypeId) (a : Option Addr) (n c : Nat) : Prop :=
  (a = none ∧ n = 0 ∧ c = 0) ∨ ∃ x, a = some x ∧ n ≤ c ∧ c ≤ maxLen ∧ ∀ j, j < n → ∃ cs d ps fuel, w.cells? base (x.add (j * P.cellsOf e)) (P.cellsOf e) = some cs ∧ DataW.trod enc P w base spare held fuel e cs = some (d, ps)

theorem mapM_some {α β : Type} {f : α → Option β} : ∀ {l : List α} {r : List β}, l.mapM f = some r → ∀ (i : Nat) (x : α), l[i]? = some x → ∃ y, f x = some y
  | [], _, _, i, x, h => by simp at h
  | a :: l, r, h, i, x, hx => by
    simp only [List.mapM_cons, Option.bind_eq_bind, Option.pure_def] at h
    cases ha : f a with
    | none => simp [ha] at h
    | some y =>
      simp only [ha, Option.bind_some] at h
      cases hl : l.mapM f with
      | none => simp [hl] at h
      | some r' =>
        cases i with
        | zero => simp at hx; exact ⟨y, by rw [← hx]; exact ha⟩
        | succ i => exact mapM_some hl i x (by simpa using hx)
/-- each cell fits its kind -/
def FitsL (sl : TypeId → Option Addr → Nat → Nat → Prop) : List LK → List Value → Prop
  | [], [] => True
  | k :: ks, v :: vs => k.fits sl v ∧ FitsL sl ks vs
  | _, _ => False
theorem FitsL.length {sl : TypeId → Option Addr → Nat → Nat → Prop} : ∀ {ks : List LK} {vs : List Value}, FitsL sl ks vs → vs.length = ks.length
  | [], [], _ => rfl
  | [], _ :: _, h => h.elim
  | _ :: _, [], h => h.elim
  | _ :: ks, _ :: vs, h => by simp [FitsL.length (ks := ks) (vs := vs) h.2]
theorem FitsL.append {sl : TypeId → Option Addr → Nat → Nat → Prop} : ∀ {ks : List LK} {vs : List Value} {ks' : List LK} {vs' : List Value}, FitsL sl ks vs → FitsL sl ks' vs' → FitsL sl (ks ++ ks') (vs ++ vs')
  | [], [], _, _, _, h => h
  | [], _ :: _, _, _, h, _ => h.elim
  | _ :: _, [], _, _, h, _ => h.elim
  | _ :: _, _ :: _, _, _, h, h' => ⟨h.1, FitsL.append h.2 h'⟩
theorem FitsL.at {sl : TypeId → Option Addr → Nat → Nat → Prop} : ∀ {ks : List LK} {vs : List Value}, FitsL sl ks vs → ∀ (i : Nat) (k : LK) (v : Value), ks[i]? = some k → vs[i]? = some v → k.fits sl v
  | [], _, _, i, k, v, hk, _ => by simp at hk
  | _ :: _, [], h, _, _, _, _, _ => h.elim
  | _ :: _, _ :: _, h, 0, k, v, hk, hv => by simp at hk hv; subst hk; subst hv; exact h.1
  | _ :: _, _ :: _, h, i + 1, k, v, hk, hv => FitsL.at h.2 i k v (by simpa using hk) (by simpa using hv)

/-- a number is of its kind -/
def okV : Value → Prop
  | .int k n => (Lit.int k n).wf = true
  | .float k n => (Lit.float k n).wf = true
  | .string s => s.size ≤ maxLen
  | _ => True
theorem LK.fits.ok {sl : TypeId → Option Addr → Nat → Nat → Prop} {k : LK} {v : Value} (h : k.fits sl v) : okV v := by
  cases k
  · obtain ⟨_, rfl⟩ := h; trivial
  · obtain ⟨_, rfl, h⟩ := h; exact h
  · obtain ⟨_, rfl, h⟩ := h; exact h
  · obtain ⟨_, rfl, h⟩ := h; exact h
  · obtain ⟨_, _, _, rfl, _⟩ := h; trivial
def OkL (l : List Value) : Prop := ∀ (i : Nat) (v : Value), l[i]? = some v → okV v
theorem FitsL.ok {sl : TypeId → Option Addr → Nat → Nat → Prop} {ks : List LK} {vs : List Value} (h : FitsL sl ks vs) : OkL vs := fun i v hv => by
  have hi : i < ks.length := by
    have := (List.getElem?_eq_some_iff.1 hv).1
    rw [h.length] at this; exact this
  exact (h.at i ks[i] v (List.getElem?_eq_getElem hi) hv).ok
theorem wf_bounds {k : IntKind} {n : Int} (h : (Lit.int k n).wf = true) : k.min ≤ n ∧ n ≤ k.max := by
  simpa [Lit.wf] using h
theorem foldK_fits {P : Program} {sl : TypeId → Option Addr → Nat → Nat → Prop} {g : TypeId → Option (List LK)} {cs : List Value} : ∀ (r : List Field) (l ks : List LK), FitsL sl l (cs.take l.length) →
    (∀ x ∈ r, ∀ m, g x.type = some m → FitsL sl m ((cs.drop x.offset).take (P.cellsOf x.type))) → foldK P g l r = some ks → FitsL sl ks (cs.take ks.length)
  | [], l, ks, hl, _, h => by
    simp only [foldK, Option.some.injEq] at h
    subst h; exact hl
  | x :: r, l, ks, hl, hr, h => by
    simp only [foldK] at h
    split at h
    · rename_i m hm
      split at h
      · rename_i hc
        refine foldK_fits r (l ++ m) ks ?_ (fun y hy => hr y (by simp [hy])) h
        have h1 := hr x (by simp) m hm
        rw [← hc.1, ← hc.2] at h1
        rw [List.length_append, List.take_add]
        exact hl.append h1
      · cases h
    · cases h
theorem rep_fits {sl : TypeId → Option Addr → Nat → Nat → Prop} {m : List LK} : ∀ (n : Nat) (cs : List Value), cs.length = n * m.length → (∀ i, i < n → FitsL sl m ((cs.drop (i * m.length)).take m.length)) → FitsL sl (List.replicate n m).flatten cs
  | 0, cs, h, _ => by
    have : cs = [] := by simpa using h
    subst this; trivial
  | n + 1, cs, h, hi => by
    rw [List.replicate_succ, List.flatten_cons]
    have h0 := hi 0 (by omega)
    simp only [Nat.zero_mul, List.drop_zero] at h0
    have hs : cs = cs.take m.length ++ cs.drop m.length := (List.take_append_drop _ _).symm
    rw [hs]
    refine h0.append (rep_fits n _ ?_ fun i hin => ?_)
    · rw [List.length_drop, h, Nat.succ_mul]; omega
    · have := hi (i + 1) (by omega)
      rwa [Nat.succ_mul, Nat.add_comm, ← List.drop_drop] at this
section
variable {H : Type} {enc : TypeId × Value → H} {P : Program} {w : World} {base : Nat} {spare : Nat → Bool} {held : Bool}
/-- a value that reads as data of a flat type has cells of that type's kinds -/
theorem flat_fits : ∀ (f : Nat) (t : TypeId) (ks : List LK) (fuel : Nat) (cs : List Value) (x : DataW H × List MemPlace), flatK P f t = some ks → DataW.trod enc P w base spare held fuel t cs = some x →
    FitsL (SlIn enc P w base spare held) ks cs
  | 0, _, _, _, _, _, h, _ => by cases h
  | _ + 1, _, _, 0, _, _, _, h => by cases h
  | f + 1, t, ks, fuel + 1, cs, x, h, hx => by
    have IH := flat_fits f
    unfold flatK at h
    unfold DataW.trod at hx
    cases hu : P.underlying t with
    | none => simp [hu] at h
    | some d =>
      cases d <;> simp only [hu] at h hx
      case bool =>
        cases h
        match cs, hx with
        | [.bool b], _ => exact ⟨⟨_, rfl⟩, trivial⟩
      case int k =>
        cases h
        match cs, hx with
        | [.int k' n], hx =>
          simp only at hx
          split at hx
          · rename_i hk
            obtain ⟨rfl, hk⟩ := hk
            exact ⟨⟨_, rfl, hk⟩, trivial⟩
          · cases hx
      case float k =>
        cases h
        match cs, hx with
        | [.float k' n], hx =>
          simp only at hx
          split at hx
          · rename_i hk
            obtain ⟨rfl, hk⟩ := hk
            exact ⟨⟨_, rfl, hk⟩, trivial⟩
          · cases hx
      case string =>
        cases h
        match cs, hx with
        | [.string s], hx =>
          simp only at hx
          split at hx
          · rename_i hk
            exact ⟨⟨_, rfl, hk⟩, trivial⟩
          · cases hx
      case slice e =>
        cases h
        match cs, hx with
        | [.slice none 0 0], _ => exact ⟨⟨_, _, _, rfl, .inl ⟨rfl, rfl, rfl⟩⟩, trivial⟩
        | [.slice (some a) len cap], hx =>
          simp only at hx
          split at hx
          · rename_i hc
            refine ⟨⟨_, _, _, rfl, .inr ⟨a, rfl, hc.2.1, hc.2.2, fun j hj => ?_⟩⟩, trivial⟩
            simp only [Option.bind_eq_some_iff] at hx
            obtain ⟨es, he, _⟩ := hx
            obtain ⟨y, hy⟩ := mapM_some he j j (by simp [hj])
            simp only [Option.bind_eq_some_iff] at hy
            obtain ⟨c, hc1, hc2⟩ := hy
            exact ⟨c, y.1, y.2, fuel, hc1, hc2⟩
          · cases hx
      case struct fs =>
        split at h
        · rename_i l hl
          split at h
          · rename_i hln
            cases h
            split at hx
            · rename_i hcl
              have := foldK_fits (cs := cs) (sl := SlIn enc P w base spare held) fs.toList [] _ trivial (fun y hy m hm => by
                simp only [Option.map_eq_some_iff] at hx
                obtain ⟨r, hr, _⟩ := hx
                obtain ⟨i, hi⟩ := List.getElem?_of_mem hy
                obtain ⟨z, hz⟩ := mapM_some hr i y hi
                exact IH _ _ _ _ _ hm hz) hl
              rwa [List.take_of_length_le (by omega)] at this
            · cases hx
          · cases h
        · cases h
      case array n e =>
        split at h
        · rename_i m hm
          split at h
          · rename_i hc
            cases h
            split at hx
            · rename_i hcl
              refine rep_fits n cs (by rw [hcl, hc.2]) fun i hi => ?_
              simp only [Option.map_eq_some_iff] at hx
              obtain ⟨r, hr, _⟩ := hx
              obtain ⟨z, hz⟩ := mapM_some hr i i (by simp [hi])
              rw [hc.1]
              exact IH _ _ _ _ _ hm hz
            · cases hx
          · cases h
        · cases h
      all_goals cases h
end
end Go.Proofs.Ytogekloaijidhaa
