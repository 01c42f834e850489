/- A BRIDGE THAT CAME IN: its cells, and its ports. -/
import Derived.Test.YtogekloaijidhaaFits
import Derived.Test.YtogekloaijidhaaPorts
import Derived.Test.YtogekloaijidhaaRefC
import Derived.Test.YtogekloaijidhaaRefF
set_option maxRecDepth 100000
namespace Go.Proofs.Ytogekloaijidhaa
open Go Go.RowKit

theorem flatPort : flatK Try.prog 5 50 = some Prt.kinds := by kernel_rfl
theorem flatBpdu : flatK Try.prog 5 43 = some Bpdu.kinds := by kernel_rfl
theorem flatBridge : flatK Try.prog 5 34 = some (Brg.kinds 50) := by kernel_rfl
theorem sizePort : Try.prog.cellsOf 50 = 90 := by kernel_rfl
theorem mapM_cells {w : World} {a : Addr} : ∀ (n i : Nat), (List.range' i n).mapM (fun i => w.cell? (a.add i)) = rdCells w a i n
  | 0, i => rfl
  | n + 1, i => by
    rw [List.range'_succ, List.mapM_cons, mapM_cells n (i + 1)]
    simp only [rdCells]
    cases w.cell? (a.add i) with
    | none => rfl
    | some v => cases rdCells w a (i + 1) n <;> rfl
theorem cells_rd {w : World} {a : Addr} {n : Nat} {cs : List Value} (h : w.cells? 0 a n = some cs) : rdCells w a 0 n = some cs := by
  unfold World.cells? at h
  rw [if_pos (Nat.zero_le _), List.range_eq_range', mapM_cells] at h
  exact h
theorem list_of {P : Nat → Prt → Prop} : ∀ (n : Nat), (∀ j, j < n → ∃ p, P j p) → ∃ l : List Prt, l.length = n ∧ ∀ j (h : j < l.length), P j l[j]
  | 0, _ => ⟨[], rfl, fun j h => by simp at h⟩
  | n + 1, h => by
    obtain ⟨l, hl, hp⟩ := list_of n fun j hj => h j (by omega)
    obtain ⟨p, hpn⟩ := h n (by omega)
    refine ⟨l ++ [p], by simp [hl], fun j hj => ?_⟩
    by_cases hjn : j < l.length
    · rw [List.getElem_append_left hjn]; exact hp j hjn
    · have hj' : j = n := by simp at hj; omega
      subst hj'
      rw [List.getElem_append_right (by omega)]
      simpa [hl] using hpn
theorem spot_none {w : World} {a : Addr} {v : Value} (h : w.cell? a = some v) : a.spot = none := World.cell?_spot h
theorem ports_in {H : Type} {enc : TypeId × Value → H} {w : World} {spare : Nat → Bool} {held : Bool} {s : Sl} (h : SlIn enc Try.prog w 0 spare held 50 s.a s.n s.c) :
    ∃ l : List Prt, PortsIn w s l ∧ l.length ≤ maxLen ∧ ∀ p ∈ l, OkL p.enc := by
  rcases h with ⟨ha, hn, _⟩ | ⟨x, ha, hnc, hm, hx⟩
  · exact ⟨[], ⟨hn, fun k hk => by simp at hk⟩, Nat.zero_le _, fun p hp => by cases hp⟩
  · rw [sizePort] at hx
    obtain ⟨l, hl, hp⟩ := list_of (P := fun j p => w.cells? 0 (x.add (j * 90)) 90 = some p.enc ∧ OkL p.enc) s.n fun j hj => by
      obtain ⟨cs, d, ps, fuel, h1, h2⟩ := hx j hj
      obtain ⟨p, rfl, ok⟩ := Prt.of_fits (flat_fits 5 _ _ fuel cs _ flatPort h2)
      exact ⟨p, h1, ok⟩
    refine ⟨l, ⟨hl.symm, fun k hk => ?_⟩, by omega, fun p hpm => ?_⟩
    · have h0 := cells_rd (hp 0 (by omega)).1
      rw [Nat.zero_mul] at h0
      have hc := rdCells_get 90 0 _ h0 0 (by omega)
      rw [Prt.lget_id, Nat.add_zero] at hc
      simp only [Addr.add, if_true] at hc
      have hsp := spot_none hc
      obtain ⟨b, o, sp⟩ := x
      simp only at hsp
      subst hsp
      exact ⟨b, o, ha, by have := cells_rd (hp k hk).1; rwa [Addr.add_lit] at this⟩
    · obtain ⟨j, hj, rfl⟩ := List.mem_iff_getElem.1 hpm
      exact (hp j hj).2
theorem bridge_in {H : Type} {enc : TypeId × Value → H} {w : World} {spare : Nat → Bool} {held : Bool} {fuel : Nat} {cs : List Value} {x : DataW H × List MemPlace} (h : DataW.trod enc Try.prog w 0 spare held fuel 34 cs = some x) :
    ∃ (b : Brg) (l : List Prt), cs = b.enc ∧ PortsIn w b.ports l ∧ l.length ≤ maxLen ∧ ∀ p ∈ l, OkL p.enc := by
  obtain ⟨b, rfl, _, hs⟩ := Brg.of_fits (flat_fits 5 _ _ fuel cs x flatBridge h)
  obtain ⟨l, h1, h2, h3⟩ := ports_in hs
  exact ⟨b, l, rfl, h1, h2, h3⟩
theorem ok_u8 {l : List Value} (h : OkL l) (i : Nat) {n : Int} (e : l[i]? = some (.int .u8 n)) : 0 ≤ n ∧ n ≤ 255 := wf_bounds (k := .u8) (h i _ e)
theorem ok_u16 {l : List Value} (h : OkL l) (i : Nat) {n : Int} (e : l[i]? = some (.int .u16 n)) : 0 ≤ n ∧ n ≤ 65535 := wf_bounds (k := .u16) (h i _ e)
theorem ok_u64 {l : List Value} (h : OkL l) (i : Nat) {n : Int} (e : l[i]? = some (.int .u64 n)) : 0 ≤ n ∧ n ≤ 18446744073709551615 := wf_bounds (k := .u64) (h i _ e)
theorem bpdu_wf {m : Bpdu} (h : OkL m.enc) : m.wf ∧ (0 ≤ m.vector.port ∧ m.vector.port ≤ 65535) ∧ (0 ≤ m.vector.bridge ∧ m.vector.bridge ≤ 18446744073709551615) :=
  ⟨⟨ok_u8 h 1 rfl, ok_u16 h 6 rfl, ok_u16 h 7 rfl, ok_u16 h 8 rfl, ok_u16 h 9 rfl⟩, ok_u16 h 5 rfl, ok_u64 h 4 rfl⟩
theorem port_msg {p : Prt} (h : OkL p.enc) : OkL p.msg.enc := fun i v hv => h (72 + i) v (by
  have e : (p.enc.drop 72).take 10 = p.msg.enc := rfl
  rw [← e] at hv
  have hi : i < 10 := by
    have := (List.getElem?_eq_some_iff.1 hv).1
    rw [e] at this
    simpa using this
  rw [List.getElem?_take_of_lt hi, List.getElem?_drop] at hv
  exact hv)
theorem port_wf {p : Prt} (h : OkL p.enc) (hf : fitsP p = true) : p.wf ∧ p.wfR := by
  have hm := bpdu_wf (port_msg h)
  have hh : inr p.portTimes.hello = true := by
    simp only [fitsP, Bool.and_eq_true] at hf
    have := hf.2
    simp only [fitsT, List.all_cons, Bool.and_eq_true] at this
    exact this.2.2.1
  exact ⟨⟨hm.1, hm.2.1, ok_u16 h 59 rfl, inr_iff.1 hh⟩, ⟨hm.2.2, ok_u64 h 58 rfl⟩⟩
end Go.Proofs.Ytogekloaijidhaa
