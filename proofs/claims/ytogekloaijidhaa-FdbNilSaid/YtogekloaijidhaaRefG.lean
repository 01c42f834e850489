/- WALKS: the reference's Copy: a bridge with ports of its own. -/
import Derived.Test.YtogekloaijidhaaRefB
import Derived.Test.YtogekloaijidhaaPorts
import Derived.Deep.AppendSrc
set_option maxRecDepth 100000
namespace Go.Proofs.Ytogekloaijidhaa
open Go Go.RowKit

theorem infoPort : (Try.prog.info? 50).map (fun i => (i.zero, i.size, i.bytes)) = some (some (.agg Prt.zero.enc.toArray), 90, 464) := by kernel_rfl
theorem undPorts : Try.prog.underlying 32 = some (.slice 50) := by kernel_rfl
/-- a bridge like b, whose ports l are its own -/
def CopyPost (b : Brg) (l : List Prt) (w : World) (e : Ending) (w' : World) : Prop :=
  ∃ pb c, e = .returned (.agg ({ b with ports := ⟨some ⟨pb, 0, none⟩, l.length, c⟩ } : Brg).enc.toArray) ∧ New w pb ∧ Grow w w' ∧ At w' pb 0 (flat l)
theorem owned {w : World} {base e : Nat} {v : Value} {m : Nat} {l : List Prt} (h : w.ownsRow base e 90 v m (flat l)) (hne : v ≠ .slice none 0 0) : ∃ g c, v = .slice (some ⟨g, 0, none⟩) m c ∧ base ≤ g ∧ At w g 0 (flat l) := by
  obtain ⟨hl, h | ⟨g, cap, cur, hv, hg, hb, hn, hm, hs, ht⟩⟩ := h
  · exact absurd h.1 hne
  · subst hv
    obtain ⟨g', e1, _, hb', hA⟩ := At.of_owns (w := w) (base := base) (e := e) (l := l) ⟨hl, .inr ⟨g, cap, cur, rfl, hg, hb, hn, hm, hs, ht⟩⟩ (by simp)
    cases e1
    exact ⟨g, cap, rfl, hb', hA⟩
set_option maxHeartbeats 4000000 in
theorem copy_calls (b : Brg) (l : List Prt) (w : World) (hl : PortsIn w b.ports l) (hn : l.length ≤ 1000) :
    Calls Try.prog 11 #[.agg b.enc.toArray] w (CopyPost b l w) := by
  obtain ⟨i0, hi, hz0, hz1, hz2⟩ := info_parts infoPort
  have HL := Lib.hid hl
  clear hl
  go_enter Try.func11, Try.ntmps11
  go_upto_region 1 with (fail)
  obtain ⟨w1, g1, f1, f2, new1, new2, ne12, ne21, e⟩ := box2 w b.enc Brg.zero.enc 34 34; refine wp_in e ?_; clear e; simp only [Brg.length_enc, Brg.length_enc] at f1 f2; generalize w.heap.size + 1 = n2 at *; generalize w.heap.size = n1 at *
  have hW : Grow w (put (put w1 n1 0 b.enc) n2 0 Brg.zero.enc) := Grow.new (Grow.new g1 new1) new2
  have HI := Lib.hid (HL.out.grow hW)
  have lt1 := f1.lt
  have lt2 := f2.lt
  have hnn : b.ports.n = l.length := HL.out.1
  cases ha : b.ports.a with
  | none =>
    have hl0 : l = [] := by
      cases l with
      | nil => rfl
      | cons p l =>
        obtain ⟨_, _, e, _⟩ := HL.out.2 0 (by simp)
        rw [ha] at e; cases e
    subst hl0
    rw [List.length_nil] at hnn
    go_upto_region 2 with (fail)
    have hA : At ((put (put w1 n1 0 ({ b with ports := ⟨some ⟨w1.heap.size, 0, none⟩, 0, 0⟩ } : Brg).enc) n2 0 Brg.zero.enc).alloc (.cells #[] 50)) w1.heap.size 0 (flat []) := by
      have := At.alloc_new (put (put w1 n1 0 ({ b with ports := ⟨some ⟨w1.heap.size, 0, none⟩, 0, 0⟩ } : Brg).enc) n2 0 Brg.zero.enc) [] 50
      simpa [flat_nil] using this
    obtain ⟨w2, g2, e⟩ := ((Grow.refl (put (put w1 n1 0 ({ b with ports := ⟨some ⟨w1.heap.size, 0, none⟩, 0, 0⟩ } : Brg).enc) n2 0 Brg.zero.enc)).alloc (.cells #[] 50)).unput2 f1 f2 ne12
    rw [e] at hA
    refine wp_in e ?_
    clear e HI HL hW
    have newg : New w w1.heap.size := New.upto (Nat.le_refl _) g1
    replace f1 := g2.fit f1
    replace f2 := g2.fit f2
    replace g1 := g1.trans g2
    clear g2
    generalize hg : w1.heap.size = g at *
    obtain ⟨c, hc⟩ : ∃ c : Nat, c = 0 := ⟨0, rfl⟩
    have HA := Lib.hid hA
    clear hA
    go_wp2
    refine bodyPost_ret (v := .agg ({ b with ports := ⟨some ⟨g, 0, none⟩, 0, 0⟩ } : Brg).enc.toArray) ?_ rfl ⟨g, 0, rfl, newg, Grow.new (Grow.new g1 new1) new2, ?_⟩
    · simp [results, Try.results11, go_sem, f2, ne21]
    · exact (((HA.out.of_put_other (by omega)).of_put_other (by omega)).put_other (by omega)).put_other (by omega)
  | some ad =>
    have hown : ((put (put w1 n1 0 b.enc) n2 0 Brg.zero.enc).alloc (.cells #[] 50)).ownsRow w1.heap.size 50 90 (.slice (some ⟨w1.heap.size, 0, none⟩) 0 0) 0 [] := by
      have := World.ownsRow_made (base := w1.heap.size) (e := 50) (size := 90) (put (put w1 n1 0 b.enc) n2 0 Brg.zero.enc) #[] 0 (by simp) (Nat.zero_le _) rfl
      simpa using this
    have HO := Lib.hid hown
    clear hown
    go_wp2_with (at_builtin; go_loud (refine wpList_append_own _ rfl (.tmp 3) (.tmp 5) 32 rfl w1.heap.size 50 i0 (.agg Prt.zero.enc.toArray) 90 464 undPorts hi hz0 hz1 hz2 rfl (by decide) _ 0 [] rfl HO.out ad l.length b.ports.c (flat l) rfl ?c1 ?c2 ?c3 ?c4 ?c5 ?c6 ?_))
    case c1 => rw [flat_length]
    case c2 => exact (HI.out.grow ((Grow.refl _).alloc _)).cells ha
    case c3 => exact all_flat l
    case c4 => unfold maxLen; omega
    case c5 => omega
    case c6 => simp
    intro v' w' hown' hgrow hnil
    obtain ⟨g, c, rfl, newg, hA⟩ := owned hown' hnil
    have hG := Grow.of_grown hgrow rfl ((Grow.refl (put (put w1 n1 0 b.enc) n2 0 Brg.zero.enc)).alloc _) (by simp)
    obtain ⟨w2, g2, rfl⟩ := hG.unput2 f1 f2 ne12
    clear hown' hgrow hnil hG HI HL hW HO
    have f1 := g2.fit f1
    have f2 := g2.fit f2
    have newg' : New w g := New.upto (show New w1 g from newg) g1
    have g1 := g1.trans g2
    clear g2
    have HA := Lib.hid hA
    clear hA
    go_wp2
    refine bodyPost_ret (v := .agg ({ b with ports := ⟨some ⟨g, 0, none⟩, l.length, c⟩ } : Brg).enc.toArray) ?_ rfl ⟨g, c, rfl, newg', Grow.new (Grow.new g1 new1) new2, ?_⟩
    · simp [results, Try.results11, go_sem, f2, ne21]
    · exact (((HA.out.of_put_other (by omega)).of_put_other (by omega)).put_other (by omega)).put_other (by omega)
end Go.Proofs.Ytogekloaijidhaa
