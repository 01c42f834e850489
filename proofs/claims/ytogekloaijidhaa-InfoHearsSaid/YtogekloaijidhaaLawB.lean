/- WALKS: Does: a machine of a bridge does what the document says; here: info's. -/
import Derived.Test.YtogekloaijidhaaLawA
set_option maxRecDepth 100000
namespace Go.Proofs.Ytogekloaijidhaa
open Go Go.RowKit

/-- a bridge that is copied into a new variable -/
theorem own_copy {w1 X : World} {n1 p1 c1 : Nat} {b : Brg} {l : List Prt} (T : TypeId) (f1 : Fit w1 n1 0 18) (hG : Grow (put w1 n1 0 b.enc) X) (A1 : At X p1 0 (flat l)) (np1 : New (put w1 n1 0 b.enc) p1) :
    ∃ w3 n2, X.alloc (.cells ({ b with ports := ⟨some ⟨p1, 0, none⟩, l.length, c1⟩ } : Brg).enc.toArray T) = put (put w3 n1 0 b.enc) n2 0 ({ b with ports := ⟨some ⟨p1, 0, none⟩, l.length, c1⟩ } : Brg).enc ∧ n2 = X.heap.size ∧ Grow w1 w3 ∧ Fit w3 n1 0 18 ∧ Fit w3 n2 0 18 ∧ New w1 n2 ∧ n1 ≠ n2 ∧ n2 ≠ n1 ∧
      At w3 p1 0 (flat l) ∧ (p1 ≠ n1 ∧ n1 ≠ p1) ∧ (p1 ≠ n2 ∧ n2 ≠ p1) ∧ New w1 p1 := by
  have h1 := f1.lt
  unfold New at np1
  rw [put_size] at np1
  obtain ⟨w2, g2, rfl⟩ := hG.unput f1
  have hlt := A1.fit.lt
  rw [put_size] at hlt
  have A2 := A1.of_put_other (by omega)
  obtain ⟨w3, g3, f3, new3, ne12, ne21, e⟩ := own1 (l := b.enc) (g2.fit f1) ({ b with ports := ⟨some ⟨p1, 0, none⟩, l.length, c1⟩ } : Brg).enc T
  rw [Brg.length_enc] at f3
  exact ⟨w3, w2.heap.size, e, by rw [put_size], g2.trans g3, g3.fit (g2.fit f1), f3, g2.size, ne12, ne21, g3.at A2, ⟨by omega, by omega⟩, ⟨by omega, by omega⟩, np1⟩
set_option maxHeartbeats 4000000 in
theorem does_out (b : Brg) (l : List Prt) (i : Int) (hi : i < 0 ∨ (l.length : Int) ≤ i) (w : World) (hl : PortsIn w b.ports l) (hn : l.length ≤ 1000) :
    Calls Try.prog 8 #[.agg b.enc.toArray, .int .i64 i, .func (.func 9) #[] #[], .func (.func 10) #[] #[]] w fun e w' => e = .returned (.bool true) ∧ Grow w w' := by
  have HL := Lib.hid hl
  clear hl
  have HI := Lib.hid hi
  clear hi
  go_enter Try.func8, Try.ntmps8
  go_upto_region 1 with (fail)
  obtain ⟨w1, g1, f1, new1, e⟩ := box1 w b.enc 34; refine wp_in e ?_; clear e; simp only [Brg.length_enc] at f1; generalize w.heap.size = n1 at *
  have hW : Grow w (put w1 n1 0 b.enc) := Grow.new g1 new1
  go_wp2_with fail
  refine (copy_calls b l _ (HL.out.grow hW) hn).mono ?_
  rintro e X ⟨p1, c1, rfl, np1, hG, A1⟩
  go_upto_region 2 with (fail)
  obtain ⟨w3, n2, e, en, g3, f1, f2, new2, ne12, ne21, A1, ⟨pn1, np1'⟩, ⟨pn2, np2'⟩, newp⟩ := own_copy 34 (c1 := c1) f1 hG A1 np1
  rw [← en]
  refine wp_in e ?_
  clear e en hG np1 hW
  have new2 := new2.upto g1
  have newp := newp.upto g1
  have g1 := g1.trans g3
  clear g3
  have hV : Grow w (put (put w3 n1 0 b.enc) n2 0 ({ b with ports := ⟨some ⟨p1, 0, none⟩, l.length, c1⟩ } : Brg).enc) := Grow.new (Grow.new g1 new1) new2
  have hs : (put (put w3 n1 0 b.enc) n2 0 ({ b with ports := ⟨some ⟨p1, 0, none⟩, l.length, c1⟩ } : Brg).enc).cell? ⟨n2, 0 + 17, none⟩ = some (.slice (some ⟨p1, 0, none⟩) l.length c1) := put_cell (k := 17) ((Fit.put_far ne21).2 f2) rfl (by decide)
  have hB : At (put (put w3 n1 0 b.enc) n2 0 ({ b with ports := ⟨some ⟨p1, 0, none⟩, l.length, c1⟩ } : Brg).enc) n2 (0 + 6) [.bool b.rstp] := (At.of_put (l := ({ b with ports := ⟨some ⟨p1, 0, none⟩, l.length, c1⟩ } : Brg).enc) ((Fit.put_far ne21).2 f2)).sub (k := 6) rfl (by simp)
  have HS := Lib.hid hs
  clear hs
  go_wp2_with fail
  refine (step_out _ n2 0 l.length c1 (some ⟨p1, 0, none⟩) i HS.out HI.out).mono ?_
  rintro e X ⟨rfl, rfl⟩
  have hA' := (A1.put_other (l := flat l) (m := b.enc) (o' := 0) pn1).put_other (m := ({ b with ports := ⟨some ⟨p1, 0, none⟩, l.length, c1⟩ } : Brg).enc) (o' := 0) pn2
  clear HS hB
  go_wp2_with fail
  refine (copy_calls b l _ (HL.out.grow hV) hn).mono ?_
  rintro e X2 ⟨p2, c2, rfl, np2, hG2, A2⟩
  have hP2 : PortsIn X2 ⟨some ⟨p2, 0, none⟩, l.length, c2⟩ l := PortsIn.of_at A2
  have HP2 := Lib.hid hP2
  clear hP2
  go_wp2_with fail
  refine (step15_out ({ b with ports := ⟨some ⟨p2, 0, none⟩, l.length, c2⟩ } : Brg) l i _ rfl HI.out).mono ?_
  rintro e X3 ⟨rfl, h5⟩
  have hP3 := HP2.out.grow h5
  obtain ⟨s3, hs3⟩ : ∃ s3 : Sl, (⟨some ⟨p2, 0, none⟩, l.length, c2⟩ : Sl) = s3 := ⟨_, rfl⟩
  rw [hs3] at hP3 ⊢
  clear hs3
  have hG3 := hG2.trans h5
  have HP1 := Lib.hid ((PortsIn.of_at (c := c1) hA').grow hG3)
  have HP3 := Lib.hid hP3
  clear hP3 HP2 hA'
  obtain ⟨w5, g5, rfl⟩ := hG3.unput2 f1 f2 ne12
  have f1 := g5.fit f1
  have f2 := g5.fit f2
  have g1 := g1.trans g5
  clear hG2 hG3 h5 g5 hV
  go_upto_region 4 with (fail)
  obtain ⟨w6, g6, f3, new3, ⟨ne13, ne31⟩, ⟨ne23, ne32⟩, e⟩ := own2 (l1 := b.enc) (l2 := ({ b with ports := ⟨some ⟨p1, 0, none⟩, l.length, c1⟩ } : Brg).enc) f1 f2 ne12 ({ b with ports := s3 } : Brg).enc 34
  have hG6 := (Grow.refl (put (put w5 n1 0 b.enc) n2 0 ({ b with ports := ⟨some ⟨p1, 0, none⟩, l.length, c1⟩ } : Brg).enc)).alloc (.cells ({ b with ports := s3 } : Brg).enc.toArray 34)
  rw [e] at hG6
  refine wp_in e ?_
  clear e
  rw [Brg.length_enc] at f3
  have new3 := new3.upto g1
  have f1 := g6.fit f1
  have f2 := g6.fit f2
  have g1 := g1.trans g6
  generalize w5.heap.size = n3 at *
  have hQ1 := Lib.hid (HP1.out.grow hG6)
  have hQ3 := Lib.hid (HP3.out.grow hG6)
  clear g6 hG6 HP1 HP3
  go_wp2_with fail
  refine (same08_calls ({ b with ports := ⟨some ⟨p1, 0, none⟩, l.length, c1⟩ } : Brg) s3 l _ ?_ hQ3.out ?_).mono ?_
  · have := hQ1.out
    first | exact this | simpa using this
  · simpa using hn
  rintro e X ⟨rfl, h7⟩
  go_wp2
  go_ret
  exact ⟨rfl, (Grow.new (Grow.new (Grow.new g1 new1) new2) new3).trans h7⟩
set_option maxHeartbeats 4000000 in
theorem does_in (b : Brg) (l : List Prt) (i : Int) (k : Nat) (hi : i = k) (hk : k < l.length) (hp : l[k].wf) (hr : l[k].wfR) (w : World) (hl : PortsIn w b.ports l) (hn : l.length ≤ 1000) :
    Calls Try.prog 8 #[.agg b.enc.toArray, .int .i64 i, .func (.func 9) #[] #[], .func (.func 10) #[] #[]] w fun e w' => e = .returned (.bool true) ∧ Grow w w' := by
  have HL := Lib.hid hl
  clear hl
  subst hi
  have HP := Lib.hid hp
  have HR := Lib.hid hr
  clear hp hr
  go_enter Try.func8, Try.ntmps8
  go_upto_region 1 with (fail)
  obtain ⟨w1, g1, f1, new1, e⟩ := box1 w b.enc 34; refine wp_in e ?_; clear e; simp only [Brg.length_enc] at f1; generalize w.heap.size = n1 at *
  have hW : Grow w (put w1 n1 0 b.enc) := Grow.new g1 new1
  go_wp2_with fail
  refine (copy_calls b l _ (HL.out.grow hW) hn).mono ?_
  rintro e X ⟨p1, c1, rfl, np1, hG, A1⟩
  go_upto_region 2 with (fail)
  obtain ⟨w3, n2, e, en, g3, f1, f2, new2, ne12, ne21, A1, ⟨pn1, np1'⟩, ⟨pn2, np2'⟩, newp⟩ := own_copy 34 (c1 := c1) f1 hG A1 np1
  rw [← en]
  refine wp_in e ?_
  clear e en hG np1 hW
  have new2 := new2.upto g1
  have newp := newp.upto g1
  have g1 := g1.trans g3
  clear g3
  have hV : Grow w (put (put w3 n1 0 b.enc) n2 0 ({ b with ports := ⟨some ⟨p1, 0, none⟩, l.length, c1⟩ } : Brg).enc) := Grow.new (Grow.new g1 new1) new2
  have hs : (put (put w3 n1 0 b.enc) n2 0 ({ b with ports := ⟨some ⟨p1, 0, none⟩, l.length, c1⟩ } : Brg).enc).cell? ⟨n2, 0 + 17, none⟩ = some (.slice (some ⟨p1, 0, none⟩) l.length c1) := put_cell (k := 17) ((Fit.put_far ne21).2 f2) rfl (by decide)
  have hB : At (put (put w3 n1 0 b.enc) n2 0 ({ b with ports := ⟨some ⟨p1, 0, none⟩, l.length, c1⟩ } : Brg).enc) n2 (0 + 6) [.bool b.rstp] := (At.of_put (l := ({ b with ports := ⟨some ⟨p1, 0, none⟩, l.length, c1⟩ } : Brg).enc) ((Fit.put_far ne21).2 f2)).sub (k := 6) rfl (by simp)
  have HS := Lib.hid hs
  clear hs
  go_wp2_with fail
  have hAk := ((A1.put_other (l := flat l) (m := b.enc) (o' := 0) pn1).put_other (m := ({ b with ports := ⟨some ⟨p1, 0, none⟩, l.length, c1⟩ } : Brg).enc) (o' := 0) pn2).port k hk
  have hF := hAk.fit
  rw [Prt.length_enc] at hF
  refine calls_in hAk.put_self.symm ((step_in _ n2 0 p1 0 l.length c1 (0 + k * 90) k b.rstp l[k] HS.out (by omega) (by omega) (by simp) hF HP.out np2' hB).mono ?_)
  obtain ⟨q, hq⟩ : ∃ q, P.step b.rstp l[k] = q := ⟨_, rfl⟩
  rw [hq]
  have HQ := Lib.hid hq
  clear hq
  rintro e X ⟨rfl, X, gX, rfl⟩
  obtain ⟨w4, g4, rfl⟩ := gX.unput2 f1 f2 ne12
  have e : put (put (put w4 n1 0 b.enc) n2 0 ({ b with ports := ⟨some ⟨p1, 0, none⟩, l.length, c1⟩ } : Brg).enc) p1 (0 + k * 90) q.1.enc = put (put (put w4 p1 (0 + k * 90) q.1.enc) n1 0 b.enc) n2 0 ({ b with ports := ⟨some ⟨p1, 0, none⟩, l.length, c1⟩ } : Brg).enc := by
    rw [put_comm np2', put_comm np1']
  have A4 := (g4.at A1).put_port k hk q.1
  have f1 : Fit (put w4 p1 (0 + k * 90) q.1.enc) n1 0 18 := (Fit.put_far np1').2 (g4.fit f1)
  have f2 : Fit (put w4 p1 (0 + k * 90) q.1.enc) n2 0 18 := (Fit.put_far np2').2 (g4.fit f2)
  have g1 : Grow w (put w4 p1 (0 + k * 90) q.1.enc) := Grow.new (g1.trans g4) newp
  rw [e]
  clear e HS hB hV hAk hF gX A1 g4
  generalize put w4 p1 (0 + k * 90) q.1.enc = w3 at *
  have hV : Grow w (put (put w3 n1 0 b.enc) n2 0 ({ b with ports := ⟨some ⟨p1, 0, none⟩, l.length, c1⟩ } : Brg).enc) := Grow.new (Grow.new g1 new1) new2
  have hA' := (A4.put_other (m := b.enc) (o' := 0) pn1).put_other (m := ({ b with ports := ⟨some ⟨p1, 0, none⟩, l.length, c1⟩ } : Brg).enc) (o' := 0) pn2
  go_wp2_with fail
  refine (copy_calls b l _ (HL.out.grow hV) hn).mono ?_
  rintro e X2 ⟨p2, c2, rfl, np2, hG2, A2⟩
  have hP2 : PortsIn X2 ⟨some ⟨p2, 0, none⟩, l.length, c2⟩ l := PortsIn.of_at A2
  have HP2 := Lib.hid hP2
  clear hP2
  go_wp2_with fail
  refine (step15_in ({ b with ports := ⟨some ⟨p2, 0, none⟩, l.length, c2⟩ } : Brg) l _ k _ HP2.out hn rfl hk HP.out HR.out).mono ?_
  rintro e X3 ⟨p3, c3, rfl, np3, h5, A3⟩
  have hq' : P.step ({ b with ports := ⟨some ⟨p2, 0, none⟩, l.length, c2⟩ } : Brg).rstp l[k] = q := HQ.out
  rw [hq'] at A3 ⊢
  have hP3 := PortsIn.of_at (c := c3) A3
  obtain ⟨s3, hs3⟩ : ∃ s3 : Sl, (⟨some ⟨p3, 0, none⟩, (l.set k q.1).length, c3⟩ : Sl) = s3 := ⟨_, rfl⟩
  rw [hs3] at hP3 ⊢
  clear hs3 hq' np3 A3
  have hG3 := hG2.trans h5
  have HP1 := Lib.hid ((PortsIn.of_at (c := c1) hA').grow hG3)
  have HP3 := Lib.hid hP3
  clear hP3 HP2 hA'
  obtain ⟨w5, g5, rfl⟩ := hG3.unput2 f1 f2 ne12
  have f1 := g5.fit f1
  have f2 := g5.fit f2
  have g1 := g1.trans g5
  clear hG2 hG3 h5 g5 hV
  go_upto_region 4 with (fail)
  obtain ⟨w6, g6, f3, new3, ⟨ne13, ne31⟩, ⟨ne23, ne32⟩, e⟩ := own2 (l1 := b.enc) (l2 := ({ b with ports := ⟨some ⟨p1, 0, none⟩, l.length, c1⟩ } : Brg).enc) f1 f2 ne12 ({ b with ports := s3 } : Brg).enc 34
  have hG6 := (Grow.refl (put (put w5 n1 0 b.enc) n2 0 ({ b with ports := ⟨some ⟨p1, 0, none⟩, l.length, c1⟩ } : Brg).enc)).alloc (.cells ({ b with ports := s3 } : Brg).enc.toArray 34)
  rw [e] at hG6
  refine wp_in e ?_
  clear e
  rw [Brg.length_enc] at f3
  have new3 := new3.upto g1
  have f1 := g6.fit f1
  have f2 := g6.fit f2
  have g1 := g1.trans g6
  generalize w5.heap.size = n3 at *
  have hQ1 := Lib.hid (HP1.out.grow hG6)
  have hQ3 := Lib.hid (HP3.out.grow hG6)
  clear g6 hG6 HP1 HP3
  go_wp2_with fail
  refine (same08_calls ({ b with ports := ⟨some ⟨p1, 0, none⟩, l.length, c1⟩ } : Brg) s3 (l.set k q.1) _ ?_ hQ3.out ?_).mono ?_
  · have := hQ1.out
    first | exact this | simpa using this
  · simpa using hn
  rintro e X ⟨rfl, h7⟩
  go_wp2
  go_ret
  exact ⟨rfl, (Grow.new (Grow.new (Grow.new g1 new1) new2) new3).trans h7⟩
theorem does_calls (b : Brg) (l : List Prt) (i : Int) (w : World) (hl : PortsIn w b.ports l) (hn : l.length ≤ 1000) (hp : ∀ p ∈ l, p.wf ∧ p.wfR) :
    Calls Try.prog 8 #[.agg b.enc.toArray, .int .i64 i, .func (.func 9) #[] #[], .func (.func 10) #[] #[]] w fun e w' => e = .returned (.bool true) ∧ Grow w w' := by
  by_cases h : i < 0 ∨ (l.length : Int) ≤ i
  · exact does_out b l i h w hl hn
  · have hk : i.toNat < l.length := by omega
    have := hp l[i.toNat] (List.getElem_mem hk)
    exact does_in b l i i.toNat (by omega) hk this.1 this.2 w hl hn
end Go.Proofs.Ytogekloaijidhaa
