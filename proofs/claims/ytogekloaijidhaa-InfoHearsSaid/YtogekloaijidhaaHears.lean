/- WALKS: the law InfoHears. -/
import Derived.Test.YtogekloaijidhaaLawB
import Derived.Test.YtogekloaijidhaaBrIn
import Derived.Test.YtogekloaijidhaaOrdC
set_option maxRecDepth 100000
namespace Go.Proofs.Ytogekloaijidhaa
open Go Go.RowKit

/-- a port that is Current, and was told something -/
def told15 (p : Prt) (m : Bpdu) : Prt := { p with enabled := true, pim := 2, updtInfo := false, rcvdMsg := true, msg := m }
theorem told15_step (r : Bool) (p : Prt) (m : Bpdu) : P.step r (told15 p m) = (P.hear r (told15 p m), true) := by
  simp [P.step, told15]
theorem hear_msg (r : Bool) (p : Prt) : (P.hear r p).rcvdMsg = false := rfl
theorem hear_info (r : Bool) (p : Prt) : (P.hear r p).rcvdInfo = P.news p := by
  unfold P.hear
  simp only
  split
  · rfl
  · split
    · rfl
    · split
      · split <;> rfl
      · split <;> rfl
theorem told15_wf {p : Prt} {m : Bpdu} (h : p.wf ∧ p.wfR) (hm : OkL m.enc) : (told15 p m).wf ∧ (told15 p m).wfR :=
  ⟨⟨(bpdu_wf hm).1, (bpdu_wf hm).2.1, h.1.vport, h.1.hello⟩, ⟨(bpdu_wf hm).2.2, h.2.vb⟩⟩
theorem port_all {l : List Prt} (hok : ∀ p ∈ l, OkL p.enc) (hf : ∀ p ∈ l, fitsP p = true) : ∀ p ∈ l, p.wf ∧ p.wfR := fun p hp => port_wf (hok p hp) (hf p hp)
theorem step15_at (b : Brg) (l : List Prt) (i : Int) (k : Nat) (w : World) (hl : PortsIn w b.ports l) (hn : l.length ≤ 1000) (hi : i = k) (hk : k < l.length) (p : Prt) (hkp : l[k] = p) (hp : p.wf) (hr : p.wfR) :
    Calls Try.prog 10 #[.agg b.enc.toArray, .int .i64 i] w (StepPost b (l.set k (P.step b.rstp p).1) (P.step b.rstp p).2 w) := by
  subst hkp
  exact step15_in b l i k w hl hn hi hk hp hr
set_option maxHeartbeats 16000000 in
theorem infoHears_walk (b : Brg) (l : List Prt) (i : Int) (m : Bpdu) (w : World) (hl : PortsIn w b.ports l) (hlen : l.length ≤ maxLen) (hok : ∀ p ∈ l, OkL p.enc) (hm : OkL m.enc) :
    Calls Try.prog 4 #[.agg b.enc.toArray, .int .i64 i, .agg m.enc.toArray] w fun e w' => e = .returned (.bool true) ∧ Grow w w' := by
  have hnn : b.ports.n = l.length := hl.1
  have HL := Lib.hid hl
  have HK := Lib.hid hlen
  have HO := Lib.hid hok
  have HM := Lib.hid hm
  clear hl hlen hok hm
  go_enter Try.func4, Try.ntmps4
  go_upto_region 1 with (fail)
  obtain ⟨w1, g1, f1, f2, new1, new2, ne12, ne21, e⟩ := box2 w b.enc m.enc 34 43; refine wp_in e ?_; clear e; simp only [Brg.length_enc, Bpdu.length_enc] at f1 f2; generalize w.heap.size + 1 = n2 at *; generalize w.heap.size = n1 at *
  go_wp2_with fail
  refine (lives15_calls _).mono ?_
  rintro e X ⟨rfl, h5⟩
  (obtain ⟨w1, gx, rfl⟩ := h5.unput2 f1 f2 ne12; clear h5; have f1 := gx.fit f1; have f2 := gx.fit f2; have g1 := g1.trans gx; clear gx)
  have HI := Lib.hid (HL.out.grow (Grow.new (o := 0) (l := m.enc) (Grow.new (o := 0) (l := b.enc) g1 new1) new2))
  go_wp2_with fail
  refine (fits08_calls b l _ HI.out HK.out).mono ?_
  rintro e X ⟨r, rfl, hfit, h5⟩
  (obtain ⟨w1, gx, rfl⟩ := h5.unput2 f1 f2 ne12; clear h5; have f1 := gx.fit f1; have f2 := gx.fit f2; have g1 := g1.trans gx; clear gx)
  have HF := Lib.hid hfit
  clear hfit HI
  cases r
  · go_wp2_with fail
    refine (lives15_calls _).mono ?_
    rintro e X ⟨rfl, h5⟩
    (obtain ⟨w1, gx, rfl⟩ := h5.unput2 f1 f2 ne12; clear h5; have f1 := gx.fit f1; have f2 := gx.fit f2; have g1 := g1.trans gx; clear gx)
    go_wp2
    go_ret
    exact ⟨rfl, Grow.new (Grow.new g1 new1) new2⟩
  · by_cases hi0 : i < 0
    · go_wp2_with fail
      refine (lives15_calls _).mono ?_
      rintro e X ⟨rfl, h5⟩
      (obtain ⟨w1, gx, rfl⟩ := h5.unput2 f1 f2 ne12; clear h5; have f1 := gx.fit f1; have f2 := gx.fit f2; have g1 := g1.trans gx; clear gx)
      go_wp2
      go_ret
      exact ⟨rfl, Grow.new (Grow.new g1 new1) new2⟩
    · by_cases hi1 : (l.length : Int) ≤ i
      · go_wp2_with fail
        refine (lives15_calls _).mono ?_
        rintro e X ⟨rfl, h5⟩
        (obtain ⟨w1, gx, rfl⟩ := h5.unput2 f1 f2 ne12; clear h5; have f1 := gx.fit f1; have f2 := gx.fit f2; have g1 := g1.trans gx; clear gx)
        go_wp2
        go_ret
        exact ⟨rfl, Grow.new (Grow.new g1 new1) new2⟩
      · obtain ⟨k, rfl⟩ : ∃ k : Nat, i = k := ⟨i.toNat, by omega⟩
        have hk : k < l.length := by omega
        have hn : l.length ≤ 1000 := Nat.le_trans (HF.out (by trivial)).1 (by decide)
        have hpw := port_all HO.out (HF.out (by trivial)).2 l[k] (List.getElem_mem hk)
        have hpt := told15_wf hpw HM.out
        have HPT := Lib.hid hpt
        clear hpw hpt HO HF HM
        have HI := Lib.hid (HL.out.grow (Grow.new (o := 0) (l := m.enc) (Grow.new (o := 0) (l := b.enc) g1 new1) new2))
        go_wp2_with fail
        refine (copy_calls b l _ HI.out hn).mono ?_
        rintro e X ⟨p1, c1, rfl, np1, hG, A1⟩
        clear HI
        have lt1 := f1.lt
        have lt2 := f2.lt
        unfold New at np1
        simp only [put_size] at np1
        obtain ⟨w1, gx, rfl⟩ := hG.unput2 f1 f2 ne12
        clear hG
        have newp : New w p1 := Nat.le_trans g1.size np1
        have newp1 := newp
        have f1 := gx.fit f1
        have f2 := gx.fit f2
        have g1 := g1.trans gx
        have ltp := A1.fit.lt
        simp only [put_size] at ltp
        go_upto_region 4 with (fail)
        have A1 := A1.of_put_other (show p1 ≠ n2 by omega)
        have hW1 : Grow w (put w1 n1 0 b.enc) := Grow.new g1 new1
        have f2 : Fit (put w1 n1 0 b.enc) n2 0 10 := (Fit.put_far ne21).2 f2
        obtain ⟨w2, g2, f3, new3, ne23, ne32, e⟩ := own1 (l := m.enc) f2 ({ b with ports := ⟨some ⟨p1, 0, none⟩, l.length, c1⟩ } : Brg).enc 34
        refine wp_in e ?_
        clear e
        rw [put_size] at *
        rw [Brg.length_enc] at f3
        have A1 := g2.at A1
        have f2 := g2.fit f2
        have new3 : New w w1.heap.size := g1.size
        have pn2 : p1 ≠ n2 := by omega
        have pn3 : p1 ≠ w1.heap.size := by omega
        have hW2 : Grow w w2 := hW1.trans g2
        clear lt1 lt2 np1 ltp gx g2 hW1 f1 new1 ne12 ne21
        generalize w1.heap.size = n3 at *
        have hki : (k : Int) < (l.length : Int) := by omega
        go_upto_region 5 with (fail)
        have hAk := A1.port k hk
        rw [Nat.zero_add] at hAk
        have e : put (put w2 n2 0 m.enc) n3 0 ({ b with ports := ⟨some ⟨p1, 0, none⟩, l.length, c1⟩ } : Brg).enc = put (put (put w2 p1 (k * 90) l[k].enc) n2 0 m.enc) n3 0 ({ b with ports := ⟨some ⟨p1, 0, none⟩, l.length, c1⟩ } : Brg).enc := by rw [hAk.put_self]
        refine wp_in e ?_
        clear e
        have f4 := hAk.fit
        rw [Prt.length_enc] at f4
        have pn2' := pn2.symm
        have pn3' := pn3.symm
        have f2' : Fit (put w2 p1 (k * 90) l[k].enc) n2 0 10 := (Fit.put_far pn2').2 f2
        have hCC : ∀ q : Prt, rdCells (put (put (put w2.drew p1 (k * 90) q.enc) n2 0 m.enc) n3 0 ({ b with ports := ⟨some ⟨p1, 0, none⟩, l.length, c1⟩ } : Brg).enc) ⟨n2, 0, none⟩ 0 10 = some m.enc := fun q => (rdCells_put_other ne23).trans (rdCells_put ((Fit.put_far pn2').2 f2) rfl)
        refine wp_region_ordC (fun x => rdCells x ⟨n2, 0, none⟩ 0 10 = some m.enc) (Ord.rds [0, 1, 2, 3, 4, 5, 6, 7] (.alt 8 (Ord.rds [9, 10] (.alt 11 (Ord.rds [12, 13] (.alt 14 (Ord.rds [15, 16] (.alt 17 (Ord.rds [18, 19] (.alt 20 .done .stop)) .stop)) .stop)) .stop)) .stop)) (by kernel_rfl) (by kernel_rfl) (hCC _) ?_
        iterate 5 (refine wpC_rdy rfl ?_ (fun K hK => ?_); exact wanted_plain rfl; go_simp; refine hK _ ?_; clear hK K)
        refine wpC_rdy rfl ?_ (fun K hK => ?_)
        · exact wanted_plain rfl
        refine ⟨.agg m.enc.toArray, ?_, ?_⟩
        · intro x hx
          replace hx : rdCells x ⟨n2, 0, none⟩ 0 10 = some m.enc := hx
          go_simp
        go_simp
        refine hK _ ?_
        clear hK K
        iterate 2 (refine wpC_rdy rfl ?_ (fun K hK => ?_); exact wanted_plain rfl; go_simp; refine hK _ ?_; clear hK K)
        (refine wpC_efy rfl (wanted_plain rfl) (fun K hK _ => ?_) (hCC _) wpC_stop; go_simp; refine hK _ _ ⟨hCC _, ?_⟩; clear hK K)
        iterate 2 (refine wpC_rdy rfl ?_ (fun K hK => ?_); exact wanted_plain rfl; go_simp; refine hK _ ?_; clear hK K)
        (refine wpC_efy rfl (wanted_plain rfl) (fun K hK _ => ?_) (hCC _) wpC_stop; go_simp; refine hK _ _ ⟨hCC _, ?_⟩; clear hK K)
        iterate 2 (refine wpC_rdy rfl ?_ (fun K hK => ?_); exact wanted_plain rfl; go_simp; refine hK _ ?_; clear hK K)
        (refine wpC_efy rfl (wanted_plain rfl) (fun K hK _ => ?_) (hCC _) wpC_stop; go_simp; refine hK _ _ ⟨hCC _, ?_⟩; clear hK K)
        iterate 2 (refine wpC_rdy rfl ?_ (fun K hK => ?_); exact wanted_plain rfl; go_simp; refine hK _ ?_; clear hK K)
        (refine wpC_efy rfl (wanted_plain rfl) (fun K hK _ => ?_) (hCC _) wpC_stop; go_simp; refine hK _ _ ⟨hCC _, ?_⟩; clear hK K)
        iterate 2 (refine wpC_rdy rfl ?_ (fun K hK => ?_); exact wanted_plain rfl; go_simp; refine hK _ ?_; clear hK K)
        (refine wpC_efy rfl (wanted_plain rfl) (fun K hK _ => ?_) (hCC _) wpC_stop; go_simp; refine hK _ _ ⟨hCC _, ?_⟩; clear hK K)
        refine wpC_done ?_
        go_upto_region 6 with (fail)
        have HST : Hid (P.step b.rstp (told15 l[k] m) = (P.hear b.rstp (told15 l[k] m), true)) := Lib.hid (told15_step _ _ _)
        obtain ⟨w4, hw4⟩ : ∃ x, x = put (put w2.drew p1 (k * 90) (told15 l[k] m).enc) n2 0 m.enc := ⟨_, rfl⟩
        refine wp_in (w' := put w4 n3 0 ({ b with ports := ⟨some ⟨p1, 0, none⟩, l.length, c1⟩ } : Brg).enc) (by rw [hw4]; rfl) ?_
        have A4 : At w4 p1 0 (flat (l.set k (told15 l[k] m))) := by
          have := (At.drew.2 A1).put_port k hk (told15 l[k] m)
          rw [Nat.zero_add] at this
          rw [hw4]
          exact this.put_other pn2
        have g4 : Grow w w4 := by rw [hw4]; exact Grow.new (Grow.new hW2.drew newp) new2
        have f3 : Fit w4 n3 0 18 := by rw [hw4]; exact (Fit.put_far ne32).2 ((Fit.put_far pn3').2 (Fit.drew.2 f3))
        clear hw4 hAk f4 f2 f2' A1 hW2 HL HK pn2 pn2' ne23 ne32 new2 newp
        generalize told15 l[k] m = p' at *
        have hn' : (l.set k p').length ≤ 1000 := by simpa using hn
        have hk' : k < (l.set k p').length := by simpa using hk
        have hkp : (l.set k p')[k] = p' := List.getElem_set_self hk'
        have HKP := Lib.hid hkp
        clear hkp
        have HI2 : Hid (PortsIn (put w4 n3 0 ({ b with ports := ⟨some ⟨p1, 0, none⟩, l.length, c1⟩ } : Brg).enc) ({ b with ports := ⟨some ⟨p1, 0, none⟩, l.length, c1⟩ } : Brg).ports (l.set k p')) := Lib.hid (by
          have := PortsIn.of_at (c := c1) (A4.put_other (m := ({ b with ports := ⟨some ⟨p1, 0, none⟩, l.length, c1⟩ } : Brg).enc) (o' := 0) pn3)
          simpa using this)
        go_wp2_with fail
        refine (copy_calls ({ b with ports := ⟨some ⟨p1, 0, none⟩, l.length, c1⟩ } : Brg) (l.set k p') _ HI2.out hn').mono ?_
        rintro e X ⟨p2, c2, rfl, np2, hG, A5⟩
        clear HI2
        go_upto_region 7 with (fail)
        obtain ⟨w5, n4, e, en, g5, f3', f4, new4, ne34, ne43, A5, ⟨p2n3, np23⟩, ⟨p2n4, np24⟩, newp2⟩ := own_copy 34 (b := ({ b with ports := ⟨some ⟨p1, 0, none⟩, l.length, c1⟩ } : Brg)) (c1 := c2) f3 hG A5 np2
        simp only [List.length_set] at e
        rw [← en]
        refine wp_in (w' := put (put w5 n3 0 ({ b with ports := ⟨some ⟨p1, 0, none⟩, l.length, c1⟩ } : Brg).enc) n4 0 ({ b with ports := ⟨some ⟨p2, 0, none⟩, l.length, c2⟩ } : Brg).enc) e ?_
        have ltp1 := A4.fit.lt
        unfold New at new4 newp2
        have pn4 : p1 ≠ n4 := by omega
        have pn4' := pn4.symm
        have p12 : p2 ≠ p1 := by omega
        have p12' := p12.symm
        have new4 : New w n4 := Nat.le_trans g4.size new4
        have newp2 : New w p2 := Nat.le_trans g4.size newp2
        have A4 := g5.at A4
        have g4 := g4.trans g5
        clear e en hG np2 g5 ltp1 f3
        have hs : (put (put w5 n3 0 ({ b with ports := ⟨some ⟨p1, 0, none⟩, l.length, c1⟩ } : Brg).enc) n4 0 ({ b with ports := ⟨some ⟨p2, 0, none⟩, l.length, c2⟩ } : Brg).enc).cell? ⟨n3, 0 + 17, none⟩ = some (.slice (some ⟨p1, 0, none⟩) l.length c1) := (put_cell_other ne34).trans (put_cell (k := 17) f3' rfl (by decide))
        have hB : At (put (put w5 n3 0 ({ b with ports := ⟨some ⟨p1, 0, none⟩, l.length, c1⟩ } : Brg).enc) n4 0 ({ b with ports := ⟨some ⟨p2, 0, none⟩, l.length, c2⟩ } : Brg).enc) n3 (0 + 6) [.bool b.rstp] := ((At.of_put (l := ({ b with ports := ⟨some ⟨p1, 0, none⟩, l.length, c1⟩ } : Brg).enc) f3').sub (k := 6) rfl (by simp)).put_other ne34
        have hAk := ((A4.put_other (m := ({ b with ports := ⟨some ⟨p1, 0, none⟩, l.length, c1⟩ } : Brg).enc) (o' := 0) pn3).put_other (m := ({ b with ports := ⟨some ⟨p2, 0, none⟩, l.length, c2⟩ } : Brg).enc) (o' := 0) pn4).port k hk'
        rw [HKP.out] at hAk
        have hF := hAk.fit
        rw [Prt.length_enc] at hF
        have HS := Lib.hid hs
        clear hs
        go_wp2_with fail
        refine calls_in hAk.put_self.symm ((step_in _ n3 0 p1 0 l.length c1 (0 + k * 90) k b.rstp p' HS.out (by omega) (by omega) (by simp) hF HPT.out.1 pn3' hB).mono ?_)
        rw [HST.out]
        have hqm := hear_msg b.rstp p'
        have hqi := hear_info b.rstp p'
        generalize P.hear b.rstp p' = q at *
        have HQM := Lib.hid hqm
        have HQI := Lib.hid hqi
        clear hqm hqi
        rintro e X ⟨rfl, X, gX, rfl⟩
        obtain ⟨w6, g6, rfl⟩ := gX.unput2 f3' f4 ne34
        have e : put (put (put w6 n3 0 ({ b with ports := ⟨some ⟨p1, 0, none⟩, l.length, c1⟩ } : Brg).enc) n4 0 ({ b with ports := ⟨some ⟨p2, 0, none⟩, l.length, c2⟩ } : Brg).enc) p1 (0 + k * 90) q.enc = put (put (put w6 p1 (0 + k * 90) q.enc) n3 0 ({ b with ports := ⟨some ⟨p1, 0, none⟩, l.length, c1⟩ } : Brg).enc) n4 0 ({ b with ports := ⟨some ⟨p2, 0, none⟩, l.length, c2⟩ } : Brg).enc := by
          rw [put_comm pn4', put_comm pn3']
        have A6 := (g6.at A4).put_port k hk' q
        have A8 : At (put w6 p1 (0 + k * 90) q.enc) p2 0 (flat (l.set k p')) := (g6.at A5).put_other p12
        have f3 : Fit (put w6 p1 (0 + k * 90) q.enc) n3 0 18 := (Fit.put_far pn3').2 (g6.fit f3')
        have f4 : Fit (put w6 p1 (0 + k * 90) q.enc) n4 0 18 := (Fit.put_far pn4').2 (g6.fit f4)
        have g4 : Grow w (put w6 p1 (0 + k * 90) q.enc) := Grow.new (g4.trans g6) newp1
        rw [e]
        clear e HS hB hAk hF gX A4 A5 g6 f3'
        generalize put w6 p1 (0 + k * 90) q.enc = w7 at *
        have HI3 : Hid (PortsIn (put (put w7 n3 0 ({ b with ports := ⟨some ⟨p1, 0, none⟩, l.length, c1⟩ } : Brg).enc) n4 0 ({ b with ports := ⟨some ⟨p2, 0, none⟩, l.length, c2⟩ } : Brg).enc) ({ b with ports := ⟨some ⟨p2, 0, none⟩, l.length, c2⟩ } : Brg).ports (l.set k p')) := Lib.hid (by
          have := PortsIn.of_at (c := c2) ((A8.put_other (m := ({ b with ports := ⟨some ⟨p1, 0, none⟩, l.length, c1⟩ } : Brg).enc) (o' := 0) p2n3).put_other (m := ({ b with ports := ⟨some ⟨p2, 0, none⟩, l.length, c2⟩ } : Brg).enc) (o' := 0) p2n4)
          simpa using this)
        go_wp2_with fail
        refine (step15_at ({ b with ports := ⟨some ⟨p2, 0, none⟩, l.length, c2⟩ } : Brg) (l.set k p') _ k _ HI3.out hn' rfl hk' p' HKP.out HPT.out.1 HPT.out.2).mono ?_
        rintro e X3 ⟨p3, c3, rfl, np3, h5, A3⟩
        have hst' : P.step ({ b with ports := ⟨some ⟨p2, 0, none⟩, l.length, c2⟩ } : Brg).rstp p' = (q, true) := HST.out
        rw [hst'] at A3 ⊢
        have hP3 := PortsIn.of_at (c := c3) A3
        simp only [List.length_set] at hP3 ⊢
        obtain ⟨s3, hs3⟩ : ∃ s3 : Sl, (⟨some ⟨p3, 0, none⟩, l.length, c3⟩ : Sl) = s3 := ⟨_, rfl⟩
        rw [hs3] at hP3
        simp only [hs3]
        have HP3 := Lib.hid hP3
        clear hP3 hs3 hst' np3 A3 HI3 HST
        obtain ⟨w8, g8, rfl⟩ := h5.unput2 f3 f4 ne34
        clear h5
        have A6 := g8.at A6
        have A8 := g8.at A8
        have f3 := g8.fit f3
        have f4 := g8.fit f4
        have g4 := g4.trans g8
        clear g8
        go_upto_region 9 with (fail)
        obtain ⟨w9, g9, f5, new5, ⟨ne35, ne53⟩, ⟨ne45, ne54⟩, e⟩ := own2 (l1 := ({ b with ports := ⟨some ⟨p1, 0, none⟩, l.length, c1⟩ } : Brg).enc) (l2 := ({ b with ports := ⟨some ⟨p2, 0, none⟩, l.length, c2⟩ } : Brg).enc) f3 f4 ne34 ({ b with ports := s3 } : Brg).enc 34
        have hG6 := (Grow.refl (put (put w8 n3 0 ({ b with ports := ⟨some ⟨p1, 0, none⟩, l.length, c1⟩ } : Brg).enc) n4 0 ({ b with ports := ⟨some ⟨p2, 0, none⟩, l.length, c2⟩ } : Brg).enc)).alloc (.cells ({ b with ports := s3 } : Brg).enc.toArray 34)
        rw [e] at hG6
        refine wp_in e ?_
        clear e
        rw [Brg.length_enc] at f5
        have ltp1 := A6.fit.lt
        have ltp2 := A8.fit.lt
        have pn5 : p1 ≠ w8.heap.size := by omega
        have p2n5 : p2 ≠ w8.heap.size := by omega
        have new5 := new5.upto g4
        have A6 := g9.at A6
        have A8 := g9.at A8
        have f3 := g9.fit f3
        have f4 := g9.fit f4
        have g4 := g4.trans g9
        clear ltp1 ltp2
        have hQ3 := Lib.hid (HP3.out.grow hG6)
        clear g9 hG6 HP3
        generalize w8.heap.size = n5 at *
        have hQ1 : Hid (PortsIn (put (put (put w9 n3 0 ({ b with ports := ⟨some ⟨p1, 0, none⟩, l.length, c1⟩ } : Brg).enc) n4 0 ({ b with ports := ⟨some ⟨p2, 0, none⟩, l.length, c2⟩ } : Brg).enc) n5 0 ({ b with ports := s3 } : Brg).enc) ({ b with ports := ⟨some ⟨p1, 0, none⟩, l.length, c1⟩ } : Brg).ports ((l.set k p').set k q)) := Lib.hid (by
          have := PortsIn.of_at (c := c1) (((A6.put_other (m := ({ b with ports := ⟨some ⟨p1, 0, none⟩, l.length, c1⟩ } : Brg).enc) (o' := 0) pn3).put_other (m := ({ b with ports := ⟨some ⟨p2, 0, none⟩, l.length, c2⟩ } : Brg).enc) (o' := 0) pn4).put_other (m := ({ b with ports := s3 } : Brg).enc) (o' := 0) pn5)
          simpa using this)
        have hkq : k < ((l.set k p').set k q).length := by simpa using hk
        have hA6 := A6.port k hkq
        rw [List.getElem_set_self hkq, Nat.zero_add] at hA6
        have hA8 := A8.port k hk'
        rw [HKP.out, Nat.zero_add] at hA8
        have c31 : w9.cell? ⟨p1, k * 90 + 31, none⟩ = some (.bool false) := by
          have := hA6.cell (k := 31) (by simp)
          rw [this, Prt.lget_rcvdMsg, HQM.out]
        have c45 : w9.cell? ⟨p1, k * 90 + 45, none⟩ = some (.int .i64 (P.news p')) := by
          have := hA6.cell (k := 45) (by simp)
          rw [this, Prt.lget_rcvdInfo, HQI.out]
        have hx : rdCells w9 ⟨p2, k * 90, none⟩ 0 90 = some p'.enc := by
          have := hA8.rd
          rwa [Prt.length_enc] at this
        have hn2 : ((l.set k p').set k q).length ≤ 1000 := by simpa using hn
        have hWW : Grow w (put (put (put w9 n3 0 ({ b with ports := ⟨some ⟨p1, 0, none⟩, l.length, c1⟩ } : Brg).enc) n4 0 ({ b with ports := ⟨some ⟨p2, 0, none⟩, l.length, c2⟩ } : Brg).enc) n5 0 ({ b with ports := s3 } : Brg).enc) := Grow.new (Grow.new (Grow.new g4 new3) new4) new5
        clear hA6 hA8 A6 A8 g4
        go_wp2_with fail
        refine wp_region_ord (Ord.rds [0, 1, 2, 3, 4, 5, 6] (.alt 7 (Ord.rds [8, 9, 10, 11, 12, 13, 14, 15, 16, 17, 18, 19, 20, 21, 22, 23, 24, 25, 26, 27, 28, 29] (.alt 30 (Ord.rds [31, 32, 33] .done) .stop)) .stop)) (by kernel_rfl) (by kernel_rfl) ?_
        repeat (first | (refine wpM_rdy rfl ?_ (fun K hK => ?_); exact wanted_plain rfl; go_simp; refine hK _ ?_; clear hK K) | (refine wpM_rdy rfl ?_ (fun K hK => ?_); exact wanted_yes rfl rfl rfl rfl; go_simp; refine hK _ ?_; clear hK K) | (refine wpM_rdn rfl ?_ (fun K hK => ?_); exact wanted_no rfl rfl rfl rfl; go_simp; refine hK _ ?_; clear hK K) | (refine wpM_rdn rfl ?_ (fun K hK => ?_); exact wanted_undef rfl rfl rfl rfl; go_simp; refine hK _ ?_; clear hK K))
        refine wpM_efy rfl ?_ (fun K hK _ => ?_) ((Grow.refl _).drew) wpM_stop; (first | exact wanted_plain rfl | exact wanted_yes rfl rfl rfl rfl)
        go_simp
        refine (same08_calls ({ b with ports := ⟨some ⟨p1, 0, none⟩, l.length, c1⟩ } : Brg) s3 ((l.set k p').set k q) _ (hQ1.out.grow (Grow.refl _).drew) (hQ3.out.grow (Grow.refl _).drew) hn2).mono ?_
        rintro e X ⟨rfl, h7⟩
        have g7 := (Grow.refl _).drew.trans h7
        refine hK _ _ ⟨g7, ?_⟩; clear hK K
        repeat (first | (refine wpM_rdy rfl ?_ (fun K hK => ?_); exact wanted_plain rfl; go_simp; refine hK _ ?_; clear hK K) | (refine wpM_rdy rfl ?_ (fun K hK => ?_); exact wanted_yes rfl rfl rfl rfl; go_simp; refine hK _ ?_; clear hK K) | (refine wpM_rdn rfl ?_ (fun K hK => ?_); exact wanted_no rfl rfl rfl rfl; go_simp; refine hK _ ?_; clear hK K) | (refine wpM_rdn rfl ?_ (fun K hK => ?_); exact wanted_undef rfl rfl rfl rfl; go_simp; refine hK _ ?_; clear hK K))
        refine wpM_efy rfl ?_ (fun K hK _ => ?_) (g7) wpM_stop; (first | exact wanted_plain rfl | exact wanted_yes rfl rfl rfl rfl)
        go_simp
        refine (news15_calls p' HPT.out.1.msg HPT.out.1.mport HPT.out.1.vport HPT.out.2 _).mono ?_
        rintro e X' ⟨rfl, h8⟩
        have g8 := g7.trans h8
        refine hK _ _ ⟨g8, ?_⟩; clear hK K
        repeat (first | (refine wpM_rdy rfl ?_ (fun K hK => ?_); exact wanted_plain rfl; go_simp; refine hK _ ?_; clear hK K) | (refine wpM_rdy rfl ?_ (fun K hK => ?_); exact wanted_yes rfl rfl rfl rfl; go_simp; refine hK _ ?_; clear hK K) | (refine wpM_rdn rfl ?_ (fun K hK => ?_); exact wanted_no rfl rfl rfl rfl; go_simp; refine hK _ ?_; clear hK K) | (refine wpM_rdn rfl ?_ (fun K hK => ?_); exact wanted_undef rfl rfl rfl rfl; go_simp; refine hK _ ?_; clear hK K))
        refine wpM_done ?_
        go_wp2
        go_ret
        exact ⟨rfl, hWW.trans g8⟩
end Go.Proofs.Ytogekloaijidhaa
