/- WALKS: a table of nine slots, learnt into, asked, flushed. -/
import Derived.Test.YtogekloaijidhaaFdbB
import Derived.Test.YtogekloaijidhaaLawA
set_option maxRecDepth 100000
namespace Go.Proofs.Ytogekloaijidhaa
open Go Go.RowKit

def ent1 : Ent := { Ent.zero with mac := mac0, port := 1 }
theorem tab9_of {w : World} {nt ns nu : Nat} {n : Int} {s u : List Value} (fT : Fit w nt 0 4) (sn : ns ≠ nu) (st : ns ≠ nt) (ut : nu ≠ nt) : Tab9 (put (put (put w ns 0 s) nu 0 u) nt 0 (tab ns nu n).enc) nt ns nu :=
  ⟨put_cell (k := 0) ((Fit.put_far ut.symm).2 ((Fit.put_far st.symm).2 fT)) rfl (by decide), put_cell (k := 1) ((Fit.put_far ut.symm).2 ((Fit.put_far st.symm).2 fT)) rfl (by decide)⟩
theorem tab9_put {W : World} {nt ns nu n4 : Nat} {l : List Value} (h : Tab9 W nt ns nu) (d : nt ≠ n4) : Tab9 (put W n4 0 l) nt ns nu := ⟨(put_cell_other (a := ⟨nt, 0, none⟩) d).trans h.slots, (put_cell_other (a := ⟨nt, 1, none⟩) d).trans h.used⟩
theorem used_of {w : World} {nt ns nu : Nat} {s t : List Value} {u : U9} (fU : Fit w nu 0 9) (sn : ns ≠ nu) (ut : nu ≠ nt) : (put (put (put w ns 0 s) nu 0 u.enc) nt 0 t).cell? ⟨nu, 5, none⟩ = some (.int .u8 u.u5) :=
  (put_cell_other ut).trans (put_cell (k := 5) ((Fit.put_far sn.symm).2 fU) rfl (by decide))
theorem unput4 {w w' : World} {b1 b2 b3 b4 o1 o2 o3 o4 : Nat} {l1 l2 l3 l4 : List Value} (h : Grow (put (put (put (put w b1 o1 l1) b2 o2 l2) b3 o3 l3) b4 o4 l4) w') (h1 : Fit w b1 o1 l1.length) (h2 : Fit w b2 o2 l2.length) (h3 : Fit w b3 o3 l3.length)
    (h4 : Fit w b4 o4 l4.length) (hb : b1 ≠ b2) (hb1 : b1 ≠ b3) (hb2 : b2 ≠ b3) (d1 : b1 ≠ b4) (d2 : b2 ≠ b4) (d3 : b3 ≠ b4) : ∃ w1, Grow w w1 ∧ w' = put (put (put (put w1 b1 o1 l1) b2 o2 l2) b3 o3 l3) b4 o4 l4 := by
  obtain ⟨w1, g1, rfl⟩ := h.unput ((Fit.put_far d3.symm).2 ((Fit.put_far d2.symm).2 ((Fit.put_far d1.symm).2 h4)))
  obtain ⟨w2, g2, rfl⟩ := g1.unput3 h1 h2 h3 hb hb1 hb2
  exact ⟨w2, g2, rfl⟩
/-- a block that is made beside three that are put -/
theorem own3 {w : World} {b1 b2 b3 o1 o2 o3 : Nat} {l1 l2 l3 : List Value} (f1 : Fit w b1 o1 l1.length) (f2 : Fit w b2 o2 l2.length) (f3 : Fit w b3 o3 l3.length) (h12 : b1 ≠ b2) (h13 : b1 ≠ b3) (h23 : b2 ≠ b3) (m : List Value) (T : TypeId) :
    ∃ w2, Grow w w2 ∧ Fit w2 w.heap.size 0 m.length ∧ New w w.heap.size ∧ (b1 ≠ w.heap.size ∧ w.heap.size ≠ b1) ∧ (b2 ≠ w.heap.size ∧ w.heap.size ≠ b2) ∧ (b3 ≠ w.heap.size ∧ w.heap.size ≠ b3) ∧
    (put (put (put w b1 o1 l1) b2 o2 l2) b3 o3 l3).alloc (.cells m.toArray T) = put (put (put (put w2 b1 o1 l1) b2 o2 l2) b3 o3 l3) w.heap.size 0 m := by
  obtain ⟨w1, g1, f, _, e⟩ := alloc_put (put (put (put w b1 o1 l1) b2 o2 l2) b3 o3 l3) m T
  rw [put_size, put_size, put_size] at f e
  obtain ⟨w2, g2, rfl⟩ := g1.unput3 f1 f2 f3 h12 h13 h23
  have h1 := f1.lt
  have h2 := f2.lt
  have h3 := f3.lt
  have n1 : b1 ≠ w.heap.size := by omega
  have n2 : b2 ≠ w.heap.size := by omega
  have n3 : b3 ≠ w.heap.size := by omega
  exact ⟨w2, g2, (Fit.put_far n1.symm).1 ((Fit.put_far n2.symm).1 ((Fit.put_far n3.symm).1 f)), Nat.le_refl _, ⟨n1, n1.symm⟩, ⟨n2, n2.symm⟩, ⟨n3, n3.symm⟩, e⟩
set_option maxHeartbeats 4000000 in
theorem put_calls (w : World) (nt ns nu : Nat) (fS : Fit w ns 0 90) (fU : Fit w nu 0 9) (fT : Fit w nt 0 4) (sn : ns ≠ nu) (st : ns ≠ nt) (ut : nu ≠ nt) :
    Calls Try.prog 42 #[.pointer (some ⟨nt, 0, none⟩), .agg ent1.enc.toArray] (put (put (put w ns 0 (Sl9.zero).enc) nu 0 (U9.zero).enc) nt 0 (tab ns nu 0).enc) fun e w' => e = .returned (.bool true) ∧ ∃ w1, Grow w w1 ∧ w' = put (put (put w1 ns 0 ({ Sl9.zero with s5 := ent1 }).enc) nu 0 ({ U9.zero with u5 := 1 }).enc) nt 0 (tab ns nu 1).enc := by
  have lS := fS.lt
  have lU := fU.lt
  have lT := fT.lt
  have sn' := sn.symm
  have st' := st.symm
  have ut' := ut.symm
  go_enter Try.func42, Try.ntmps42
  go_upto_region 1 with (fail)
  obtain ⟨w1, g1, f4, new4, ⟨d1, d1'⟩, ⟨d2, d2'⟩, ⟨d3, d3'⟩, e⟩ := own3 (l1 := Sl9.zero.enc) (l2 := U9.zero.enc) (l3 := (tab ns nu 0).enc) fS fU fT sn st ut ent1.enc 60
  refine wp_in e ?_
  clear e
  rw [Ent.length_enc] at f4
  generalize w.heap.size = n4 at *
  have fS := g1.fit fS
  have fU := g1.fit fU
  have fT := g1.fit fT
  have T9 : Tab9 (put (put (put (put w1 ns 0 (Sl9.zero).enc) nu 0 (U9.zero).enc) nt 0 (tab ns nu 0).enc) n4 0 ent1.enc) nt ns nu := ⟨(put_cell_other d3).trans (tab9_of fT sn st ut).slots, (put_cell_other d3).trans (tab9_of fT sn st ut).used⟩
  have U5 : (put (put (put (put w1 ns 0 (Sl9.zero).enc) nu 0 (U9.zero).enc) nt 0 (tab ns nu 0).enc) n4 0 ent1.enc).cell? ⟨nu, 5, none⟩ = some (.int .u8 0) := (put_cell_other d2).trans (used_of (u := U9.zero) fU sn ut)
  have H9 := Lib.hid T9
  have H5 := Lib.hid U5
  clear T9 U5
  go_wp2_with fail
  refine (find_free _ nt ns nu H9.out H5.out).mono ?_
  rintro e X ⟨rfl, h5⟩
  obtain ⟨w2, g2, rfl⟩ := unput4 (l1 := Sl9.zero.enc) (l2 := U9.zero.enc) (l3 := (tab ns nu 0).enc) (l4 := ent1.enc) h5 fS fU fT f4 sn st ut d1 d2 d3
  have fS := g2.fit fS
  have fU := g2.fit fU
  have fT := g2.fit fT
  have f4 := g2.fit f4
  have g1 := g1.trans g2
  clear h5 g2 H9 H5
  have k1 : (tab ns nu 0).n = 0 := rfl
  have k2 : (tab ns nu 0).most = 4 := rfl
  have k3 : (tab ns nu 0).slots = ⟨some ⟨ns, 0, none⟩, 9, 9⟩ := rfl
  have k4 : (tab ns nu 0).used = ⟨some ⟨nu, 0, none⟩, 9, 9⟩ := rfl
  go_wp2_with fail
  refine wp_region_ord (Ord.rds [0, 1, 2, 3, 4, 5, 6, 7, 8] .done) (by kernel_rfl) (by kernel_rfl) ?_
  repeat (first | (refine wpM_rdy rfl ?_ (fun K hK => ?_); exact wanted_plain rfl; go_simp; refine hK _ ?_; clear hK K) | (refine wpM_rdy rfl ?_ (fun K hK => ?_); exact wanted_yes rfl rfl rfl rfl; go_simp; refine hK _ ?_; clear hK K) | (refine wpM_rdn rfl ?_ (fun K hK => ?_); exact wanted_no rfl rfl rfl rfl; go_simp; refine hK _ ?_; clear hK K) | (refine wpM_rdn rfl ?_ (fun K hK => ?_); exact wanted_undef rfl rfl rfl rfl; go_simp; refine hK _ ?_; clear hK K))
  refine wpM_done ?_
  go_wp2_with fail
  refine wp_region_ordS [12, 14] (Ord.rds [0, 1, 2, 3, 4, 5, 6, 7, 8, 9, 10, 11] (.alt 12 (Ord.rds [13] (.alt 14 .done .stop)) .stop)) (by kernel_rfl) (by kernel_rfl) ?_
  repeat (first | (refine wpS_rdy rfl ?_ (fun K hK => ?_); exact wanted_plain rfl; go_simp; refine hK _ ?_; clear hK K) | (refine wpS_rdy rfl ?_ (fun K hK => ?_); exact wanted_yes rfl rfl rfl rfl; go_simp; refine hK _ ?_; clear hK K) | (refine wpS_rdn rfl ?_ (fun K hK => ?_); exact wanted_no rfl rfl rfl rfl; go_simp; refine hK _ ?_; clear hK K) | (refine wpS_rdn rfl ?_ (fun K hK => ?_); exact wanted_undef rfl rfl rfl rfl; go_simp; refine hK _ ?_; clear hK K))
  (refine wpS_sty rfl rfl ?_ (fun K hK => ?_) wpS_stop; exact wanted_plain rfl; go_simp; refine hK _ _ ?_; clear hK K)
  repeat (first | (refine wpS_rdy rfl ?_ (fun K hK => ?_); exact wanted_plain rfl; go_simp; refine hK _ ?_; clear hK K) | (refine wpS_rdy rfl ?_ (fun K hK => ?_); exact wanted_yes rfl rfl rfl rfl; go_simp; refine hK _ ?_; clear hK K) | (refine wpS_rdn rfl ?_ (fun K hK => ?_); exact wanted_no rfl rfl rfl rfl; go_simp; refine hK _ ?_; clear hK K) | (refine wpS_rdn rfl ?_ (fun K hK => ?_); exact wanted_undef rfl rfl rfl rfl; go_simp; refine hK _ ?_; clear hK K))
  (refine wpS_sty rfl rfl ?_ (fun K hK => ?_) wpS_stop; exact wanted_plain rfl; go_simp; refine hK _ _ ?_; clear hK K)
  refine wpS_done ?_
  go_wp2
  go_ret
  refine ⟨rfl, put w2.drew.drew n4 0 ent1.enc, Grow.new g1.drew.drew new4, ?_⟩
  rw [put_comm d3, put_comm d2, put_comm d1]
  rfl
theorem grouped0_calls (w : World) : Calls Try.prog 41 #[.agg mac0.enc.toArray] w fun e w' => e = .returned (.bool false) ∧ Grow w w' := by
  have k0 : mac0.b0 = 2 := rfl
  have k1 : bits .and .u8 2 1 = 0 := by kernel_rfl
  go_enter Try.func41, Try.ntmps41
  go_wp2
  go_ret
  exact ⟨rfl, (Grow.refl _).alloc _⟩
set_option maxHeartbeats 4000000 in
theorem learn_calls (w : World) (nt ns nu : Nat) (fS : Fit w ns 0 90) (fU : Fit w nu 0 9) (fT : Fit w nt 0 4) (sn : ns ≠ nu) (st : ns ≠ nt) (ut : nu ≠ nt) :
    Calls Try.prog 17 #[.pointer (some ⟨nt, 0, none⟩), .agg mac0.enc.toArray, .int .i64 1] (put (put (put w ns 0 (Sl9.zero).enc) nu 0 (U9.zero).enc) nt 0 (tab ns nu 0).enc) fun e w' => e = .returned (.bool true) ∧ ∃ w1, Grow w w1 ∧ w' = put (put (put w1 ns 0 ({ Sl9.zero with s5 := ent1 }).enc) nu 0 ({ U9.zero with u5 := 1 }).enc) nt 0 (tab ns nu 1).enc := by
  have lS := fS.lt
  have lU := fU.lt
  have lT := fT.lt
  have sn' := sn.symm
  have st' := st.symm
  have ut' := ut.symm
  go_enter Try.func17, Try.ntmps17
  go_upto_region 1 with (fail)
  obtain ⟨w1, g1, f4, new4, ⟨d1, d1'⟩, ⟨d2, d2'⟩, ⟨d3, d3'⟩, e⟩ := own3 (l1 := Sl9.zero.enc) (l2 := U9.zero.enc) (l3 := (tab ns nu 0).enc) fS fU fT sn st ut mac0.enc 57
  refine wp_in e ?_
  clear e
  rw [Mac.length_enc] at f4
  generalize w.heap.size = n4 at *
  have fS := g1.fit fS
  have fU := g1.fit fU
  have fT := g1.fit fT
  go_wp2_with fail
  refine (grouped0_calls _).mono ?_
  rintro e X ⟨rfl, h5⟩
  obtain ⟨w2, g2, rfl⟩ := unput4 (l1 := Sl9.zero.enc) (l2 := U9.zero.enc) (l3 := (tab ns nu 0).enc) (l4 := mac0.enc) h5 fS fU fT f4 sn st ut d1 d2 d3
  have fS := g2.fit fS
  have fU := g2.fit fU
  have fT := g2.fit fT
  have f4 := g2.fit f4
  have g1 := g1.trans g2
  clear h5 g2
  have T9 : Tab9 (put (put (put (put w2 ns 0 (Sl9.zero).enc) nu 0 (U9.zero).enc) nt 0 (tab ns nu 0).enc) n4 0 mac0.enc) nt ns nu := ⟨(put_cell_other d3).trans (tab9_of fT sn st ut).slots, (put_cell_other d3).trans (tab9_of fT sn st ut).used⟩
  have U5 : (put (put (put (put w2 ns 0 (Sl9.zero).enc) nu 0 (U9.zero).enc) nt 0 (tab ns nu 0).enc) n4 0 mac0.enc).cell? ⟨nu, 5, none⟩ = some (.int .u8 0) := (put_cell_other d2).trans (used_of (u := U9.zero) fU sn ut)
  have H9 := Lib.hid T9
  have H5 := Lib.hid U5
  clear T9 U5
  go_wp2_with fail
  refine (find_free _ nt ns nu H9.out H5.out).mono ?_
  rintro e X ⟨rfl, h5⟩
  obtain ⟨w3, g2, rfl⟩ := unput4 (l1 := Sl9.zero.enc) (l2 := U9.zero.enc) (l3 := (tab ns nu 0).enc) (l4 := mac0.enc) h5 fS fU fT f4 sn st ut d1 d2 d3
  have fS := g2.fit fS
  have fU := g2.fit fU
  have fT := g2.fit fT
  have f4 := g2.fit f4
  have g1 := g1.trans g2
  clear h5 g2 H9 H5
  go_wp2_with fail
  refine calls_in (w' := put (put (put (put w3 n4 0 mac0.enc) ns 0 (Sl9.zero).enc) nu 0 (U9.zero).enc) nt 0 (tab ns nu 0).enc) (by rw [put_comm d3, put_comm d2, put_comm d1]) ((put_calls _ nt ns nu ((Fit.put_far d1).2 fS) ((Fit.put_far d2).2 fU) ((Fit.put_far d3).2 fT) sn st ut).mono ?_)
  rintro e X ⟨rfl, w5, g5, rfl⟩
  go_wp2
  go_ret
  exact ⟨rfl, w5, (Grow.new g1 new4).trans g5, rfl⟩
set_option maxHeartbeats 4000000 in
theorem find_there (w : World) (nt ns nu : Nat) (fS : Fit w ns 0 90) (fU : Fit w nu 0 9) (fT : Fit w nt 0 4) (sn : ns ≠ nu) (st : ns ≠ nt) (ut : nu ≠ nt) :
    Calls Try.prog 16 #[.pointer (some ⟨nt, 0, none⟩), .agg mac0.enc.toArray] (put (put (put w ns 0 ({ Sl9.zero with s5 := ent1 }).enc) nu 0 ({ U9.zero with u5 := 1 }).enc) nt 0 (tab ns nu 1).enc) fun e w' => e = .returned (.tuple #[.agg (ent1).enc.toArray, .bool true]) ∧ ∃ w1, Grow w w1 ∧ w' = put (put (put w1 ns 0 ({ Sl9.zero with s5 := ent1 }).enc) nu 0 ({ U9.zero with u5 := 1 }).enc) nt 0 (tab ns nu 1).enc := by
  have lS := fS.lt
  have lU := fU.lt
  have lT := fT.lt
  have sn' := sn.symm
  have st' := st.symm
  have ut' := ut.symm
  go_enter Try.func16, Try.ntmps16
  go_upto_region 1 with (fail)
  obtain ⟨w1, g1, f4, new4, ⟨d1, d1'⟩, ⟨d2, d2'⟩, ⟨d3, d3'⟩, e1⟩ := own3 (l1 := ({ Sl9.zero with s5 := ent1 } : Sl9).enc) (l2 := ({ U9.zero with u5 := 1 } : U9).enc) (l3 := (tab ns nu 1).enc) fS fU fT sn st ut mac0.enc 57
  rw [Mac.length_enc] at f4
  rw [put_comm d3, put_comm d2, put_comm d1] at e1
  replace fS := (Fit.put_far (o' := 0) (l := mac0.enc) d1).2 (g1.fit fS)
  replace fU := (Fit.put_far (o' := 0) (l := mac0.enc) d2).2 (g1.fit fU)
  replace fT := (Fit.put_far (o' := 0) (l := mac0.enc) d3).2 (g1.fit fT)
  have A4 : At (put w1 w.heap.size 0 mac0.enc) w.heap.size 0 mac0.enc := At.of_put (by rw [Mac.length_enc]; exact f4)
  replace g1 : Grow w (put w1 w.heap.size 0 mac0.enc) := Grow.new g1 new4
  obtain ⟨w2, g2, f5, new5, ⟨k1, k1'⟩, ⟨k2, k2'⟩, ⟨k3, k3'⟩, e2⟩ := own3 (l1 := ({ Sl9.zero with s5 := ent1 } : Sl9).enc) (l2 := ({ U9.zero with u5 := 1 } : U9).enc) (l3 := (tab ns nu 1).enc) fS fU fT sn st ut Ent.zero.enc 60
  have e := e2
  rw [← e1] at e
  have en : (put w1 w.heap.size 0 mac0.enc).heap.size = w.heap.size + 1 := by
    have := congrArg (fun x => x.heap.size) e1
    simp only [World.size_alloc, put_size] at this ⊢
    omega
  rw [en] at f5 new5 k1 k1' k2 k2' k3 k3' e
  refine wp_in e ?_
  clear e e1 e2
  rw [Ent.length_enc] at f5
  replace fS := g2.fit fS
  replace fU := g2.fit fU
  replace fT := g2.fit fT
  replace A4 := g2.at A4
  replace new5 := new5.upto g1
  replace g1 := g1.trans g2
  have kn : w.heap.size ≠ w.heap.size + 1 := by omega
  clear g2 en f4
  generalize hn5 : w.heap.size + 1 = n5 at *
  clear hn5
  generalize w.heap.size = n4 at *
  have kn' := kn.symm
  have hm := A4.rd
  rw [Mac.length_enc] at hm
  have T9 : Tab9 (put (put (put (put w2 ns 0 ({ Sl9.zero with s5 := ent1 }).enc) nu 0 ({ U9.zero with u5 := 1 }).enc) nt 0 (tab ns nu 1).enc) n5 0 Ent.zero.enc) nt ns nu := tab9_put (tab9_of (n := 1) (s := ({ Sl9.zero with s5 := ent1 } : Sl9).enc) (u := ({ U9.zero with u5 := 1 } : U9).enc) fT sn st ut) k3
  have U5 : (put (put (put (put w2 ns 0 ({ Sl9.zero with s5 := ent1 }).enc) nu 0 ({ U9.zero with u5 := 1 }).enc) nt 0 (tab ns nu 1).enc) n5 0 Ent.zero.enc).cell? ⟨nu, 5, none⟩ = some (.int .u8 1) := (put_cell_other (a := ⟨nu, 5, none⟩) k2).trans (used_of (s := ({ Sl9.zero with s5 := ent1 } : Sl9).enc) (t := (tab ns nu 1).enc) (u := { U9.zero with u5 := 1 }) fU sn ut)
  have hM0 := Sl9.rd_s5_mac (o := 0) (p := { Sl9.zero with s5 := ent1 }) fS
  rw [Nat.zero_add] at hM0
  have hM : rdCells (put (put (put (put w2 ns 0 ({ Sl9.zero with s5 := ent1 }).enc) nu 0 ({ U9.zero with u5 := 1 }).enc) nt 0 (tab ns nu 1).enc) n5 0 Ent.zero.enc) ⟨ns, 50, none⟩ 0 6 = some mac0.enc := (rdCells_put_other (a := ⟨ns, 50, none⟩) k1).trans ((rdCells_put_other (a := ⟨ns, 50, none⟩) st).trans ((rdCells_put_other (a := ⟨ns, 50, none⟩) sn).trans hM0))
  clear hM0
  have HM := Lib.hid hM
  clear hM
  have H9 := Lib.hid T9
  have H5 := Lib.hid U5
  clear T9 U5 A4
  go_wp2_with fail
  refine (find_full _ nt ns nu H9.out H5.out HM.out).mono ?_
  rintro e X ⟨rfl, h5⟩
  obtain ⟨w3, g2, rfl⟩ := unput4 (l1 := ({ Sl9.zero with s5 := ent1 } : Sl9).enc) (l2 := ({ U9.zero with u5 := 1 } : U9).enc) (l3 := (tab ns nu 1).enc) (l4 := Ent.zero.enc) h5 fS fU fT f5 sn st ut k1 k2 k3
  replace fS := g2.fit fS
  replace fU := g2.fit fU
  replace fT := g2.fit fT
  have f5 := g2.fit f5
  replace g1 := g1.trans g2
  clear h5 g2 H9 H5 hm
  have q3 : (tab ns nu 1).slots = ⟨some ⟨ns, 0, none⟩, 9, 9⟩ := rfl
  have hz : (#[.int .u8 0, .int .u8 0, .int .u8 0, .int .u8 0, .int .u8 0, .int .u8 0, .int .i64 0, .int .u32 0, .int .i64 0, .bool false] : Array Value) = Ent.zero.enc.toArray := rfl
  go_wp2
  refine bodyPost_ret (v := .tuple #[.agg (ent1).enc.toArray, .bool true]) ?_ rfl ⟨rfl, put w3 n5 0 (ent1).enc, Grow.new g1 new5, ?_⟩
  · simp [results, Try.results16, go_sem, f5, k1', k2', k3', Fit.put_far]
  · rw [← put_comm k1, ← put_comm k2, ← put_comm k3]
set_option maxHeartbeats 4000000 in
theorem find_gone (w : World) (nt ns nu : Nat) (fS : Fit w ns 0 90) (fU : Fit w nu 0 9) (fT : Fit w nt 0 4) (sn : ns ≠ nu) (st : ns ≠ nt) (ut : nu ≠ nt) :
    Calls Try.prog 16 #[.pointer (some ⟨nt, 0, none⟩), .agg mac0.enc.toArray] (put (put (put w ns 0 (Sl9.zero).enc) nu 0 (U9.zero).enc) nt 0 (tab ns nu 0).enc) fun e w' => e = .returned (.tuple #[.agg (Ent.zero).enc.toArray, .bool false]) ∧ ∃ w1, Grow w w1 ∧ w' = put (put (put w1 ns 0 (Sl9.zero).enc) nu 0 (U9.zero).enc) nt 0 (tab ns nu 0).enc := by
  have lS := fS.lt
  have lU := fU.lt
  have lT := fT.lt
  have sn' := sn.symm
  have st' := st.symm
  have ut' := ut.symm
  go_enter Try.func16, Try.ntmps16
  go_upto_region 1 with (fail)
  obtain ⟨w1, g1, f4, new4, ⟨d1, d1'⟩, ⟨d2, d2'⟩, ⟨d3, d3'⟩, e1⟩ := own3 (l1 := (Sl9.zero : Sl9).enc) (l2 := (U9.zero : U9).enc) (l3 := (tab ns nu 0).enc) fS fU fT sn st ut mac0.enc 57
  rw [Mac.length_enc] at f4
  rw [put_comm d3, put_comm d2, put_comm d1] at e1
  replace fS := (Fit.put_far (o' := 0) (l := mac0.enc) d1).2 (g1.fit fS)
  replace fU := (Fit.put_far (o' := 0) (l := mac0.enc) d2).2 (g1.fit fU)
  replace fT := (Fit.put_far (o' := 0) (l := mac0.enc) d3).2 (g1.fit fT)
  have A4 : At (put w1 w.heap.size 0 mac0.enc) w.heap.size 0 mac0.enc := At.of_put (by rw [Mac.length_enc]; exact f4)
  replace g1 : Grow w (put w1 w.heap.size 0 mac0.enc) := Grow.new g1 new4
  obtain ⟨w2, g2, f5, new5, ⟨k1, k1'⟩, ⟨k2, k2'⟩, ⟨k3, k3'⟩, e2⟩ := own3 (l1 := (Sl9.zero : Sl9).enc) (l2 := (U9.zero : U9).enc) (l3 := (tab ns nu 0).enc) fS fU fT sn st ut Ent.zero.enc 60
  have e := e2
  rw [← e1] at e
  have en : (put w1 w.heap.size 0 mac0.enc).heap.size = w.heap.size + 1 := by
    have := congrArg (fun x => x.heap.size) e1
    simp only [World.size_alloc, put_size] at this ⊢
    omega
  rw [en] at f5 new5 k1 k1' k2 k2' k3 k3' e
  refine wp_in e ?_
  clear e e1 e2
  rw [Ent.length_enc] at f5
  replace fS := g2.fit fS
  replace fU := g2.fit fU
  replace fT := g2.fit fT
  replace A4 := g2.at A4
  replace new5 := new5.upto g1
  replace g1 := g1.trans g2
  have kn : w.heap.size ≠ w.heap.size + 1 := by omega
  clear g2 en f4
  generalize hn5 : w.heap.size + 1 = n5 at *
  clear hn5
  generalize w.heap.size = n4 at *
  have kn' := kn.symm
  have hm := A4.rd
  rw [Mac.length_enc] at hm
  have T9 : Tab9 (put (put (put (put w2 ns 0 (Sl9.zero).enc) nu 0 (U9.zero).enc) nt 0 (tab ns nu 0).enc) n5 0 Ent.zero.enc) nt ns nu := tab9_put (tab9_of (n := 0) (s := (Sl9.zero : Sl9).enc) (u := (U9.zero : U9).enc) fT sn st ut) k3
  have U5 : (put (put (put (put w2 ns 0 (Sl9.zero).enc) nu 0 (U9.zero).enc) nt 0 (tab ns nu 0).enc) n5 0 Ent.zero.enc).cell? ⟨nu, 5, none⟩ = some (.int .u8 0) := (put_cell_other (a := ⟨nu, 5, none⟩) k2).trans (used_of (s := (Sl9.zero : Sl9).enc) (t := (tab ns nu 0).enc) (u := U9.zero) fU sn ut)
  have H9 := Lib.hid T9
  have H5 := Lib.hid U5
  clear T9 U5 A4
  go_wp2_with fail
  refine (find_free _ nt ns nu H9.out H5.out).mono ?_
  rintro e X ⟨rfl, h5⟩
  obtain ⟨w3, g2, rfl⟩ := unput4 (l1 := (Sl9.zero : Sl9).enc) (l2 := (U9.zero : U9).enc) (l3 := (tab ns nu 0).enc) (l4 := Ent.zero.enc) h5 fS fU fT f5 sn st ut k1 k2 k3
  replace fS := g2.fit fS
  replace fU := g2.fit fU
  replace fT := g2.fit fT
  have f5 := g2.fit f5
  replace g1 := g1.trans g2
  clear h5 g2 H9 H5 hm
  have q3 : (tab ns nu 0).slots = ⟨some ⟨ns, 0, none⟩, 9, 9⟩ := rfl
  have hz : (#[.int .u8 0, .int .u8 0, .int .u8 0, .int .u8 0, .int .u8 0, .int .u8 0, .int .i64 0, .int .u32 0, .int .i64 0, .bool false] : Array Value) = Ent.zero.enc.toArray := rfl
  go_wp2
  refine bodyPost_ret (v := .tuple #[.agg (Ent.zero).enc.toArray, .bool false]) ?_ rfl ⟨rfl, put w3 n5 0 (Ent.zero).enc, Grow.new g1 new5, ?_⟩
  · simp [results, Try.results16, go_sem, f5, k1', k2', k3', Fit.put_far]
  · rw [← put_comm k1, ← put_comm k2, ← put_comm k3]
end Go.Proofs.Ytogekloaijidhaa
