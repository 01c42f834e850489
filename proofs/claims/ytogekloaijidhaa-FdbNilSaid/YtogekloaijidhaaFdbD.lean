/- WALKS: a table of nine slots, flushed; and the example of the chapter. -/
import Derived.Test.YtogekloaijidhaaFdbC
set_option maxRecDepth 100000
namespace Go.Proofs.Ytogekloaijidhaa
open Go Go.RowKit

theorem closure_calls (w : World) (n4 : Nat) (hc : w.cell? ⟨n4, 0, none⟩ = some (.int .i64 1)) : Calls Try.prog 45 #[.agg ent1.enc.toArray, .pointer (some ⟨n4, 0, none⟩)] w fun e w' => e = .returned (.bool true) ∧ Grow w w' := by
  have k1 : ent1.static = false := rfl
  have k2 : ent1.port = 1 := rfl
  have lt := cell_lt hc
  go_enter Try.func45, Try.ntmps45
  go_wp2
  go_ret
  exact ⟨rfl, (Grow.refl _).alloc _⟩
theorem undU8s : Try.prog.underlying 88 = some (.slice 5) := by kernel_rfl
theorem clear9 (nu nt : Nat) (ut : nu ≠ nt) (ty : TypeId) (W : World) (u : U9) (t : List Value) (h : Fit W nu 0 9) : (Builtin.clear_ #[88] ty #[.slice (some ⟨nu, 0, none⟩) 9 9]).run Try.prog (put (put W nu 0 u.enc) nt 0 t) = .ok (.tuple #[]) (put (put W nu 0 U9.zero.enc) nt 0 t) := by
  have e1 : wrCells (put (put W nu 0 u.enc) nt 0 t) ⟨nu, 0, none⟩ 0 U9.zero.enc = some (put (put W nu 0 U9.zero.enc) nt 0 t) := by
    rw [wrCells_far (a := ⟨nu, 0, none⟩) ut, U9.wr h]
    rfl
  have e2 := run_wrCells Try.prog ⟨nu, 0, none⟩ U9.zero.enc _ _ 0 e1
  have hz : ∀ w, (zeroValue 5).run Try.prog w = .ok (.int .u8 0) w := fun _ => by kernel_rfl
  have hl : (Builtin.zeroCells (Value.int .u8 0).cells 9).toList = U9.zero.enc := by kernel_rfl
  simp [Builtin.clear_, run_underlying undU8s, hz, hl, e2]
set_option maxHeartbeats 8000000 in
theorem drop_calls (w : World) (nt ns nu : Nat) (fS : Fit w ns 0 90) (fU : Fit w nu 0 9) (fT : Fit w nt 0 4) (sn : ns ≠ nu) (st : ns ≠ nt) (ut : nu ≠ nt) (n4 : Nat) (d1 : ns ≠ n4) (d2 : nu ≠ n4) (d3 : nt ≠ n4) (hc : w.cell? ⟨n4, 0, none⟩ = some (.int .i64 1)) :
    Calls Try.prog 38 #[.pointer (some ⟨nt, 0, none⟩), .func (.func 45) #[] #[.pointer (some ⟨n4, 0, none⟩)]] (put (put (put w ns 0 ({ Sl9.zero with s5 := ent1 }).enc) nu 0 ({ U9.zero with u5 := 1 }).enc) nt 0 (tab ns nu 1).enc) fun e w' => e = .returned (.int .i64 1) ∧ ∃ w1, Grow w w1 ∧ w' = put (put (put w1 ns 0 (Sl9.zero).enc) nu 0 (U9.zero).enc) nt 0 (tab ns nu 0).enc := by
  have lS := fS.lt
  have lU := fU.lt
  have lT := fT.lt
  have sn' := sn.symm
  have st' := st.symm
  have ut' := ut.symm
  have d1' := d1.symm
  have d2' := d2.symm
  have d3' := d3.symm
  have k0 : U9.zero.u0 = 0 := rfl
  have k1 : U9.zero.u1 = 0 := rfl
  have k2 : U9.zero.u2 = 0 := rfl
  have k3 : U9.zero.u3 = 0 := rfl
  have k4 : U9.zero.u4 = 0 := rfl
  have k6 : U9.zero.u6 = 0 := rfl
  have k7 : U9.zero.u7 = 0 := rfl
  have k8 : U9.zero.u8 = 0 := rfl
  have q1 : (tab ns nu 1).slots = ⟨some ⟨ns, 0, none⟩, 9, 9⟩ := rfl
  have q2 : (tab ns nu 1).used = ⟨some ⟨nu, 0, none⟩, 9, 9⟩ := rfl
  have q3 : (tab ns nu 1).n = 1 := rfl
  have hcl := clear9 nu nt ut
  have hz : (#[.int .u8 0, .int .u8 0, .int .u8 0, .int .u8 0, .int .u8 0, .int .u8 0, .int .i64 0, .int .u32 0, .int .i64 0, .bool false] : Array Value) = Ent.zero.enc.toArray := rfl
  go_enter Try.func38, Try.ntmps38
  go_wp2_with fail
  refine wp_loop_rounds 10 ?_
  iterate 5 (rw [rounds_succ]; go_wp2_with fail)
  rw [rounds_succ]
  go_wp2_with fail
  refine (closure_calls _ n4 ((put_cell_other (a := ⟨n4, 0, none⟩) d3').trans ((put_cell_other (a := ⟨n4, 0, none⟩) d2').trans ((put_cell_other (a := ⟨n4, 0, none⟩) d1').trans hc)))).mono ?_
  rintro e X ⟨rfl, h5⟩
  obtain ⟨w2, g2, rfl⟩ := h5.unput3 fS fU fT sn st ut
  have fS := g2.fit fS
  have fU := g2.fit fU
  have fT := g2.fit fT
  clear h5
  go_wp2_with fail
  refine wp_region_ordS [12, 14] (Ord.rds [0, 1, 2, 3, 4, 5, 6, 7, 8, 9, 10, 11] (.alt 12 (Ord.rds [13] (.alt 14 .done .stop)) .stop)) (by kernel_rfl) (by kernel_rfl) ?_
  repeat (first | (refine wpS_rdy rfl ?_ (fun K hK => ?_); exact wanted_plain rfl; go_simp; refine hK _ ?_; clear hK K) | (refine wpS_rdy rfl ?_ (fun K hK => ?_); exact wanted_yes rfl rfl rfl rfl; go_simp; refine hK _ ?_; clear hK K) | (refine wpS_rdn rfl ?_ (fun K hK => ?_); exact wanted_no rfl rfl rfl rfl; go_simp; refine hK _ ?_; clear hK K) | (refine wpS_rdn rfl ?_ (fun K hK => ?_); exact wanted_undef rfl rfl rfl rfl; go_simp; refine hK _ ?_; clear hK K))
  (refine wpS_sty rfl rfl ?_ (fun K hK => ?_) wpS_stop; exact wanted_plain rfl; go_simp; refine hK _ _ ?_; clear hK K)
  repeat (first | (refine wpS_rdy rfl ?_ (fun K hK => ?_); exact wanted_plain rfl; go_simp; refine hK _ ?_; clear hK K) | (refine wpS_rdy rfl ?_ (fun K hK => ?_); exact wanted_yes rfl rfl rfl rfl; go_simp; refine hK _ ?_; clear hK K) | (refine wpS_rdn rfl ?_ (fun K hK => ?_); exact wanted_no rfl rfl rfl rfl; go_simp; refine hK _ ?_; clear hK K) | (refine wpS_rdn rfl ?_ (fun K hK => ?_); exact wanted_undef rfl rfl rfl rfl; go_simp; refine hK _ ?_; clear hK K))
  (refine wpS_sty rfl rfl ?_ (fun K hK => ?_) wpS_stop; exact wanted_plain rfl; go_simp; refine hK _ _ ?_; clear hK K)
  refine wpS_done ?_
  go_wp2_with fail
  iterate 4 (rw [rounds_succ]; go_wp2_with fail)
  go_wp2
  go_ret
  exact ⟨rfl, w2.drew, g2.drew, rfl⟩
set_option maxHeartbeats 4000000 in
theorem flush_calls (w : World) (nt ns nu : Nat) (fS : Fit w ns 0 90) (fU : Fit w nu 0 9) (fT : Fit w nt 0 4) (sn : ns ≠ nu) (st : ns ≠ nt) (ut : nu ≠ nt) :
    Calls Try.prog 20 #[.pointer (some ⟨nt, 0, none⟩), .int .i64 1] (put (put (put w ns 0 ({ Sl9.zero with s5 := ent1 }).enc) nu 0 ({ U9.zero with u5 := 1 }).enc) nt 0 (tab ns nu 1).enc) fun e w' => e = .returned (.int .i64 1) ∧ ∃ w1, Grow w w1 ∧ w' = put (put (put w1 ns 0 (Sl9.zero).enc) nu 0 (U9.zero).enc) nt 0 (tab ns nu 0).enc := by
  have lS := fS.lt
  have lU := fU.lt
  have lT := fT.lt
  have sn' := sn.symm
  have st' := st.symm
  have ut' := ut.symm
  have hmf : ∀ (fn : Fn) (first cap : Array Value) (w : World), (Instr.makeFunc fn first cap).run Try.prog w = .ok (.func fn first cap) w := fun _ _ _ _ => rfl
  go_enter Try.func20, Try.ntmps20
  go_upto_region 1 with (fail)
  obtain ⟨w1, g1, f4, new4, ⟨d1, d1'⟩, ⟨d2, d2'⟩, ⟨d3, d3'⟩, e⟩ := own3 (l1 := ({ Sl9.zero with s5 := ent1 } : Sl9).enc) (l2 := ({ U9.zero with u5 := 1 } : U9).enc) (l3 := (tab ns nu 1).enc) fS fU fT sn st ut [.int .i64 1] 3
  rw [put_comm d3, put_comm d2, put_comm d1] at e
  refine wp_in e ?_
  clear e
  have hc : (put w1 w.heap.size 0 [.int .i64 1]).cell? ⟨w.heap.size, 0, none⟩ = some (.int .i64 1) := put_cell (k := 0) f4 rfl (by simp)
  replace fS := (Fit.put_far (o' := 0) (l := [.int .i64 1]) d1).2 (g1.fit fS)
  replace fU := (Fit.put_far (o' := 0) (l := [.int .i64 1]) d2).2 (g1.fit fU)
  replace fT := (Fit.put_far (o' := 0) (l := [.int .i64 1]) d3).2 (g1.fit fT)
  replace g1 : Grow w (put w1 w.heap.size 0 [.int .i64 1]) := Grow.new g1 new4
  generalize put w1 w.heap.size 0 [.int .i64 1] = w2 at *
  generalize w.heap.size = n4 at *
  have HC := Lib.hid hc
  clear hc
  go_wp2_with fail
  refine (drop_calls _ nt ns nu fS fU fT sn st ut n4 d1 d2 d3 HC.out).mono ?_
  rintro e X ⟨rfl, w5, g5, rfl⟩
  go_wp2
  go_ret
  exact ⟨rfl, w5, g1.trans g5, rfl⟩
end Go.Proofs.Ytogekloaijidhaa
