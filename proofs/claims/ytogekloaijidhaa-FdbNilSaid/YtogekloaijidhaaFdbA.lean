/- WALKS: addresses as numbers (addr.Number), and a table's slot of an address (fdb). -/
import Derived.Test.YtogekloaijidhaaDataF
import Derived.Test.YtogekloaijidhaaPorts
import Derived.Deep.DeepCutAuto
set_option maxRecDepth 100000
namespace Go.Proofs.Ytogekloaijidhaa
open Go Go.RowKit

def mac0 : Mac := ⟨2, 0, 0, 0, 0, 1⟩
set_option maxHeartbeats 2000000 in
theorem number0_calls (w : World) : Calls Try.prog 51 #[.agg mac0.enc.toArray] w fun e w' => e = .returned (.int .u64 2199023255553) ∧ Grow w w' := by
  have i0 : ∀ w, (Instr.index 57 (.agg mac0.enc.toArray) (.int .i64 0)).run Try.prog w = .ok (.int .u8 2) w := fun _ => by kernel_rfl
  have i1 : ∀ w, (Instr.index 57 (.agg mac0.enc.toArray) (.int .i64 1)).run Try.prog w = .ok (.int .u8 0) w := fun _ => by kernel_rfl
  have i2 : ∀ w, (Instr.index 57 (.agg mac0.enc.toArray) (.int .i64 2)).run Try.prog w = .ok (.int .u8 0) w := fun _ => by kernel_rfl
  have i3 : ∀ w, (Instr.index 57 (.agg mac0.enc.toArray) (.int .i64 3)).run Try.prog w = .ok (.int .u8 0) w := fun _ => by kernel_rfl
  have i4 : ∀ w, (Instr.index 57 (.agg mac0.enc.toArray) (.int .i64 4)).run Try.prog w = .ok (.int .u8 0) w := fun _ => by kernel_rfl
  have i5 : ∀ w, (Instr.index 57 (.agg mac0.enc.toArray) (.int .i64 5)).run Try.prog w = .ok (.int .u8 1) w := fun _ => by kernel_rfl
  have o0 : bits .or .u64 0 2 = 2 := by kernel_rfl
  have o1 : bits .or .u64 512 0 = 512 := by kernel_rfl
  have o2 : bits .or .u64 131072 0 = 131072 := by kernel_rfl
  have o3 : bits .or .u64 33554432 0 = 33554432 := by kernel_rfl
  have o4 : bits .or .u64 8589934592 0 = 8589934592 := by kernel_rfl
  have o5 : bits .or .u64 2199023255552 1 = 2199023255553 := by kernel_rfl
  go_enter Try.func51, Try.ntmps51
  go_wp2_with fail
  refine wp_loop_rounds 7 ?_
  iterate 7 (rw [rounds_succ]; go_wp2)
  go_ret
  exact ⟨rfl, (Grow.refl _).alloc _⟩
/-- a table of nine slots -/
structure Tab9 (w : World) (nt ns nu : Nat) : Prop where
  slots : w.cell? ⟨nt, 0, none⟩ = some (.slice (some ⟨ns, 0, none⟩) 9 9)
  used : w.cell? ⟨nt, 1, none⟩ = some (.slice (some ⟨nu, 0, none⟩) 9 9)
theorem Tab9.grow {w w' : World} {nt ns nu : Nat} (h : Tab9 w nt ns nu) (g : Grow w w') : Tab9 w' nt ns nu := ⟨g.cell h.slots, g.cell h.used⟩
theorem cell_lt {w : World} {b o : Nat} {v : Value} (h : w.cell? ⟨b, o, none⟩ = some v) : b < w.heap.size := block_lt_of_cell h
set_option maxHeartbeats 4000000 in
theorem find_free (w : World) (nt ns nu : Nat) (ht : Tab9 w nt ns nu) (hu : w.cell? ⟨nu, 5, none⟩ = some (.int .u8 0)) :
    Calls Try.prog 40 #[.pointer (some ⟨nt, 0, none⟩), .agg mac0.enc.toArray] w fun e w' => e = .returned (.tuple #[.int .i64 5, .bool false]) ∧ Grow w w' := by
  have m0 : IntKind.u64.wrap 25070437017619432124581497437205 = 3688346636939590677 := by kernel_rfl
  have m1 : IntKind.u64.wrap 9 = 9 := by kernel_rfl
  have m2 : (3688346636939590677 : Int) / 8589934592 = 429380060 := by kernel_rfl
  have m3 : Int.tmod 429380060 9 = 5 := by kernel_rfl
  have m4 : IntKind.u64.wrap 5 = 5 := by kernel_rfl
  have m5 : IntKind.i64.wrap 5 = 5 := by kernel_rfl
  go_enter Try.func40, Try.ntmps40
  go_upto_region 1 with (fail)
  have lt := cell_lt ht.slots
  have lu := cell_lt hu
  obtain ⟨w1, g1, f1, new1, e⟩ := box1 w mac0.enc 57; refine wp_in e ?_; clear e; simp only [Mac.length_enc] at f1; generalize w.heap.size = n1 at *
  unfold New at new1
  have ne1 : nt ≠ n1 := by omega
  have ne2 : nu ≠ n1 := by omega
  have c0 := g1.cell ht.slots
  have c1 := g1.cell ht.used
  have c2 := g1.cell hu
  go_wp2_with fail
  refine wp_region_ord (Ord.rds [0, 4, 5, 6, 7, 8, 9] (.alt 1 (Ord.rds [2, 3, 10, 11, 12] .done) .stop)) (by kernel_rfl) (by kernel_rfl) ?_
  repeat (first | (refine wpM_rdy rfl ?_ (fun K hK => ?_); exact wanted_plain rfl; go_simp; refine hK _ ?_; clear hK K) | (refine wpM_rdy rfl ?_ (fun K hK => ?_); exact wanted_yes rfl rfl rfl rfl; go_simp; refine hK _ ?_; clear hK K) | (refine wpM_rdn rfl ?_ (fun K hK => ?_); exact wanted_no rfl rfl rfl rfl; go_simp; refine hK _ ?_; clear hK K) | (refine wpM_rdn rfl ?_ (fun K hK => ?_); exact wanted_undef rfl rfl rfl rfl; go_simp; refine hK _ ?_; clear hK K))
  refine wpM_efy rfl ?_ (fun K hK _ => ?_) ((Grow.refl _).drew) wpM_stop; (first | exact wanted_plain rfl | exact wanted_yes rfl rfl rfl rfl)
  go_simp
  refine (number0_calls _).mono ?_
  rintro e X ⟨rfl, h5⟩
  obtain ⟨w2, g2, rfl⟩ := h5.unput f1
  replace g2 : Grow w1 w2 := (Grow.refl _).drew.trans g2
  have g3 : Grow (put w1 n1 0 mac0.enc) (put w2 n1 0 mac0.enc) := (Grow.refl _).drew.trans h5
  refine hK _ _ ⟨g3, ?_⟩; clear hK K
  repeat (first | (refine wpM_rdy rfl ?_ (fun K hK => ?_); exact wanted_plain rfl; go_simp; refine hK _ ?_; clear hK K) | (refine wpM_rdy rfl ?_ (fun K hK => ?_); exact wanted_yes rfl rfl rfl rfl; go_simp; refine hK _ ?_; clear hK K) | (refine wpM_rdn rfl ?_ (fun K hK => ?_); exact wanted_no rfl rfl rfl rfl; go_simp; refine hK _ ?_; clear hK K) | (refine wpM_rdn rfl ?_ (fun K hK => ?_); exact wanted_undef rfl rfl rfl rfl; go_simp; refine hK _ ?_; clear hK K))
  refine wpM_done ?_
  have c0 := g2.cell c0
  have c1 := g2.cell c1
  have c2 := g2.cell c2
  have f1 := g2.fit f1
  have hW : Grow w (put w2 n1 0 mac0.enc) := Grow.new (g1.trans g2) (show New w n1 from new1)
  go_wp2_with fail
  refine wp_loop_rounds 1 ?_
  rw [rounds_succ]
  go_wp2
  go_ret2
  exact ⟨rfl, hW⟩
set_option maxHeartbeats 4000000 in
theorem find_full (w : World) (nt ns nu : Nat) (ht : Tab9 w nt ns nu) (hu : w.cell? ⟨nu, 5, none⟩ = some (.int .u8 1)) (hm : rdCells w ⟨ns, 50, none⟩ 0 6 = some mac0.enc) :
    Calls Try.prog 40 #[.pointer (some ⟨nt, 0, none⟩), .agg mac0.enc.toArray] w fun e w' => e = .returned (.tuple #[.int .i64 5, .bool true]) ∧ Grow w w' := by
  have m0 : IntKind.u64.wrap 25070437017619432124581497437205 = 3688346636939590677 := by kernel_rfl
  have m1 : IntKind.u64.wrap 9 = 9 := by kernel_rfl
  have m2 : (3688346636939590677 : Int) / 8589934592 = 429380060 := by kernel_rfl
  have m3 : Int.tmod 429380060 9 = 5 := by kernel_rfl
  have m4 : IntKind.u64.wrap 5 = 5 := by kernel_rfl
  have m5 : IntKind.i64.wrap 5 = 5 := by kernel_rfl
  go_enter Try.func40, Try.ntmps40
  go_upto_region 1 with (fail)
  have lt := cell_lt ht.slots
  have lu := cell_lt hu
  have ls : ns < w.heap.size := by
    have := rdCells_get 6 0 _ hm 0 (by omega)
    rw [Mac.lget_b0] at this
    exact cell_lt (by simpa [Addr.add] using this)
  obtain ⟨w1, g1, f1, new1, e⟩ := box1 w mac0.enc 57; refine wp_in e ?_; clear e; simp only [Mac.length_enc] at f1; generalize w.heap.size = n1 at *
  unfold New at new1
  have ne1 : nt ≠ n1 := by omega
  have ne2 : nu ≠ n1 := by omega
  have ne3 : ns ≠ n1 := by omega
  have c0 := g1.cell ht.slots
  have c1 := g1.cell ht.used
  have c2 := g1.cell hu
  have hm1 := rdCells_grow g1 _ _ _ _ hm
  go_wp2_with fail
  refine wp_region_ord (Ord.rds [0, 4, 5, 6, 7, 8, 9] (.alt 1 (Ord.rds [2, 3, 10, 11, 12] .done) .stop)) (by kernel_rfl) (by kernel_rfl) ?_
  repeat (first | (refine wpM_rdy rfl ?_ (fun K hK => ?_); exact wanted_plain rfl; go_simp; refine hK _ ?_; clear hK K) | (refine wpM_rdy rfl ?_ (fun K hK => ?_); exact wanted_yes rfl rfl rfl rfl; go_simp; refine hK _ ?_; clear hK K) | (refine wpM_rdn rfl ?_ (fun K hK => ?_); exact wanted_no rfl rfl rfl rfl; go_simp; refine hK _ ?_; clear hK K) | (refine wpM_rdn rfl ?_ (fun K hK => ?_); exact wanted_undef rfl rfl rfl rfl; go_simp; refine hK _ ?_; clear hK K))
  refine wpM_efy rfl ?_ (fun K hK _ => ?_) ((Grow.refl _).drew) wpM_stop; (first | exact wanted_plain rfl | exact wanted_yes rfl rfl rfl rfl)
  go_simp
  refine (number0_calls _).mono ?_
  rintro e X ⟨rfl, h5⟩
  obtain ⟨w2, g2, rfl⟩ := h5.unput f1
  replace g2 : Grow w1 w2 := (Grow.refl _).drew.trans g2
  have g3 : Grow (put w1 n1 0 mac0.enc) (put w2 n1 0 mac0.enc) := (Grow.refl _).drew.trans h5
  refine hK _ _ ⟨g3, ?_⟩; clear hK K
  repeat (first | (refine wpM_rdy rfl ?_ (fun K hK => ?_); exact wanted_plain rfl; go_simp; refine hK _ ?_; clear hK K) | (refine wpM_rdy rfl ?_ (fun K hK => ?_); exact wanted_yes rfl rfl rfl rfl; go_simp; refine hK _ ?_; clear hK K) | (refine wpM_rdn rfl ?_ (fun K hK => ?_); exact wanted_no rfl rfl rfl rfl; go_simp; refine hK _ ?_; clear hK K) | (refine wpM_rdn rfl ?_ (fun K hK => ?_); exact wanted_undef rfl rfl rfl rfl; go_simp; refine hK _ ?_; clear hK K))
  refine wpM_done ?_
  have c0 := g2.cell c0
  have c1 := g2.cell c1
  have c2 := g2.cell c2
  have hm2 := rdCells_grow g2 _ _ _ _ hm1
  have f1 := g2.fit f1
  have hW : Grow w (put w2 n1 0 mac0.enc) := Grow.new (g1.trans g2) (show New w n1 from new1)
  go_wp2_with fail
  refine wp_loop_rounds 1 ?_
  rw [rounds_succ]
  go_wp2_with fail
  refine wp_region_ord (Ord.rds [0, 1, 2, 3, 4, 5, 6, 7, 8, 9, 10, 11, 12, 13, 14, 15, 16, 17, 18, 19, 20] .done) (by kernel_rfl) (by kernel_rfl) ?_
  repeat (first | (refine wpM_rdy rfl ?_ (fun K hK => ?_); exact wanted_plain rfl; go_simp; refine hK _ ?_; clear hK K) | (refine wpM_rdy rfl ?_ (fun K hK => ?_); exact wanted_yes rfl rfl rfl rfl; go_simp; refine hK _ ?_; clear hK K) | (refine wpM_rdn rfl ?_ (fun K hK => ?_); exact wanted_no rfl rfl rfl rfl; go_simp; refine hK _ ?_; clear hK K) | (refine wpM_rdn rfl ?_ (fun K hK => ?_); exact wanted_undef rfl rfl rfl rfl; go_simp; refine hK _ ?_; clear hK K))
  refine wpM_done ?_
  go_wp2
  go_ret2
  exact ⟨rfl, hW.drew⟩
end Go.Proofs.Ytogekloaijidhaa
