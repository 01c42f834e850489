/- WALKS: the example of fdb's chapter (lives). -/
import Derived.Test.YtogekloaijidhaaFdbD
set_option maxRecDepth 100000
namespace Go.Proofs.Ytogekloaijidhaa
open Go Go.RowKit

theorem at_cell {w : World} {b k : Nat} {l : List Value} (h : At w b 0 l) (hk : k < l.length) : w.cell? ⟨b, k, none⟩ = l[k]? := by
  have := h.cell hk
  rwa [Nat.zero_add] at this
set_option maxHeartbeats 4000000 in
theorem lives10_calls (w : World) : Calls Try.prog 14 #[] w fun e w' => e = .returned (.bool true) ∧ Grow w w' := by
  go_enter Try.func14, Try.ntmps14
  go_wp2_with fail
  refine (new4_calls _).mono ?_
  rintro e X ⟨nt, ns, nu, rfl, hg, newt, news, newu, M9⟩
  go_upto_region 3 with (fail)
  have hA : At (X.alloc (.cells mac0.enc.toArray 57)) X.heap.size 0 mac0.enc := At.alloc_new _ _ _
  have l1 := M9.slots.fit.lt
  have l2 := M9.used.fit.lt
  have l3 := M9.tab.fit.lt
  have N9 := M9.grow ((Grow.refl X).alloc (.cells mac0.enc.toArray 57))
  have e : X.alloc (.cells mac0.enc.toArray 57) = put (put (put (X.alloc (.cells mac0.enc.toArray 57)) ns 0 (Sl9.zero).enc) nu 0 (U9.zero).enc) nt 0 (tab ns nu 0).enc := by
    rw [N9.slots.put_self, N9.used.put_self, N9.tab.put_self]
  refine wp_in e ?_
  have hg := hg.alloc (.cells mac0.enc.toArray 57)
  have sn := N9.sn
  have st := N9.st
  have ut := N9.ut
  have sn' := sn.symm
  have st' := st.symm
  have ut' := ut.symm
  have d1 : ns ≠ X.heap.size := by omega
  have d2 : nu ≠ X.heap.size := by omega
  have d3 : nt ≠ X.heap.size := by omega
  have d1' := d1.symm
  have d2' := d2.symm
  have d3' := d3.symm
  have fS : Fit _ ns 0 90 := N9.slots.fit
  have fU : Fit _ nu 0 9 := N9.used.fit
  have fT : Fit _ nt 0 4 := N9.tab.fit
  clear e N9 M9 l1 l2 l3
  generalize X.alloc (.cells mac0.enc.toArray 57) = y at *
  generalize X.heap.size = n4 at *
  have hm := hA.rd
  rw [Mac.length_enc] at hm
  go_wp2_with fail
  refine (learn_calls y nt ns nu fS fU fT sn st ut).mono ?_
  rintro e Y ⟨rfl, y1, g1, rfl⟩
  have hm := rdCells_grow g1 _ _ _ _ hm
  have hg := hg.trans g1
  have fS := g1.fit fS
  have fU := g1.fit fU
  have fT := g1.fit fT
  clear g1 hA
  go_wp2_with fail
  refine (find_there y1 nt ns nu fS fU fT sn st ut).mono ?_
  rintro e Y ⟨rfl, y2, g1, rfl⟩
  have hm := rdCells_grow g1 _ _ _ _ hm
  have hg := hg.trans g1
  have fS := g1.fit fS
  have fU := g1.fit fU
  have fT := g1.fit fT
  clear g1
  go_upto_region 5 with (fail)
  obtain ⟨y3, g1, f5, new5, ⟨c1, c1'⟩, ⟨c2, c2'⟩, ⟨c3, c3'⟩, e⟩ := own3 (l1 := ({ Sl9.zero with s5 := ent1 } : Sl9).enc) (l2 := ({ U9.zero with u5 := 1 } : U9).enc) (l3 := (tab ns nu 1).enc) fS fU fT sn st ut ent1.enc 60
  rw [put_comm c3, put_comm c2, put_comm c1] at e
  refine wp_in e ?_
  clear e
  have hE : At (put y3 y2.heap.size 0 ent1.enc) y2.heap.size 0 ent1.enc := At.of_put f5
  have hgg : Grow y2 (put y3 y2.heap.size 0 ent1.enc) := Grow.new g1 new5
  have hm := rdCells_grow hgg _ _ _ _ hm
  have hg := hg.trans hgg
  have fS := hgg.fit fS
  have fU := hgg.fit fU
  have fT := hgg.fit fT
  clear g1 new5 hgg f5
  generalize put y3 y2.heap.size 0 ent1.enc = y4 at *
  generalize y2.heap.size = n5 at *
  have c6 : y4.cell? ⟨n5, 6, none⟩ = some (.int .i64 1) := at_cell hE (by simp)
  go_wp2_with fail
  refine (flush_calls y4 nt ns nu fS fU fT sn st ut).mono ?_
  rintro e Y ⟨rfl, y5, g1, rfl⟩
  have hm := rdCells_grow g1 _ _ _ _ hm
  have c6 := g1.cell c6
  have hg := hg.trans g1
  have fS := g1.fit fS
  have fU := g1.fit fU
  have fT := g1.fit fT
  clear g1
  go_wp2_with fail
  refine (find_gone y5 nt ns nu fS fU fT sn st ut).mono ?_
  rintro e Y ⟨rfl, y6, g1, rfl⟩
  have c6 := g1.cell c6
  have hg := hg.trans g1
  have fS := g1.fit fS
  have fU := g1.fit fU
  have fT := g1.fit fT
  clear g1
  go_upto_region 7 with (fail)
  obtain ⟨y7, g1, f7, new7, ⟨b1, b1'⟩, ⟨b2, b2'⟩, ⟨b3, b3'⟩, e⟩ := own3 (l1 := Sl9.zero.enc) (l2 := U9.zero.enc) (l3 := (tab ns nu 0).enc) fS fU fT sn st ut Ent.zero.enc 60
  rw [put_comm b3, put_comm b2, put_comm b1] at e
  refine wp_in e ?_
  clear e
  have hgg : Grow y6 (put y7 y6.heap.size 0 Ent.zero.enc) := Grow.new g1 new7
  have c6 := hgg.cell c6
  have hg := hg.trans hgg
  clear g1 new7 hgg f7
  generalize put y7 y6.heap.size 0 Ent.zero.enc = y8 at *
  go_wp2
  go_ret
  exact ⟨rfl, Grow.new (Grow.new (Grow.new hg news) newu) newt⟩
end Go.Proofs.Ytogekloaijidhaa
