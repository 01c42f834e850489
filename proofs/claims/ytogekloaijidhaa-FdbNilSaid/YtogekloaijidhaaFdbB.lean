/- WALKS: a table of nine slots: made, learnt into, asked, flushed (the example of fdb's chapter). -/
import Derived.Test.YtogekloaijidhaaFdbA
set_option maxRecDepth 100000
namespace Go.Proofs.Ytogekloaijidhaa
open Go Go.RowKit

theorem K_in2 {K : Act → World → Prop} {a : Act} {w w' : World} (h : w = w') (k : K a w') : K a w := by rw [h]; exact k
theorem Grow.madeA {a w : World} (hg : Grow a w) (l : List Value) (T : TypeId) : ∃ w1 n, Grow a w1 ∧ Grow w w1 ∧ At w1 n 0 l ∧ New a n ∧ n = w.heap.size ∧ w.alloc (.cells l.toArray T) = w1 :=
  ⟨_, _, hg.alloc _, (Grow.refl w).alloc _, At.alloc_new w l T, hg.size, rfl, rfl⟩
def tab (ns nu : Nat) (n : Int) : Tab := { slots := ⟨some ⟨ns, 0, none⟩, 9, 9⟩, used := ⟨some ⟨nu, 0, none⟩, 9, 9⟩, n := n, most := 4 }
/-- the three blocks of a table of nine slots -/
structure Mem9 (w : World) (nt ns nu : Nat) (s : Sl9) (u : U9) (n : Int) : Prop where
  slots : At w ns 0 s.enc
  used : At w nu 0 u.enc
  tab : At w nt 0 (tab ns nu n).enc
  sn : ns ≠ nu
  st : ns ≠ nt
  ut : nu ≠ nt
theorem Mem9.grow {w w' : World} {nt ns nu : Nat} {s : Sl9} {u : U9} {n : Int} (h : Mem9 w nt ns nu s u n) (g : Grow w w') : Mem9 w' nt ns nu s u n := ⟨g.at h.slots, g.at h.used, g.at h.tab, h.sn, h.st, h.ut⟩
def New4Post (w : World) (e : Ending) (w' : World) : Prop :=
  ∃ nt ns nu, e = .returned (.pointer (some ⟨nt, 0, none⟩)) ∧ Grow w w' ∧ New w nt ∧ New w ns ∧ New w nu ∧ Mem9 w' nt ns nu Sl9.zero U9.zero 0
set_option maxHeartbeats 4000000 in
theorem new4_calls (w : World) :
    Calls Try.prog 37 #[.int .i64 4] w (New4Post w) := by
  have w8 : IntKind.i64.wrap 8 = 8 := by kernel_rfl
  have w9 : IntKind.i64.wrap 9 = 9 := by kernel_rfl
  have mkS : ∀ w, (Instr.makeSlice 69 (.int .i64 9) (.int .i64 9)).run Try.prog w = .ok (.slice (some ⟨w.heap.size, 0, none⟩) 9 9) (w.alloc (.cells Sl9.zero.enc.toArray 60)) := fun _ => by kernel_rfl
  have mkU : ∀ w, (Instr.makeSlice 88 (.int .i64 9) (.int .i64 9)).run Try.prog w = .ok (.slice (some ⟨w.heap.size, 0, none⟩) 9 9) (w.alloc (.cells U9.zero.enc.toArray 5)) := fun _ => by kernel_rfl
  go_enter Try.func37, Try.ntmps37
  go_wp2_with fail
  have hg : Grow w w.drew := (Grow.refl _).drew
  refine wp_region_ord (Ord.rds [0, 1, 2, 4, 5, 6, 8] (.alt 3 (.alt 7 (Ord.rds [9] (.alt 10 (Ord.rds [11] .done) .stop)) .stop) (.alt 7 (.alt 3 (Ord.rds [9] (.alt 10 (Ord.rds [11] .done) .stop)) .stop) .stop))) (by kernel_rfl) (by kernel_rfl) ?_
  repeat (first | (refine wpM_rdy rfl ?_ (fun K hK => ?_); exact wanted_plain rfl; go_simp; refine hK _ ?_; clear hK K) | (refine wpM_rdy rfl ?_ (fun K hK => ?_); exact wanted_yes rfl rfl rfl rfl; go_simp; refine hK _ ?_; clear hK K) | (refine wpM_rdn rfl ?_ (fun K hK => ?_); exact wanted_no rfl rfl rfl rfl; go_simp; refine hK _ ?_; clear hK K) | (refine wpM_rdn rfl ?_ (fun K hK => ?_); exact wanted_undef rfl rfl rfl rfl; go_simp; refine hK _ ?_; clear hK K))
  refine wpM_efy rfl (wanted_plain rfl) (fun K hK _ => ?_) hg ?_
  · go_simp
    obtain ⟨X, ns, hg, g1, A3, n3, en, e⟩ := hg.madeA Sl9.zero.enc 60
    (try simp only [World.size_drew] at en)
    rw [← en]
    refine K_in2 e ?_
    try (have ne37 : ns ≠ nu := by have := A7.fit.lt; omega)
    try have A7 := g1.at A7
    clear e en
    refine hK _ _ ⟨hg, ?_⟩; clear hK K
    refine wpM_efy rfl (wanted_plain rfl) (fun K hK _ => ?_) hg wpM_stop
    go_simp
    obtain ⟨X, nu, hg, g1, A7, n7, en, e⟩ := hg.madeA U9.zero.enc 5
    (try simp only [World.size_drew] at en)
    rw [← en]
    refine K_in2 e ?_
    try (have ne37 : ns ≠ nu := by have := A3.fit.lt; omega)
    try have A3 := g1.at A3
    clear e en
    refine hK _ _ ⟨hg, ?_⟩; clear hK K
    repeat (first | (refine wpM_rdy rfl ?_ (fun K hK => ?_); exact wanted_plain rfl; go_simp; refine hK _ ?_; clear hK K) | (refine wpM_rdy rfl ?_ (fun K hK => ?_); exact wanted_yes rfl rfl rfl rfl; go_simp; refine hK _ ?_; clear hK K) | (refine wpM_rdn rfl ?_ (fun K hK => ?_); exact wanted_no rfl rfl rfl rfl; go_simp; refine hK _ ?_; clear hK K) | (refine wpM_rdn rfl ?_ (fun K hK => ?_); exact wanted_undef rfl rfl rfl rfl; go_simp; refine hK _ ?_; clear hK K))
    refine wpM_efy rfl (wanted_plain rfl) (fun K hK _ => ?_) hg wpM_stop
    go_simp
    obtain ⟨X, nt, hg, g1, A10, n10, en, e⟩ := hg.madeA (tab ns nu 0).enc 90
    (try simp only [World.size_drew] at en)
    rw [← en]
    refine K_in2 e ?_
    have ne3 : ns ≠ nt := by have := A3.fit.lt; omega
    have ne7 : nu ≠ nt := by have := A7.fit.lt; omega
    have A3 := g1.at A3
    have A7 := g1.at A7
    clear e en
    refine hK _ _ ⟨hg, ?_⟩; clear hK K
    repeat (first | (refine wpM_rdy rfl ?_ (fun K hK => ?_); exact wanted_plain rfl; go_simp; refine hK _ ?_; clear hK K) | (refine wpM_rdy rfl ?_ (fun K hK => ?_); exact wanted_yes rfl rfl rfl rfl; go_simp; refine hK _ ?_; clear hK K) | (refine wpM_rdn rfl ?_ (fun K hK => ?_); exact wanted_no rfl rfl rfl rfl; go_simp; refine hK _ ?_; clear hK K) | (refine wpM_rdn rfl ?_ (fun K hK => ?_); exact wanted_undef rfl rfl rfl rfl; go_simp; refine hK _ ?_; clear hK K))
    refine wpM_done ?_
    clear mkS mkU w8 w9
    go_wp2
    go_ret
    exact ⟨nt, ns, nu, rfl, hg, n10, n3, n7, A3, A7, A10, ne37, ne3, ne7⟩
  · refine wpM_efy rfl (wanted_plain rfl) (fun K hK _ => ?_) hg wpM_stop
    go_simp
    obtain ⟨X, nu, hg, g1, A7, n7, en, e⟩ := hg.madeA U9.zero.enc 5
    (try simp only [World.size_drew] at en)
    rw [← en]
    refine K_in2 e ?_
    try (have ne37 : ns ≠ nu := by have := A3.fit.lt; omega)
    try have A3 := g1.at A3
    clear e en
    refine hK _ _ ⟨hg, ?_⟩; clear hK K
    refine wpM_efy rfl (wanted_plain rfl) (fun K hK _ => ?_) hg wpM_stop
    go_simp
    obtain ⟨X, ns, hg, g1, A3, n3, en, e⟩ := hg.madeA Sl9.zero.enc 60
    (try simp only [World.size_drew] at en)
    rw [← en]
    refine K_in2 e ?_
    try (have ne37 : ns ≠ nu := by have := A7.fit.lt; omega)
    try have A7 := g1.at A7
    clear e en
    refine hK _ _ ⟨hg, ?_⟩; clear hK K
    repeat (first | (refine wpM_rdy rfl ?_ (fun K hK => ?_); exact wanted_plain rfl; go_simp; refine hK _ ?_; clear hK K) | (refine wpM_rdy rfl ?_ (fun K hK => ?_); exact wanted_yes rfl rfl rfl rfl; go_simp; refine hK _ ?_; clear hK K) | (refine wpM_rdn rfl ?_ (fun K hK => ?_); exact wanted_no rfl rfl rfl rfl; go_simp; refine hK _ ?_; clear hK K) | (refine wpM_rdn rfl ?_ (fun K hK => ?_); exact wanted_undef rfl rfl rfl rfl; go_simp; refine hK _ ?_; clear hK K))
    refine wpM_efy rfl (wanted_plain rfl) (fun K hK _ => ?_) hg wpM_stop
    go_simp
    obtain ⟨X, nt, hg, g1, A10, n10, en, e⟩ := hg.madeA (tab ns nu 0).enc 90
    (try simp only [World.size_drew] at en)
    rw [← en]
    refine K_in2 e ?_
    have ne3 : ns ≠ nt := by have := A3.fit.lt; omega
    have ne7 : nu ≠ nt := by have := A7.fit.lt; omega
    have A3 := g1.at A3
    have A7 := g1.at A7
    clear e en
    refine hK _ _ ⟨hg, ?_⟩; clear hK K
    repeat (first | (refine wpM_rdy rfl ?_ (fun K hK => ?_); exact wanted_plain rfl; go_simp; refine hK _ ?_; clear hK K) | (refine wpM_rdy rfl ?_ (fun K hK => ?_); exact wanted_yes rfl rfl rfl rfl; go_simp; refine hK _ ?_; clear hK K) | (refine wpM_rdn rfl ?_ (fun K hK => ?_); exact wanted_no rfl rfl rfl rfl; go_simp; refine hK _ ?_; clear hK K) | (refine wpM_rdn rfl ?_ (fun K hK => ?_); exact wanted_undef rfl rfl rfl rfl; go_simp; refine hK _ ?_; clear hK K))
    refine wpM_done ?_
    clear mkS mkU w8 w9
    go_wp2
    go_ret
    exact ⟨nt, ns, nu, rfl, hg, n10, n3, n7, A3, A7, A10, ne37, ne3, ne7⟩
end Go.Proofs.Ytogekloaijidhaa
