/- WALKS: the reference's Step: a bridge behind what a port's machine does next. -/
import Derived.Test.YtogekloaijidhaaRefE
import Derived.Test.YtogekloaijidhaaRefG
set_option maxRecDepth 100000
namespace Go.Proofs.Ytogekloaijidhaa
open Go Go.RowKit

theorem K_in {K : Act → World → Prop} {a : Act} {w w' : World} (h : w = w') (k : K a w') : K a w := by rw [h]; exact k
def StepCut (w : World) (n1 n2 : Nat) (b : Brg) (q : Prt) (r : Bool) (v6 v7 : Value) (w' : World) : Prop :=
  ∃ n3 w2, v6 = .pointer (some ⟨n3, 0, none⟩) ∧ v7 = .bool r ∧ w' = put (put (put w2 n1 0 b.enc) n2 0 Brg.zero.enc) n3 0 q.enc ∧ Grow w w2 ∧ New w n3 ∧ Fit w2 n1 0 18 ∧ Fit w2 n2 0 18 ∧ Fit w2 n3 0 90 ∧ n1 ≠ n3 ∧ n2 ≠ n3
theorem stepCut_of {w w1 X : World} {n1 n2 n3 : Nat} {b : Brg} {q : Prt} {r : Bool} (g1 : Grow w w1) (f1 : Fit w1 n1 0 18) (f2 : Fit w1 n2 0 18) (ne12 : n1 ≠ n2)
    (hg : Grow (put (put w1 n1 0 b.enc) n2 0 Brg.zero.enc) (put X n3 0 q.enc)) (f3 : Fit X n3 0 90) (hn : New (put (put w1 n1 0 b.enc) n2 0 Brg.zero.enc) n3) :
    StepCut w n1 n2 b q r (.pointer (some ⟨n3, 0, none⟩)) (.bool r) (put X n3 0 q.enc) := by
  have hA : At (put X n3 0 q.enc) n3 0 q.enc := At.of_put (by rw [Prt.length_enc]; exact f3)
  have h1 := f1.lt
  have h2 := f2.lt
  unfold New at hn
  rw [put_size, put_size] at hn
  obtain ⟨w2, g2, e⟩ := hg.unput2 f1 f2 ne12
  have hp := hA.put_self
  rw [e] at hp hA ⊢
  have hf : Fit w2 n3 0 90 := by
    have := hA.fit
    rw [Prt.length_enc] at this
    exact (Fit.put_far (by omega)).1 ((Fit.put_far (by omega)).1 this)
  exact ⟨n3, w2, rfl, rfl, hp.symm, g1.trans g2, Nat.le_trans g1.size hn, g2.fit f1, g2.fit f2, hf, by omega, by omega⟩
/-- a bridge like b, with ports l of its own, and whether something was done -/
def StepPost (b : Brg) (l : List Prt) (r : Bool) (w : World) (e : Ending) (w' : World) : Prop :=
  ∃ pb c, e = .returned (.tuple #[.agg ({ b with ports := ⟨some ⟨pb, 0, none⟩, l.length, c⟩ } : Brg).enc.toArray, .bool r]) ∧ New w pb ∧ Grow w w' ∧ At w' pb 0 (flat l)
set_option maxHeartbeats 4000000 in
theorem step15_out (b : Brg) (l : List Prt) (i : Int) (w : World) (hnn : b.ports.n = l.length) (hi : i < 0 ∨ (l.length : Int) ≤ i) :
    Calls Try.prog 10 #[.agg b.enc.toArray, .int .i64 i] w fun e w' => e = .returned (.tuple #[.agg b.enc.toArray, .bool false]) ∧ Grow w w' := by
  have hd : i < 0 ∨ (¬ i < 0 ∧ (l.length : Int) ≤ i) := by omega
  clear hi
  rcases hd with hd | ⟨hd, hd'⟩
  all_goals
    go_enter Try.func10, Try.ntmps10
    go_upto_region 1 with (fail)
    obtain ⟨w1, g1, f1, f2, new1, new2, ne12, ne21, e⟩ := box2 w b.enc Brg.zero.enc 34 34; refine wp_in e ?_; clear e; simp only [Brg.length_enc, Brg.length_enc] at f1 f2; generalize w.heap.size + 1 = n2 at *; generalize w.heap.size = n1 at *
    go_wp2
    refine bodyPost_ret (v := .tuple #[.agg b.enc.toArray, .bool false]) ?_ rfl ⟨rfl, Grow.new (Grow.new g1 new1) new2⟩
    simp [results, Try.results10, go_sem, f2, ne21]
set_option maxHeartbeats 8000000 in
theorem step15_in (b : Brg) (l : List Prt) (i : Int) (k : Nat) (w : World) (hl : PortsIn w b.ports l) (hn : l.length ≤ 1000) (hi : i = k) (hk : k < l.length) (hp : l[k].wf) (hr : l[k].wfR) :
    Calls Try.prog 10 #[.agg b.enc.toArray, .int .i64 i] w (StepPost b (l.set k (P.step b.rstp l[k]).1) (P.step b.rstp l[k]).2 w) := by
  subst hi
  obtain ⟨pb, po, ea, hx⟩ := hl.2 k hk
  have hnn : b.ports.n = l.length := hl.1
  have HL := Lib.hid hl
  have HP := Lib.hid hp
  have HR := Lib.hid hr
  clear hl hp hr hx
  go_enter Try.func10, Try.ntmps10
  go_upto_region 1 with (fail)
  obtain ⟨w1, g1, f1, f2, new1, new2, ne12, ne21, e⟩ := box2 w b.enc Brg.zero.enc 34 34; refine wp_in e ?_; clear e; simp only [Brg.length_enc, Brg.length_enc] at f1 f2; generalize w.heap.size + 1 = n2 at *; generalize w.heap.size = n1 at *
  obtain ⟨pb', po', ea', hx⟩ := (HL.out.grow (Grow.new (o := 0) (l := Brg.zero.enc) (Grow.new (o := 0) (l := b.enc) g1 new1) new2)).2 k hk
  rw [ea] at ea'
  cases ea'
  go_wp2_with fail
  go_cut [6, 7] (fun v6 v7 w' => StepCut w n1 n2 b (P.step b.rstp l[k]).1 (P.step b.rstp l[k]).2 v6 v7 w')
  case first =>
    have hg : Grow (put (put w1 n1 0 b.enc) n2 0 Brg.zero.enc) (put (put w1.drew n1 0 b.enc) n2 0 Brg.zero.enc) := (Grow.refl _).drew
    refine wp_region_ord (Ord.rds [0, 1, 2, 3, 4, 5] (.alt 6 (Ord.rds [7, 8, 9] (.alt 10 (.alt 11 (Ord.rds [12] .done) .stop) .stop)) (.alt 10 (.alt 6 (Ord.rds [7, 8, 9] (.alt 11 (Ord.rds [12] .done) .stop)) .stop) .stop))) (by kernel_rfl) (by kernel_rfl) ?_
    repeat (first | (refine wpM_rdy rfl ?_ (fun K hK => ?_); exact wanted_plain rfl; go_simp; refine hK _ ?_; clear hK K) | (refine wpM_rdy rfl ?_ (fun K hK => ?_); exact wanted_yes rfl rfl rfl rfl; go_simp; refine hK _ ?_; clear hK K) | (refine wpM_rdn rfl ?_ (fun K hK => ?_); exact wanted_no rfl rfl rfl rfl; go_simp; refine hK _ ?_; clear hK K) | (refine wpM_rdn rfl ?_ (fun K hK => ?_); exact wanted_undef rfl rfl rfl rfl; go_simp; refine hK _ ?_; clear hK K))
    refine wpM_efy rfl (wanted_plain rfl) (fun K hK _ => ?_) hg ?_
    · go_simp
      refine (next15_calls _ _ HP.out HR.out _).mono ?_
      rintro e X ⟨rfl, h5⟩
      have hg := hg.trans h5
      try have f3 := h5.fit f3
      refine hK _ _ ⟨hg, ?_⟩; clear hK K
      repeat (first | (refine wpM_rdy rfl ?_ (fun K hK => ?_); exact wanted_plain rfl; go_simp; refine hK _ ?_; clear hK K) | (refine wpM_rdy rfl ?_ (fun K hK => ?_); exact wanted_yes rfl rfl rfl rfl; go_simp; refine hK _ ?_; clear hK K) | (refine wpM_rdn rfl ?_ (fun K hK => ?_); exact wanted_no rfl rfl rfl rfl; go_simp; refine hK _ ?_; clear hK K) | (refine wpM_rdn rfl ?_ (fun K hK => ?_); exact wanted_undef rfl rfl rfl rfl; go_simp; refine hK _ ?_; clear hK K))
      refine wpM_efy rfl (wanted_plain rfl) (fun K hK _ => ?_) hg wpM_stop
      go_simp
      obtain ⟨X, nv, hg, g1', f3, n3, en, e⟩ := hg.made Prt.zero.enc 50
      (try simp only [put_size] at en)
      (try simp only [World.size_drew] at en)
      rw [← en]
      refine K_in e ?_
      rw [Prt.length_enc] at f3
      clear e en
      refine hK _ _ ⟨hg, ?_⟩; clear hK K
      refine wpM_efy rfl (wanted_plain rfl) (fun K hK _ => ?_) hg wpM_stop
      go_simp
      have hg := hg.new (o := 0) (l := (P.step b.rstp l[k]).1.enc) n3
      refine hK _ _ ⟨hg, ?_⟩; clear hK K
      repeat (first | (refine wpM_rdy rfl ?_ (fun K hK => ?_); exact wanted_plain rfl; go_simp; refine hK _ ?_; clear hK K) | (refine wpM_rdy rfl ?_ (fun K hK => ?_); exact wanted_yes rfl rfl rfl rfl; go_simp; refine hK _ ?_; clear hK K) | (refine wpM_rdn rfl ?_ (fun K hK => ?_); exact wanted_no rfl rfl rfl rfl; go_simp; refine hK _ ?_; clear hK K) | (refine wpM_rdn rfl ?_ (fun K hK => ?_); exact wanted_undef rfl rfl rfl rfl; go_simp; refine hK _ ?_; clear hK K))
      refine wpM_done ?_
      go_wp2_with fail
      go_meet
      case rel => exact stepCut_of g1 f1 f2 ne12 hg f3 n3
    · refine wpM_efy rfl (wanted_plain rfl) (fun K hK _ => ?_) hg wpM_stop
      go_simp
      obtain ⟨X, nv, hg, g1', f3, n3, en, e⟩ := hg.made Prt.zero.enc 50
      (try simp only [put_size] at en)
      (try simp only [World.size_drew] at en)
      rw [← en]
      refine K_in e ?_
      rw [Prt.length_enc] at f3
      clear e en
      refine hK _ _ ⟨hg, ?_⟩; clear hK K
      refine wpM_efy rfl (wanted_plain rfl) (fun K hK _ => ?_) hg wpM_stop
      go_simp
      refine (next15_calls _ _ HP.out HR.out _).mono ?_
      rintro e X ⟨rfl, h5⟩
      have hg := hg.trans h5
      try have f3 := h5.fit f3
      refine hK _ _ ⟨hg, ?_⟩; clear hK K
      repeat (first | (refine wpM_rdy rfl ?_ (fun K hK => ?_); exact wanted_plain rfl; go_simp; refine hK _ ?_; clear hK K) | (refine wpM_rdy rfl ?_ (fun K hK => ?_); exact wanted_yes rfl rfl rfl rfl; go_simp; refine hK _ ?_; clear hK K) | (refine wpM_rdn rfl ?_ (fun K hK => ?_); exact wanted_no rfl rfl rfl rfl; go_simp; refine hK _ ?_; clear hK K) | (refine wpM_rdn rfl ?_ (fun K hK => ?_); exact wanted_undef rfl rfl rfl rfl; go_simp; refine hK _ ?_; clear hK K))
      refine wpM_efy rfl (wanted_plain rfl) (fun K hK _ => ?_) hg wpM_stop
      go_simp
      have hg := hg.new (o := 0) (l := (P.step b.rstp l[k]).1.enc) n3
      refine hK _ _ ⟨hg, ?_⟩; clear hK K
      repeat (first | (refine wpM_rdy rfl ?_ (fun K hK => ?_); exact wanted_plain rfl; go_simp; refine hK _ ?_; clear hK K) | (refine wpM_rdy rfl ?_ (fun K hK => ?_); exact wanted_yes rfl rfl rfl rfl; go_simp; refine hK _ ?_; clear hK K) | (refine wpM_rdn rfl ?_ (fun K hK => ?_); exact wanted_no rfl rfl rfl rfl; go_simp; refine hK _ ?_; clear hK K) | (refine wpM_rdn rfl ?_ (fun K hK => ?_); exact wanted_undef rfl rfl rfl rfl; go_simp; refine hK _ ?_; clear hK K))
      refine wpM_done ?_
      go_wp2_with fail
      go_meet
      case rel => exact stepCut_of g1 f1 f2 ne12 hg f3 n3
  case rest =>
    obtain ⟨n3, w2, rfl, rfl, rfl, g2, new3, f1, f2, f3, ne13, ne23⟩ := hcut
    clear g1 hx
    generalize hq : P.step b.rstp l[k] = q
    have HQ := Lib.hid hq
    clear hq
    have ne31 := ne13.symm
    have ne32 := ne23.symm
    have hW : Grow w (put (put (put w2 n1 0 b.enc) n2 0 Brg.zero.enc) n3 0 q.1.enc) := Grow.new (Grow.new (Grow.new g2 new1) new2) new3
    have HI := Lib.hid (HL.out.grow hW)
    clear hW
    go_wp2_with fail
    refine (copy_calls b l _ HI.out hn).mono ?_
    rintro e X ⟨p2, c2, rfl, newp, hG, hA⟩
    unfold New at newp
    simp only [put_size] at newp
    have lt1 := f1.lt
    have lt2 := f2.lt
    have lt3 := f3.lt
    obtain ⟨w3, g3, rfl⟩ := hG.unput3 f1 f2 f3 ne12 ne13 ne23
    clear hG HI
    have hA := ((hA.of_put_other (show p2 ≠ n3 by omega)).of_put_other (show p2 ≠ n2 by omega)).of_put_other (show p2 ≠ n1 by omega)
    have hA2 := hA.put_port k hk q.1
    have f4 := (hA.port k hk).fit
    rw [Prt.length_enc] at f4
    rw [Nat.zero_add] at f4 hA2
    have np1 : p2 ≠ n1 := by omega
    have np2 : p2 ≠ n2 := by omega
    have np3 : p2 ≠ n3 := by omega
    have pn1 : n1 ≠ p2 := by omega
    have pn2 : n2 ≠ p2 := by omega
    have pn3 : n3 ≠ p2 := by omega
    have newp : New w p2 := Nat.le_trans g2.size newp
    replace f1 := g3.fit f1
    replace f2 := g3.fit f2
    replace f3 := g3.fit f3
    replace g2 := g2.trans g3
    clear g3 lt1 lt2 lt3
    have HA := Lib.hid hA2
    clear hA hA2
    have hki : (k : Int) < (l.length : Int) := by omega
    go_wp2
    refine bodyPost_ret (v := .tuple #[.agg ({ b with ports := ⟨some ⟨p2, 0, none⟩, l.length, c2⟩ } : Brg).enc.toArray, .bool q.2]) ?_ rfl ?_
    · simp [results, Try.results10, go_sem, f2, ne21, ne23, pn2, Fit.put_far]
    · rw [HQ.out]
      exact ⟨p2, c2, by rw [List.length_set], newp, Grow.new (Grow.new (Grow.new (Grow.new g2 newp) new1) new2) new3, ((HA.out.put_other np1).put_other np2).put_other np3⟩
end Go.Proofs.Ytogekloaijidhaa
