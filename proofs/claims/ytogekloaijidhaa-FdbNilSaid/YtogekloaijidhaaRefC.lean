/- WALKS: the reference's functions that say what a port's machine does. -/
import Derived.Test.YtogekloaijidhaaRefB
import Derived.Test.YtogekloaijidhaaInfoI
set_option maxRecDepth 100000
namespace Go.Proofs.Ytogekloaijidhaa
open Go Go.RowKit

/-- a port's bridges are numbers of their kind -/
structure Prt.wfR (p : Prt) : Prop where
  mb : 0 ≤ p.msg.vector.bridge ∧ p.msg.vector.bridge ≤ 18446744073709551615
  vb : 0 ≤ p.vector.bridge ∧ p.vector.bridge ≤ 18446744073709551615
theorem wrCells_new {w : World} {c : Array Value} {T : TypeId} {b n : Nat} {l : List Value} (hb : b = w.heap.size) (hc : c.size = n) (hl : l.length = n) (hv : l.all Value.oneCell' = true) : wrCells (w.alloc (.cells c T)) ⟨b, 0, none⟩ 0 l = some (w.alloc (.cells l.toArray T)) := by
  subst hb
  have hA := At.alloc_new w c.toList T
  have hF : Fit (w.alloc (.cells c T)) w.heap.size 0 n := by have := hA.fit; simpa [hc] using this
  rw [wrCells_fit hF hl hv]
  congr 1
  unfold put World.alloc
  congr 1
  apply Array.ext
  · simp
  · intro i h1 h2
    simp only [Array.getElem_modify]
    split
    · rename_i hi
      subst hi
      simp [putObj, overL, hc, hl]
    · rename_i hi
      simp at h1 h2 ⊢
      rw [Array.getElem_push_lt (by omega), Array.getElem_push_lt (by omega)]
@[go_sem] theorem Vec.wr_new {w : World} {c : Array Value} {T : TypeId} {b : Nat} {q : Vec} (hb : b = w.heap.size) (hc : c.size = 4) : wrCells (w.alloc (.cells c T)) ⟨b, 0, none⟩ 0 q.enc = some (w.alloc (.cells q.enc.toArray T)) := wrCells_new hb hc rfl rfl
@[go_sem] theorem Tms.wr_new {w : World} {c : Array Value} {T : TypeId} {b : Nat} {q : Tms} (hb : b = w.heap.size) (hc : c.size = 4) : wrCells (w.alloc (.cells c T)) ⟨b, 0, none⟩ 0 q.enc = some (w.alloc (.cells q.enc.toArray T)) := wrCells_new hb hc rfl rfl
@[go_sem] theorem Bpdu.wr_new {w : World} {c : Array Value} {T : TypeId} {b : Nat} {q : Bpdu} (hb : b = w.heap.size) (hc : c.size = 10) : wrCells (w.alloc (.cells c T)) ⟨b, 0, none⟩ 0 q.enc = some (w.alloc (.cells q.enc.toArray T)) := wrCells_new hb hc rfl rfl
@[go_sem] theorem Prt.wr_new {w : World} {c : Array Value} {T : TypeId} {b : Nat} {q : Prt} (hb : b = w.heap.size) (hc : c.size = 90) : wrCells (w.alloc (.cells c T)) ⟨b, 0, none⟩ 0 q.enc = some (w.alloc (.cells q.enc.toArray T)) := wrCells_new hb hc rfl rfl
@[go_sem] theorem Brg.wr_new {w : World} {c : Array Value} {T : TypeId} {b : Nat} {q : Brg} (hb : b = w.heap.size) (hc : c.size = 18) : wrCells (w.alloc (.cells c T)) ⟨b, 0, none⟩ 0 q.enc = some (w.alloc (.cells q.enc.toArray T)) := wrCells_new hb hc rfl rfl
/-- a block that is made beside one that is put -/
theorem own1 {w : World} {b o : Nat} {l : List Value} (f : Fit w b o l.length) (m : List Value) (T : TypeId) : ∃ w2, Grow w w2 ∧ Fit w2 w.heap.size 0 m.length ∧ New w w.heap.size ∧ b ≠ w.heap.size ∧ w.heap.size ≠ b ∧ (put w b o l).alloc (.cells m.toArray T) = put (put w2 b o l) w.heap.size 0 m := by
  obtain ⟨w1, g1, f1, _, e⟩ := alloc_put (put w b o l) m T
  rw [put_size] at f1 e
  obtain ⟨w2, g2, rfl⟩ := g1.unput f
  have hlt := f.lt
  have hne : b ≠ w.heap.size := by omega
  exact ⟨w2, g2, (Fit.put_far hne.symm).1 f1, Nat.le_refl _, hne, hne.symm, e⟩
theorem own2 {w : World} {b1 b2 o1 o2 : Nat} {l1 l2 : List Value} (f1 : Fit w b1 o1 l1.length) (f2 : Fit w b2 o2 l2.length) (hb : b1 ≠ b2) (m : List Value) (T : TypeId) : ∃ w2, Grow w w2 ∧ Fit w2 w.heap.size 0 m.length ∧ New w w.heap.size ∧ (b1 ≠ w.heap.size ∧ w.heap.size ≠ b1) ∧ (b2 ≠ w.heap.size ∧ w.heap.size ≠ b2) ∧
    (put (put w b1 o1 l1) b2 o2 l2).alloc (.cells m.toArray T) = put (put (put w2 b1 o1 l1) b2 o2 l2) w.heap.size 0 m := by
  obtain ⟨w1, g1, f, _, e⟩ := alloc_put (put (put w b1 o1 l1) b2 o2 l2) m T
  rw [put_size, put_size] at f e
  obtain ⟨w2, g2, rfl⟩ := g1.unput2 f1 f2 hb
  have h1 := f1.lt
  have h2 := f2.lt
  have n1 : b1 ≠ w.heap.size := by omega
  have n2 : b2 ≠ w.heap.size := by omega
  exact ⟨w2, g2, (Fit.put_far n1.symm).1 ((Fit.put_far n2.symm).1 f), Nat.le_refl _, ⟨n1, n1.symm⟩, ⟨n2, n2.symm⟩, e⟩
theorem New.up {w w1 : World} {n : Nat} (h : New w1 n) (g : Grow w w1) : New w n := Nat.le_trans g.size h
def roleA (m : Bpdu) : Int := if m.kind = 1 then 2 else 0
/-- what a message tells, by what is asked of it -/
def newsOf (r : Int) (bt fr same tm : Bool) (info : Int) : Int :=
  if r = 2 then (if bt || (fr && !same) || (same && tm) then 1 else if same then (if info = 3 then 2 else 0) else 3) else if r = 1 ∨ r = 3 then (if bt then 0 else 4) else 0
theorem news_of (p : Prt) : P.news p = newsOf (P.roleM p.msg) (P.better p.msg.vector p.vector) (P.from p.msg.vector p.vector) (decide (p.msg.vector = p.vector)) (decide (P.timesOf p.msg ≠ p.portTimes)) p.infoIs := by
  unfold P.news newsOf P.superiorV
  by_cases hv : p.msg.vector = p.vector <;> simp [hv]
set_option maxHeartbeats 4000000 in
theorem news15_calls (p : Prt) (hm : p.msg.wf) (hmp : 0 ≤ p.msg.vector.port ∧ p.msg.vector.port ≤ 65535) (hvp : 0 ≤ p.vector.port ∧ p.vector.port ≤ 65535) (hr : p.wfR) (w : World) :
    Calls Try.prog 13 #[.agg p.enc.toArray] w fun e w' => e = .returned (.int .i64 (P.news p)) ∧ Grow w w' := by
  have HR := Lib.hid hr
  clear hr
  go_enter Try.func13, Try.ntmps13
  go_upto_region 1 with (fail)
  obtain ⟨w1, g1, f1, new1, e⟩ := box1 w p.enc 50; refine wp_in e ?_; clear e; simp only [Prt.length_enc] at f1; generalize w.heap.size = n1 at *
  go_upto_region 2 with (fail)
  obtain ⟨w2, g2, f2, new2, ne12, ne21, e⟩ := own1 (l := p.enc) f1 p.msg.enc 43
  refine wp_in e ?_
  clear e
  replace new2 := new2.up g1
  replace f1 := g2.fit f1
  replace g1 := g1.trans g2
  clear g2
  rw [Bpdu.length_enc] at f2
  generalize w1.heap.size = n2 at *
  go_wp2_with fail
  refine (seconds15_calls _ hm _).mono ?_
  rintro e X ⟨rfl, h3⟩
  obtain ⟨w3, g3, rfl⟩ := h3.unput2 f1 f2 ne12
  clear h3
  replace f1 := g3.fit f1
  replace f2 := g3.fit f2
  replace g1 := g1.trans g3
  clear g3
  go_upto_region 3 with (fail)
  obtain ⟨w4, g4, f3, new3, ⟨ne13, ne31⟩, ⟨ne23, ne32⟩, e⟩ := own2 (l1 := p.enc) (l2 := p.msg.enc) f1 f2 ne12 (P.timesOf p.msg).enc 25
  refine wp_in e ?_
  clear e
  replace new3 := new3.up g1
  replace f1 := g4.fit f1
  replace f2 := g4.fit f2
  replace g1 := g1.trans g4
  clear g4
  rw [Tms.length_enc] at f3
  generalize w3.heap.size = n3 at *
  go_upto_if 15 with (fail)
  go_cut [5] (fun v w' => v = .int .i64 (roleA p.msg) ∧ w' = put (put (put w4 n1 0 p.enc) n2 0 p.msg.enc) n3 0 (P.timesOf p.msg).enc)
  case first =>
    by_cases hk : p.msg.kind = 1
    all_goals
      go_wp2_with fail
      go_meet
      case rel => exact ⟨by simp [hk, roleA], rfl⟩
  case rest =>
    obtain ⟨rfl, rfl⟩ := hcut
    go_upto_if 18 with (fail)
    go_cut [5] (fun v w' => v = .int .i64 (P.roleM p.msg) ∧ w' = put (put (put w4 n1 0 p.enc) n2 0 p.msg.enc) n3 0 (P.timesOf p.msg).enc)
    case first =>
      by_cases hk : p.msg.kind = 3
      · go_wp2_with (go_at_call 34; refine (role07_calls _ hm.flags.1 hm.flags.2 _).mono ?_; rintro e w' ⟨rfl, rfl⟩)
        go_meet
        case rel => exact ⟨by simp [hk, P.roleM], rfl⟩
      · go_wp2_with fail
        go_meet
        case rel => exact ⟨by simp [hk, P.roleM, roleA], rfl⟩
    case rest =>
      obtain ⟨rfl, rfl⟩ := hcut
      go_wp2_with fail
      refine (less08_calls _ _ _).mono ?_
      rintro e X ⟨rfl, h5⟩
      obtain ⟨w5, g5, rfl⟩ := h5.unput3 f1 f2 f3 ne12 ne13 ne23
      clear h5
      replace f1 := g5.fit f1
      replace f2 := g5.fit f2
      replace f3 := g5.fit f3
      replace g1 := g1.trans g5
      clear g5
      go_wp2_with fail
      refine (from08_calls _ _ hmp hvp HR.out.mb HR.out.vb _).mono ?_
      rintro e X ⟨rfl, h5⟩
      obtain ⟨w6, g6, rfl⟩ := h5.unput3 f1 f2 f3 ne12 ne13 ne23
      clear h5
      replace f1 := g6.fit f1
      replace f2 := g6.fit f2
      replace f3 := g6.fit f3
      replace g1 := g1.trans g6
      clear g6
      have hW : Grow w (put (put (put w6 n1 0 p.enc) n2 0 p.msg.enc) n3 0 (P.timesOf p.msg).enc) := Grow.new (Grow.new (Grow.new g1 new1) new2) new3
      clear hm hmp hvp HR g1
      have hn := news_of p
      have HN := Lib.hid hn
      clear hn
      generalize P.roleM p.msg = r at HN ⊢
      generalize P.better p.msg.vector p.vector = bt at HN ⊢
      generalize P.from p.msg.vector p.vector = fr at HN ⊢
      have hr4 : r = 2 ∨ r = 1 ∨ r = 3 ∨ (r ≠ 2 ∧ r ≠ 1 ∧ r ≠ 3) := by omega
      rcases hr4 with rfl | rfl | rfl | ⟨h2, h1, h3⟩
      · by_cases hv : p.msg.vector = p.vector
        · have hvd := decide_eq_true hv
          rw [hvd] at HN
          have HV := Lib.hid hv
          clear hv
          by_cases ht : P.timesOf p.msg = p.portTimes
          · have htd := decide_eq_true ht
            have htn : decide (P.timesOf p.msg ≠ p.portTimes) = false := by simp [ht]
            rw [htn] at HN
            have HT := Lib.hid ht
            clear ht
            by_cases hi : p.infoIs = 3
            all_goals
              cases bt <;> cases fr
              all_goals
                go_wp2
                go_ret
                exact ⟨by rw [HN.out]; simp [newsOf, hi], hW⟩
          · have htd := decide_eq_false ht
            have htn : decide (P.timesOf p.msg ≠ p.portTimes) = true := by simp [ht]
            rw [htn] at HN
            have HT := Lib.hid ht
            clear ht
            cases bt <;> cases fr
            all_goals
              go_wp2
              go_ret
              exact ⟨by rw [HN.out]; simp [newsOf], hW⟩
        · have hvd := decide_eq_false hv
          rw [hvd] at HN
          have HV := Lib.hid hv
          clear hv
          cases bt <;> cases fr
          all_goals
            go_wp2
            go_ret
            exact ⟨by rw [HN.out]; simp [newsOf], hW⟩
      · cases bt
        all_goals
          go_wp2
          go_ret
          exact ⟨by rw [HN.out]; simp [newsOf], hW⟩
      · cases bt
        all_goals
          go_wp2
          go_ret
          exact ⟨by rw [HN.out]; simp [newsOf], hW⟩
      · have e2 : (r == 2) = false := by simp [h2]
        have e1 : (r == 1) = false := by simp [h1]
        have e3 : (r == 3) = false := by simp [h3]
        have H2 := Lib.hid h2
        have H1 := Lib.hid h1
        have H3 := Lib.hid h3
        clear h2 h1 h3
        go_wp2
        go_ret
        exact ⟨by rw [HN.out]; simp [newsOf, H2.out, H1.out, H3.out], hW⟩
end Go.Proofs.Ytogekloaijidhaa
