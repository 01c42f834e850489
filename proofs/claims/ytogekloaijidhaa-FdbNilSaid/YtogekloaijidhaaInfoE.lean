/- WALKS: what a message tells a port (info.News), and what the port makes of it. -/
import Derived.Test.YtogekloaijidhaaInfoD
import Derived.Deep.DeepCutAuto
import Derived.Deep.Light
set_option maxRecDepth 100000
namespace Go.Proofs.Ytogekloaijidhaa
open Go Go.RowKit

/-- behind the first statement: two blocks of its own, with the message's vector and times -/
def NewsCut (w : World) (b o : Nat) (p : Prt) (v3 v4 : Value) (w' : World) : Prop :=
  ∃ nv nt w1, v3 = .pointer (some ⟨nv, 0, none⟩) ∧ v4 = .pointer (some ⟨nt, 0, none⟩) ∧ Grow w w1 ∧ nv ≠ b ∧ nt ≠ b ∧ At w1 nv 0 p.msg.vector.enc ∧ At w1 nt 0 (P.timesOf p.msg).enc ∧ w' = put w1 b o p.enc
theorem ret_int {k : IntKind} {a b : Int} (h : a = b) : Ending.returned (.int k a) = .returned (.int k b) := by rw [h]
theorem newsCut_of {w X W' : World} {b o nv nt : Nat} {p : Prt} (h : Fit w b o 90) (hg : Grow (put w b o p.enc) W') (n3 : New (put w b o p.enc) nv) (n4 : New (put w b o p.enc) nt) (ne : nv ≠ nt) (f3 : Fit X nv 0 4) (f4 : Fit X nt 0 4)
    (e : W' = put (put X nt 0 (P.timesOf p.msg).enc) nv 0 p.msg.vector.enc) : NewsCut w b o p (.pointer (some ⟨nv, 0, none⟩)) (.pointer (some ⟨nt, 0, none⟩)) W' := by
  have hb := h.lt
  unfold New at n3 n4
  rw [put_size] at n3 n4
  obtain ⟨w1, g, e1⟩ := hg.unput h
  have a3 : At W' nv 0 p.msg.vector.enc := by rw [e]; exact At.of_put ((Fit.put_far ne).2 f3)
  have a4 : At W' nt 0 (P.timesOf p.msg).enc := by rw [e]; exact (At.of_put f4).put_other ne.symm
  rw [e1] at a3 a4
  exact ⟨nv, nt, w1, rfl, rfl, g, by omega, by omega, a3.of_put_other (by omega), a4.of_put_other (by omega), e1⟩
set_option maxHeartbeats 8000000 in
theorem news_calls (w : World) (b o : Nat) (p : Prt) (h : Fit w b o 90) (hp : p.wf) :
    Calls Try.prog 53 #[.pointer (some ⟨b, o, none⟩)] (put w b o p.enc) fun e w' => e = .returned (.int .i64 (P.news p)) ∧ Done w b o p.enc w' := by
  go_enter Try.func53, Try.ntmps53
  go_wp2_with fail
  go_cut [3, 4] (fun v3 v4 w' => NewsCut w b o p v3 v4 w')
  case first =>
    have hg : Grow (put w b o p.enc) (put w.drew b o p.enc) := (Grow.refl _).drew
    refine wp_region_ord (Ord.rds [0, 1, 2, 3, 4, 5, 6, 7, 8] (.alt 9 (.alt 10 (.alt 11 (.alt 12 (.alt 13 .done .stop) .stop) .stop) (.alt 11 (.alt 10 (.alt 12 (.alt 13 .done .stop) .stop) .stop) .stop)) (.alt 10 (.alt 9 (.alt 11 (.alt 12 (.alt 13 .done .stop) .stop) .stop) (.alt 11 (.alt 9 (.alt 12 (.alt 13 .done .stop) .stop) .stop) .stop)) (.alt 11 (.alt 9 (.alt 10 (.alt 12 (.alt 13 .done .stop) .stop) .stop) (.alt 10 (.alt 9 (.alt 12 (.alt 13 .done .stop) .stop) .stop) .stop)) .stop)))) (by kernel_rfl) (by kernel_rfl) ?_
    repeat (first | (refine wpM_rdy rfl ?_ (fun K hK => ?_); exact wanted_plain rfl; go_simp; refine hK _ ?_; clear hK K) | (refine wpM_rdy rfl ?_ (fun K hK => ?_); exact wanted_yes rfl rfl rfl rfl; go_simp; refine hK _ ?_; clear hK K) | (refine wpM_rdn rfl ?_ (fun K hK => ?_); exact wanted_no rfl rfl rfl rfl; go_simp; refine hK _ ?_; clear hK K) | (refine wpM_rdn rfl ?_ (fun K hK => ?_); exact wanted_undef rfl rfl rfl rfl; go_simp; refine hK _ ?_; clear hK K))
    refine wpM_efy rfl (wanted_plain rfl) (fun K hK _ => ?_) hg ?_
    · go_simp
      refine (timesOf_calls _ hp.msg _).mono ?_
      rintro e X ⟨rfl, h1⟩
      have hg := hg.trans h1
      try have f3 := h1.fit f3
      try have f4 := h1.fit f4
      refine hK _ _ ⟨hg, ?_⟩; clear hK K
      refine wpM_efy rfl (wanted_plain rfl) (fun K hK _ => ?_) hg ?_
      · go_simp
        obtain ⟨X, nv, hg, g1, f3, n3, en, e⟩ := hg.made Vec.zero.enc 30
        (try simp only [put_size] at en)
        (try simp only [World.size_drew] at en)
        rw [Vec.zero_lit, e, ← en]
        rw [Vec.length_enc] at f3
        try (have ne34 : nv ≠ nt := by have := f4.lt; omega)
        try have f4 := g1.fit f4
        clear e en
        refine hK _ _ ⟨hg, ?_⟩; clear hK K
        refine wpM_efy rfl (wanted_plain rfl) (fun K hK _ => ?_) hg wpM_stop
        go_simp
        obtain ⟨X, nt, hg, g1, f4, n4, en, e⟩ := hg.made Tms.zero.enc 25
        (try simp only [put_size] at en)
        (try simp only [World.size_drew] at en)
        rw [Tms.zero_lit, e, ← en]
        rw [Tms.length_enc] at f4
        try (have ne34 : nv ≠ nt := by have := f3.lt; omega)
        try have f3 := g1.fit f3
        clear e en
        refine hK _ _ ⟨hg, ?_⟩; clear hK K
        refine wpM_efy rfl (wanted_plain rfl) (fun K hK _ => ?_) hg wpM_stop
        go_simp
        have hg := hg.new (o := 0) (l := p.msg.vector.enc) n3
        have ne43 := ne34.symm
        refine hK _ _ ⟨hg, ?_⟩; clear hK K
        refine wpM_efy rfl (wanted_plain rfl) (fun K hK _ => ?_) hg wpM_stop
        go_simp
        have e : put (put X nt 0 (P.timesOf p.msg).enc) nv 0 p.msg.vector.enc = put (put X nv 0 p.msg.vector.enc) nt 0 (P.timesOf p.msg).enc := put_comm ne43
        rw [e]
        have hg := hg.new (o := 0) (l := (P.timesOf p.msg).enc) n4
        refine hK _ _ ⟨hg, ?_⟩; clear hK K
        refine wpM_done ?_
        go_wp2_with fail
        go_meet
        case rel => exact newsCut_of h hg n3 n4 ne34 f3 f4 e.symm
      · refine wpM_efy rfl (wanted_plain rfl) (fun K hK _ => ?_) hg wpM_stop
        go_simp
        obtain ⟨X, nt, hg, g1, f4, n4, en, e⟩ := hg.made Tms.zero.enc 25
        (try simp only [put_size] at en)
        (try simp only [World.size_drew] at en)
        rw [Tms.zero_lit, e, ← en]
        rw [Tms.length_enc] at f4
        try (have ne34 : nv ≠ nt := by have := f3.lt; omega)
        try have f3 := g1.fit f3
        clear e en
        refine hK _ _ ⟨hg, ?_⟩; clear hK K
        refine wpM_efy rfl (wanted_plain rfl) (fun K hK _ => ?_) hg wpM_stop
        go_simp
        obtain ⟨X, nv, hg, g1, f3, n3, en, e⟩ := hg.made Vec.zero.enc 30
        (try simp only [put_size] at en)
        (try simp only [World.size_drew] at en)
        rw [Vec.zero_lit, e, ← en]
        rw [Vec.length_enc] at f3
        try (have ne34 : nv ≠ nt := by have := f4.lt; omega)
        try have f4 := g1.fit f4
        clear e en
        refine hK _ _ ⟨hg, ?_⟩; clear hK K
        refine wpM_efy rfl (wanted_plain rfl) (fun K hK _ => ?_) hg wpM_stop
        go_simp
        have hg := hg.new (o := 0) (l := p.msg.vector.enc) n3
        have ne43 := ne34.symm
        refine hK _ _ ⟨hg, ?_⟩; clear hK K
        refine wpM_efy rfl (wanted_plain rfl) (fun K hK _ => ?_) hg wpM_stop
        go_simp
        have e : put (put X nt 0 (P.timesOf p.msg).enc) nv 0 p.msg.vector.enc = put (put X nv 0 p.msg.vector.enc) nt 0 (P.timesOf p.msg).enc := put_comm ne43
        rw [e]
        have hg := hg.new (o := 0) (l := (P.timesOf p.msg).enc) n4
        refine hK _ _ ⟨hg, ?_⟩; clear hK K
        refine wpM_done ?_
        go_wp2_with fail
        go_meet
        case rel => exact newsCut_of h hg n3 n4 ne34 f3 f4 e.symm
    · refine wpM_efy rfl (wanted_plain rfl) (fun K hK _ => ?_) hg ?_
      · go_simp
        obtain ⟨X, nv, hg, g1, f3, n3, en, e⟩ := hg.made Vec.zero.enc 30
        (try simp only [put_size] at en)
        (try simp only [World.size_drew] at en)
        rw [Vec.zero_lit, e, ← en]
        rw [Vec.length_enc] at f3
        try (have ne34 : nv ≠ nt := by have := f4.lt; omega)
        try have f4 := g1.fit f4
        clear e en
        refine hK _ _ ⟨hg, ?_⟩; clear hK K
        refine wpM_efy rfl (wanted_plain rfl) (fun K hK _ => ?_) hg ?_
        · go_simp
          refine (timesOf_calls _ hp.msg _).mono ?_
          rintro e X ⟨rfl, h1⟩
          have hg := hg.trans h1
          try have f3 := h1.fit f3
          try have f4 := h1.fit f4
          refine hK _ _ ⟨hg, ?_⟩; clear hK K
          refine wpM_efy rfl (wanted_plain rfl) (fun K hK _ => ?_) hg wpM_stop
          go_simp
          obtain ⟨X, nt, hg, g1, f4, n4, en, e⟩ := hg.made Tms.zero.enc 25
          (try simp only [put_size] at en)
          (try simp only [World.size_drew] at en)
          rw [Tms.zero_lit, e, ← en]
          rw [Tms.length_enc] at f4
          try (have ne34 : nv ≠ nt := by have := f3.lt; omega)
          try have f3 := g1.fit f3
          clear e en
          refine hK _ _ ⟨hg, ?_⟩; clear hK K
          refine wpM_efy rfl (wanted_plain rfl) (fun K hK _ => ?_) hg wpM_stop
          go_simp
          have hg := hg.new (o := 0) (l := p.msg.vector.enc) n3
          have ne43 := ne34.symm
          refine hK _ _ ⟨hg, ?_⟩; clear hK K
          refine wpM_efy rfl (wanted_plain rfl) (fun K hK _ => ?_) hg wpM_stop
          go_simp
          have e : put (put X nt 0 (P.timesOf p.msg).enc) nv 0 p.msg.vector.enc = put (put X nv 0 p.msg.vector.enc) nt 0 (P.timesOf p.msg).enc := put_comm ne43
          rw [e]
          have hg := hg.new (o := 0) (l := (P.timesOf p.msg).enc) n4
          refine hK _ _ ⟨hg, ?_⟩; clear hK K
          refine wpM_done ?_
          go_wp2_with fail
          go_meet
          case rel => exact newsCut_of h hg n3 n4 ne34 f3 f4 e.symm
        · refine wpM_efy rfl (wanted_plain rfl) (fun K hK _ => ?_) hg wpM_stop
          go_simp
          obtain ⟨X, nt, hg, g1, f4, n4, en, e⟩ := hg.made Tms.zero.enc 25
          (try simp only [put_size] at en)
          (try simp only [World.size_drew] at en)
          rw [Tms.zero_lit, e, ← en]
          rw [Tms.length_enc] at f4
          try (have ne34 : nv ≠ nt := by have := f3.lt; omega)
          try have f3 := g1.fit f3
          clear e en
          refine hK _ _ ⟨hg, ?_⟩; clear hK K
          refine wpM_efy rfl (wanted_plain rfl) (fun K hK _ => ?_) hg wpM_stop
          go_simp
          refine (timesOf_calls _ hp.msg _).mono ?_
          rintro e X ⟨rfl, h1⟩
          have hg := hg.trans h1
          try have f3 := h1.fit f3
          try have f4 := h1.fit f4
          refine hK _ _ ⟨hg, ?_⟩; clear hK K
          refine wpM_efy rfl (wanted_plain rfl) (fun K hK _ => ?_) hg wpM_stop
          go_simp
          have hg := hg.new (o := 0) (l := p.msg.vector.enc) n3
          have ne43 := ne34.symm
          refine hK _ _ ⟨hg, ?_⟩; clear hK K
          refine wpM_efy rfl (wanted_plain rfl) (fun K hK _ => ?_) hg wpM_stop
          go_simp
          have e : put (put X nt 0 (P.timesOf p.msg).enc) nv 0 p.msg.vector.enc = put (put X nv 0 p.msg.vector.enc) nt 0 (P.timesOf p.msg).enc := put_comm ne43
          rw [e]
          have hg := hg.new (o := 0) (l := (P.timesOf p.msg).enc) n4
          refine hK _ _ ⟨hg, ?_⟩; clear hK K
          refine wpM_done ?_
          go_wp2_with fail
          go_meet
          case rel => exact newsCut_of h hg n3 n4 ne34 f3 f4 e.symm
      · refine wpM_efy rfl (wanted_plain rfl) (fun K hK _ => ?_) hg wpM_stop
        go_simp
        obtain ⟨X, nt, hg, g1, f4, n4, en, e⟩ := hg.made Tms.zero.enc 25
        (try simp only [put_size] at en)
        (try simp only [World.size_drew] at en)
        rw [Tms.zero_lit, e, ← en]
        rw [Tms.length_enc] at f4
        try (have ne34 : nv ≠ nt := by have := f3.lt; omega)
        try have f3 := g1.fit f3
        clear e en
        refine hK _ _ ⟨hg, ?_⟩; clear hK K
        refine wpM_efy rfl (wanted_plain rfl) (fun K hK _ => ?_) hg ?_
        · go_simp
          refine (timesOf_calls _ hp.msg _).mono ?_
          rintro e X ⟨rfl, h1⟩
          have hg := hg.trans h1
          try have f3 := h1.fit f3
          try have f4 := h1.fit f4
          refine hK _ _ ⟨hg, ?_⟩; clear hK K
          refine wpM_efy rfl (wanted_plain rfl) (fun K hK _ => ?_) hg wpM_stop
          go_simp
          obtain ⟨X, nv, hg, g1, f3, n3, en, e⟩ := hg.made Vec.zero.enc 30
          (try simp only [put_size] at en)
          (try simp only [World.size_drew] at en)
          rw [Vec.zero_lit, e, ← en]
          rw [Vec.length_enc] at f3
          try (have ne34 : nv ≠ nt := by have := f4.lt; omega)
          try have f4 := g1.fit f4
          clear e en
          refine hK _ _ ⟨hg, ?_⟩; clear hK K
          refine wpM_efy rfl (wanted_plain rfl) (fun K hK _ => ?_) hg wpM_stop
          go_simp
          have hg := hg.new (o := 0) (l := p.msg.vector.enc) n3
          have ne43 := ne34.symm
          refine hK _ _ ⟨hg, ?_⟩; clear hK K
          refine wpM_efy rfl (wanted_plain rfl) (fun K hK _ => ?_) hg wpM_stop
          go_simp
          have e : put (put X nt 0 (P.timesOf p.msg).enc) nv 0 p.msg.vector.enc = put (put X nv 0 p.msg.vector.enc) nt 0 (P.timesOf p.msg).enc := put_comm ne43
          rw [e]
          have hg := hg.new (o := 0) (l := (P.timesOf p.msg).enc) n4
          refine hK _ _ ⟨hg, ?_⟩; clear hK K
          refine wpM_done ?_
          go_wp2_with fail
          go_meet
          case rel => exact newsCut_of h hg n3 n4 ne34 f3 f4 e.symm
        · refine wpM_efy rfl (wanted_plain rfl) (fun K hK _ => ?_) hg wpM_stop
          go_simp
          obtain ⟨X, nv, hg, g1, f3, n3, en, e⟩ := hg.made Vec.zero.enc 30
          (try simp only [put_size] at en)
          (try simp only [World.size_drew] at en)
          rw [Vec.zero_lit, e, ← en]
          rw [Vec.length_enc] at f3
          try (have ne34 : nv ≠ nt := by have := f4.lt; omega)
          try have f4 := g1.fit f4
          clear e en
          refine hK _ _ ⟨hg, ?_⟩; clear hK K
          refine wpM_efy rfl (wanted_plain rfl) (fun K hK _ => ?_) hg wpM_stop
          go_simp
          refine (timesOf_calls _ hp.msg _).mono ?_
          rintro e X ⟨rfl, h1⟩
          have hg := hg.trans h1
          try have f3 := h1.fit f3
          try have f4 := h1.fit f4
          refine hK _ _ ⟨hg, ?_⟩; clear hK K
          refine wpM_efy rfl (wanted_plain rfl) (fun K hK _ => ?_) hg wpM_stop
          go_simp
          have hg := hg.new (o := 0) (l := p.msg.vector.enc) n3
          have ne43 := ne34.symm
          refine hK _ _ ⟨hg, ?_⟩; clear hK K
          refine wpM_efy rfl (wanted_plain rfl) (fun K hK _ => ?_) hg wpM_stop
          go_simp
          have e : put (put X nt 0 (P.timesOf p.msg).enc) nv 0 p.msg.vector.enc = put (put X nv 0 p.msg.vector.enc) nt 0 (P.timesOf p.msg).enc := put_comm ne43
          rw [e]
          have hg := hg.new (o := 0) (l := (P.timesOf p.msg).enc) n4
          refine hK _ _ ⟨hg, ?_⟩; clear hK K
          refine wpM_done ?_
          go_wp2_with fail
          go_meet
          case rel => exact newsCut_of h hg n3 n4 ne34 f3 f4 e.symm
  case rest =>
    obtain ⟨nv, nt, w1, rfl, rfl, g, nb, tb, av, at4, rfl⟩ := hcut
    have f1 := g.fit h
    go_wp2_with fail
    refine (roleM_calls _ hp.msg _).mono ?_
    rintro e w' ⟨rfl, h2⟩
    obtain ⟨w2, g2, rfl⟩ := h2.unput f1
    clear h2
    replace g := g.trans g2
    replace f1 := g2.fit f1
    replace av := g2.at av
    replace at4 := g2.at at4
    clear g2
    have rv : rdCells w2 ⟨nv, 0, none⟩ 0 4 = some p.msg.vector.enc := av.rd
    have rt : rdCells w2 ⟨nt, 0, none⟩ 0 4 = some (P.timesOf p.msg).enc := at4.rd
    have AV := Lib.hid av
    have AT := Lib.hid at4
    clear av at4
    by_cases hr2 : P.roleM p.msg = 2
    · have hb : (P.roleM p.msg == 2) = true := by simp [hr2]
      have HR := Lib.hid hr2
      clear hr2
      go_wp2_with fail
      go_cut [22] (fun v w' => v = .bool (P.superiorV p.msg.vector p.vector || (decide (p.msg.vector = p.vector) && decide (P.timesOf p.msg ≠ p.portTimes))) ∧ ∃ w3, Grow w2 w3 ∧ w' = put w3 b o p.enc)
      case first =>
        refine wp_region_ord (Ord.rds [0, 1, 2, 3, 4] (.alt 5 (Ord.rds [6, 7, 8, 9, 10, 11, 12, 13, 14, 15, 16, 17, 18, 19, 20, 21, 22] .done) .stop)) (by kernel_rfl) (by kernel_rfl) ?_
        repeat (first | (refine wpM_rdy rfl ?_ (fun K hK => ?_); exact wanted_plain rfl; go_simp; refine hK _ ?_; clear hK K) | (refine wpM_rdy rfl ?_ (fun K hK => ?_); exact wanted_yes rfl rfl rfl rfl; go_simp; refine hK _ ?_; clear hK K) | (refine wpM_rdn rfl ?_ (fun K hK => ?_); exact wanted_no rfl rfl rfl rfl; go_simp; refine hK _ ?_; clear hK K) | (refine wpM_rdn rfl ?_ (fun K hK => ?_); exact wanted_undef rfl rfl rfl rfl; go_simp; refine hK _ ?_; clear hK K))
        refine wpM_efy rfl ?_ (fun K hK _ => ?_) ((Grow.refl _).drew) wpM_stop; (first | exact wanted_plain rfl | exact wanted_yes rfl rfl rfl rfl)
        go_simp
        refine (superiorV_calls _ _ hp.mport hp.vport _).mono ?_
        rintro e w' ⟨rfl, h3⟩
        obtain ⟨w3, g3, rfl⟩ := h3.unput f1
        have hg : Grow (put w2 b o p.enc) (put w3 b o p.enc) := (Grow.refl _).drew.trans h3
        refine hK _ _ ⟨hg, ?_⟩; clear hK K
        cases hs : P.superiorV p.msg.vector p.vector
        · by_cases hv : p.msg.vector = p.vector
          · have hv' : decide (p.msg.vector = p.vector) = true := decide_eq_true hv
            have HV := Lib.hid hv
            clear hv
            repeat (first | (refine wpM_rdy rfl ?_ (fun K hK => ?_); exact wanted_plain rfl; go_simp; refine hK _ ?_; clear hK K) | (refine wpM_rdy rfl ?_ (fun K hK => ?_); exact wanted_yes rfl rfl rfl rfl; go_simp; refine hK _ ?_; clear hK K) | (refine wpM_rdn rfl ?_ (fun K hK => ?_); exact wanted_no rfl rfl rfl rfl; go_simp; refine hK _ ?_; clear hK K) | (refine wpM_rdn rfl ?_ (fun K hK => ?_); exact wanted_undef rfl rfl rfl rfl; go_simp; refine hK _ ?_; clear hK K))
            refine wpM_done ?_
            go_wp2_with fail
            go_meet
            case rel => exact ⟨by rw [hs, hv']; simp, w3, (Grow.refl _).drew.trans g3, rfl⟩
          · have hv' : decide (p.msg.vector = p.vector) = false := decide_eq_false hv
            have HV := Lib.hid hv
            clear hv
            repeat (first | (refine wpM_rdy rfl ?_ (fun K hK => ?_); exact wanted_plain rfl; go_simp; refine hK _ ?_; clear hK K) | (refine wpM_rdy rfl ?_ (fun K hK => ?_); exact wanted_yes rfl rfl rfl rfl; go_simp; refine hK _ ?_; clear hK K) | (refine wpM_rdn rfl ?_ (fun K hK => ?_); exact wanted_no rfl rfl rfl rfl; go_simp; refine hK _ ?_; clear hK K) | (refine wpM_rdn rfl ?_ (fun K hK => ?_); exact wanted_undef rfl rfl rfl rfl; go_simp; refine hK _ ?_; clear hK K))
            refine wpM_done ?_
            go_wp2_with fail
            go_meet
            case rel => exact ⟨by rw [hs, hv']; simp, w3, (Grow.refl _).drew.trans g3, rfl⟩
        · repeat (first | (refine wpM_rdy rfl ?_ (fun K hK => ?_); exact wanted_plain rfl; go_simp; refine hK _ ?_; clear hK K) | (refine wpM_rdy rfl ?_ (fun K hK => ?_); exact wanted_yes rfl rfl rfl rfl; go_simp; refine hK _ ?_; clear hK K) | (refine wpM_rdn rfl ?_ (fun K hK => ?_); exact wanted_no rfl rfl rfl rfl; go_simp; refine hK _ ?_; clear hK K) | (refine wpM_rdn rfl ?_ (fun K hK => ?_); exact wanted_undef rfl rfl rfl rfl; go_simp; refine hK _ ?_; clear hK K))
          refine wpM_done ?_
          go_wp2_with fail
          go_meet
          case rel => exact ⟨by simp [hs], w3, (Grow.refl _).drew.trans g3, rfl⟩
      case rest =>
        obtain ⟨rfl, w3, g3, rfl⟩ := hcut
        have f3 := g3.fit f1
        have rv : rdCells w3 ⟨nv, 0, none⟩ 0 4 = some p.msg.vector.enc := (g3.at AV.out).rd
        have g := g.trans g3
        clear rt AT
        cases hs : (P.superiorV p.msg.vector p.vector || (decide (p.msg.vector = p.vector) && decide (P.timesOf p.msg ≠ p.portTimes)))
        · by_cases hv : p.msg.vector = p.vector
          · have hd : decide (p.msg.vector = p.vector) = true := decide_eq_true hv
            have HV := Lib.hid hv
            clear hv
            go_wp2_with fail
            refine wp_region_ord (Ord.rds [0, 1, 2, 3, 4, 5, 6] .done) (by kernel_rfl) (by kernel_rfl) ?_
            repeat (first | (refine wpM_rdy rfl ?_ (fun K hK => ?_); exact wanted_plain rfl; go_simp; refine hK _ ?_; clear hK K) | (refine wpM_rdy rfl ?_ (fun K hK => ?_); exact wanted_yes rfl rfl rfl rfl; go_simp; refine hK _ ?_; clear hK K) | (refine wpM_rdn rfl ?_ (fun K hK => ?_); exact wanted_no rfl rfl rfl rfl; go_simp; refine hK _ ?_; clear hK K) | (refine wpM_rdn rfl ?_ (fun K hK => ?_); exact wanted_undef rfl rfl rfl rfl; go_simp; refine hK _ ?_; clear hK K))
            refine wpM_done ?_
            by_cases hi : p.infoIs = 3
            · have hi' : (p.infoIs == 3) = true := by simp [hi]
              have HI := Lib.hid hi
              clear hi
              go_wp2
              go_ret
              have e : P.news p = 2 := by unfold P.news; rw [if_pos HR.out, hs]; simp [HV.out, HI.out]
              exact ⟨ret_int e.symm, ⟨_, g.drew, rfl⟩⟩
            · have hi' : (p.infoIs == 3) = false := by simp [hi]
              have HI := Lib.hid hi
              clear hi
              go_wp2
              go_ret
              have e : P.news p = 0 := by unfold P.news; rw [if_pos HR.out, hs]; simp [HV.out, HI.out]
              exact ⟨ret_int e.symm, ⟨_, g.drew, rfl⟩⟩
          · have hd : decide (p.msg.vector = p.vector) = false := decide_eq_false hv
            have HV := Lib.hid hv
            clear hv
            go_wp2_with fail
            refine wp_region_ord (Ord.rds [0, 1, 2, 3, 4, 5, 6] .done) (by kernel_rfl) (by kernel_rfl) ?_
            repeat (first | (refine wpM_rdy rfl ?_ (fun K hK => ?_); exact wanted_plain rfl; go_simp; refine hK _ ?_; clear hK K) | (refine wpM_rdy rfl ?_ (fun K hK => ?_); exact wanted_yes rfl rfl rfl rfl; go_simp; refine hK _ ?_; clear hK K) | (refine wpM_rdn rfl ?_ (fun K hK => ?_); exact wanted_no rfl rfl rfl rfl; go_simp; refine hK _ ?_; clear hK K) | (refine wpM_rdn rfl ?_ (fun K hK => ?_); exact wanted_undef rfl rfl rfl rfl; go_simp; refine hK _ ?_; clear hK K))
            refine wpM_done ?_
            go_wp2
            go_ret
            have e : P.news p = 3 := by unfold P.news; rw [if_pos HR.out, hs]; simp [HV.out]
            exact ⟨ret_int e.symm, ⟨_, g.drew, rfl⟩⟩
        · go_wp2
          go_ret
          have e : P.news p = 1 := by unfold P.news; rw [if_pos HR.out, hs]; simp
          exact ⟨ret_int e.symm, ⟨_, g, rfl⟩⟩
    · have hb : (P.roleM p.msg == 2) = false := by simp [hr2]
      have HR := Lib.hid hr2
      clear hr2
      by_cases hr : P.roleM p.msg = 1 ∨ P.roleM p.msg = 3
      · rcases hr with hr | hr
        · have HR' := Lib.hid hr
          have hb1 : (P.roleM p.msg == 1) = true := by simp [hr]
          have hb3 : (P.roleM p.msg == 3) = false := by simp [hr]
          clear hr
          go_wp2_with fail
          refine wp_region_ord (Ord.rds [0, 1, 2, 3, 4] (.alt 5 (Ord.rds [6] .done) .stop)) (by kernel_rfl) (by kernel_rfl) ?_
          repeat (first | (refine wpM_rdy rfl ?_ (fun K hK => ?_); exact wanted_plain rfl; go_simp; refine hK _ ?_; clear hK K) | (refine wpM_rdy rfl ?_ (fun K hK => ?_); exact wanted_yes rfl rfl rfl rfl; go_simp; refine hK _ ?_; clear hK K) | (refine wpM_rdn rfl ?_ (fun K hK => ?_); exact wanted_no rfl rfl rfl rfl; go_simp; refine hK _ ?_; clear hK K) | (refine wpM_rdn rfl ?_ (fun K hK => ?_); exact wanted_undef rfl rfl rfl rfl; go_simp; refine hK _ ?_; clear hK K))
          refine wpM_efy rfl ?_ (fun K hK _ => ?_) ((Grow.refl _).drew) wpM_stop; (first | exact wanted_plain rfl | exact wanted_yes rfl rfl rfl rfl)
          go_simp
          refine (better_calls _ _ _).mono ?_
          rintro e w' ⟨rfl, h3⟩
          obtain ⟨w3, g3, rfl⟩ := h3.unput f1
          have hg : Grow (put w2 b o p.enc) (put w3 b o p.enc) := (Grow.refl _).drew.trans h3
          refine hK _ _ ⟨hg, ?_⟩; clear hK K
          cases hbt : P.better p.msg.vector p.vector
          all_goals
            repeat (first | (refine wpM_rdy rfl ?_ (fun K hK => ?_); exact wanted_plain rfl; go_simp; refine hK _ ?_; clear hK K) | (refine wpM_rdy rfl ?_ (fun K hK => ?_); exact wanted_yes rfl rfl rfl rfl; go_simp; refine hK _ ?_; clear hK K) | (refine wpM_rdn rfl ?_ (fun K hK => ?_); exact wanted_no rfl rfl rfl rfl; go_simp; refine hK _ ?_; clear hK K) | (refine wpM_rdn rfl ?_ (fun K hK => ?_); exact wanted_undef rfl rfl rfl rfl; go_simp; refine hK _ ?_; clear hK K))
            refine wpM_done ?_
            go_wp2
            go_ret
            refine ⟨?_, ⟨w3, g.trans ((Grow.refl _).drew.trans g3), rfl⟩⟩
            simp [P.news, HR'.out, hbt]
        · have HR' := Lib.hid hr
          have hb1 : (P.roleM p.msg == 1) = false := by simp [hr]
          have hb3 : (P.roleM p.msg == 3) = true := by simp [hr]
          clear hr
          go_wp2_with fail
          refine wp_region_ord (Ord.rds [0, 1, 2, 3, 4] (.alt 5 (Ord.rds [6] .done) .stop)) (by kernel_rfl) (by kernel_rfl) ?_
          repeat (first | (refine wpM_rdy rfl ?_ (fun K hK => ?_); exact wanted_plain rfl; go_simp; refine hK _ ?_; clear hK K) | (refine wpM_rdy rfl ?_ (fun K hK => ?_); exact wanted_yes rfl rfl rfl rfl; go_simp; refine hK _ ?_; clear hK K) | (refine wpM_rdn rfl ?_ (fun K hK => ?_); exact wanted_no rfl rfl rfl rfl; go_simp; refine hK _ ?_; clear hK K) | (refine wpM_rdn rfl ?_ (fun K hK => ?_); exact wanted_undef rfl rfl rfl rfl; go_simp; refine hK _ ?_; clear hK K))
          refine wpM_efy rfl ?_ (fun K hK _ => ?_) ((Grow.refl _).drew) wpM_stop; (first | exact wanted_plain rfl | exact wanted_yes rfl rfl rfl rfl)
          go_simp
          refine (better_calls _ _ _).mono ?_
          rintro e w' ⟨rfl, h3⟩
          obtain ⟨w3, g3, rfl⟩ := h3.unput f1
          have hg : Grow (put w2 b o p.enc) (put w3 b o p.enc) := (Grow.refl _).drew.trans h3
          refine hK _ _ ⟨hg, ?_⟩; clear hK K
          cases hbt : P.better p.msg.vector p.vector
          all_goals
            repeat (first | (refine wpM_rdy rfl ?_ (fun K hK => ?_); exact wanted_plain rfl; go_simp; refine hK _ ?_; clear hK K) | (refine wpM_rdy rfl ?_ (fun K hK => ?_); exact wanted_yes rfl rfl rfl rfl; go_simp; refine hK _ ?_; clear hK K) | (refine wpM_rdn rfl ?_ (fun K hK => ?_); exact wanted_no rfl rfl rfl rfl; go_simp; refine hK _ ?_; clear hK K) | (refine wpM_rdn rfl ?_ (fun K hK => ?_); exact wanted_undef rfl rfl rfl rfl; go_simp; refine hK _ ?_; clear hK K))
            refine wpM_done ?_
            go_wp2
            go_ret
            refine ⟨?_, ⟨w3, g.trans ((Grow.refl _).drew.trans g3), rfl⟩⟩
            simp [P.news, HR'.out, hbt]
      · have HR' := Lib.hid hr
        have hb1 : (P.roleM p.msg == 1) = false := by simp; omega
        have hb3 : (P.roleM p.msg == 3) = false := by simp; omega
        clear hr
        go_wp2
        go_ret
        have e : P.news p = 0 := by unfold P.news; rw [if_neg HR.out, if_neg HR'.out]
        exact ⟨ret_int e.symm, ⟨_, g, rfl⟩⟩
end Go.Proofs.Ytogekloaijidhaa
