/- DATA THAT CAME IN, by the program's structs: cells of a struct's kinds are a struct's. Printed by fits.py. -/
import Derived.Test.YtogekloaijidhaaData
import Derived.Test.YtogekloaijidhaaFlat
set_option maxRecDepth 100000
namespace Go.Proofs.Ytogekloaijidhaa
open Go Go.RowKit
theorem FitsL.uncons {sl : TypeId → Option Addr → Nat → Nat → Prop} {k : LK} {ks : List LK} {vs : List Value} (h : FitsL sl (k :: ks) vs) : ∃ v r, vs = v :: r ∧ k.fits sl v ∧ FitsL sl ks r := by
  cases vs with
  | nil => exact h.elim
  | cons v r => exact ⟨v, r, rfl, h.1, h.2⟩
theorem FitsL.unnil {sl : TypeId → Option Addr → Nat → Nat → Prop} {vs : List Value} (h : FitsL sl [] vs) : vs = [] := by
  cases vs with
  | nil => rfl
  | cons v r => exact h.elim
/-- the kinds of a Mac's cells -/
def Mac.kinds : List LK := [.i .u8, .i .u8, .i .u8, .i .u8, .i .u8, .i .u8]
theorem Mac.of_fits {sl : TypeId → Option Addr → Nat → Nat → Prop} {cs : List Value} (h : FitsL sl (Mac.kinds) cs) : ∃ p : Mac, cs = p.enc ∧ OkL p.enc := by
  have ok := h.ok
  unfold Mac.kinds at h
  obtain ⟨v0, r0, e0, ⟨x0, f0, -⟩, h0⟩ := FitsL.uncons h
  clear h
  obtain ⟨v1, r1, e1, ⟨x1, f1, -⟩, h1⟩ := FitsL.uncons h0
  clear h0
  obtain ⟨v2, r2, e2, ⟨x2, f2, -⟩, h2⟩ := FitsL.uncons h1
  clear h1
  obtain ⟨v3, r3, e3, ⟨x3, f3, -⟩, h3⟩ := FitsL.uncons h2
  clear h2
  obtain ⟨v4, r4, e4, ⟨x4, f4, -⟩, h4⟩ := FitsL.uncons h3
  clear h3
  obtain ⟨v5, r5, e5, ⟨x5, f5, -⟩, h5⟩ := FitsL.uncons h4
  clear h4
  have en := FitsL.unnil h5
  clear h5
  subst_vars
  exact ⟨{ b0 := x0, b1 := x1, b2 := x2, b3 := x3, b4 := x4, b5 := x5 }, rfl, ok⟩
/-- the kinds of a Vec's cells -/
def Vec.kinds : List LK := [.i .u64, .i .u32, .i .u64, .i .u16]
theorem Vec.of_fits {sl : TypeId → Option Addr → Nat → Nat → Prop} {cs : List Value} (h : FitsL sl (Vec.kinds) cs) : ∃ p : Vec, cs = p.enc ∧ OkL p.enc := by
  have ok := h.ok
  unfold Vec.kinds at h
  obtain ⟨v0, r0, e0, ⟨x0, f0, -⟩, h0⟩ := FitsL.uncons h
  clear h
  obtain ⟨v1, r1, e1, ⟨x1, f1, -⟩, h1⟩ := FitsL.uncons h0
  clear h0
  obtain ⟨v2, r2, e2, ⟨x2, f2, -⟩, h2⟩ := FitsL.uncons h1
  clear h1
  obtain ⟨v3, r3, e3, ⟨x3, f3, -⟩, h3⟩ := FitsL.uncons h2
  clear h2
  have en := FitsL.unnil h3
  clear h3
  subst_vars
  exact ⟨{ root := x0, cost := x1, bridge := x2, port := x3 }, rfl, ok⟩
/-- the kinds of a Tms's cells -/
def Tms.kinds : List LK := [.i .i64, .i .i64, .i .i64, .i .i64]
theorem Tms.of_fits {sl : TypeId → Option Addr → Nat → Nat → Prop} {cs : List Value} (h : FitsL sl (Tms.kinds) cs) : ∃ p : Tms, cs = p.enc ∧ OkL p.enc := by
  have ok := h.ok
  unfold Tms.kinds at h
  obtain ⟨v0, r0, e0, ⟨x0, f0, -⟩, h0⟩ := FitsL.uncons h
  clear h
  obtain ⟨v1, r1, e1, ⟨x1, f1, -⟩, h1⟩ := FitsL.uncons h0
  clear h0
  obtain ⟨v2, r2, e2, ⟨x2, f2, -⟩, h2⟩ := FitsL.uncons h1
  clear h1
  obtain ⟨v3, r3, e3, ⟨x3, f3, -⟩, h3⟩ := FitsL.uncons h2
  clear h2
  have en := FitsL.unnil h3
  clear h3
  subst_vars
  exact ⟨{ age := x0, max := x1, hello := x2, delay := x3 }, rfl, ok⟩
/-- the kinds of a Bpdu's cells -/
def Bpdu.kinds : List LK := [.i .i64, .i .u8, .i .u64, .i .u32, .i .u64, .i .u16, .i .u16, .i .u16, .i .u16, .i .u16]
theorem Bpdu.of_fits {sl : TypeId → Option Addr → Nat → Nat → Prop} {cs : List Value} (h : FitsL sl (Bpdu.kinds) cs) : ∃ p : Bpdu, cs = p.enc ∧ OkL p.enc := by
  have ok := h.ok
  unfold Bpdu.kinds at h
  obtain ⟨v0, r0, e0, ⟨x0, f0, -⟩, h0⟩ := FitsL.uncons h
  clear h
  obtain ⟨v1, r1, e1, ⟨x1, f1, -⟩, h1⟩ := FitsL.uncons h0
  clear h0
  obtain ⟨v2, r2, e2, ⟨x2, f2, -⟩, h2⟩ := FitsL.uncons h1
  clear h1
  obtain ⟨v3, r3, e3, ⟨x3, f3, -⟩, h3⟩ := FitsL.uncons h2
  clear h2
  obtain ⟨v4, r4, e4, ⟨x4, f4, -⟩, h4⟩ := FitsL.uncons h3
  clear h3
  obtain ⟨v5, r5, e5, ⟨x5, f5, -⟩, h5⟩ := FitsL.uncons h4
  clear h4
  obtain ⟨v6, r6, e6, ⟨x6, f6, -⟩, h6⟩ := FitsL.uncons h5
  clear h5
  obtain ⟨v7, r7, e7, ⟨x7, f7, -⟩, h7⟩ := FitsL.uncons h6
  clear h6
  obtain ⟨v8, r8, e8, ⟨x8, f8, -⟩, h8⟩ := FitsL.uncons h7
  clear h7
  obtain ⟨v9, r9, e9, ⟨x9, f9, -⟩, h9⟩ := FitsL.uncons h8
  clear h8
  have en := FitsL.unnil h9
  clear h9
  subst_vars
  exact ⟨{ kind := x0, flags := x1, vector := { root := x2, cost := x3, bridge := x4, port := x5 }, age := x6, max := x7, hello := x8, delay := x9 }, rfl, ok⟩
/-- the kinds of a Prt's cells -/
def Prt.kinds : List LK := [.i .u16, .i .u32, .b, .b, .b, .b, .i .i64, .i .i64, .i .i64, .i .i64, .i .i64, .i .i64, .i .i64, .i .i64, .i .i64, .b, .b, .b, .b, .b, .b, .b, .b, .b, .b, .b, .b, .b, .b, .b, .b, .b, .b, .b, .b, .b, .b, .b, .b, .b, .b, .b, .b, .b, .i .i64, .i .i64, .i .i64, .i .i64, .i .u64, .i .u32, .i .u64, .i .u16, .i .u64, .i .u32, .i .u64, .i .u16, .i .u64, .i .u32, .i .u64, .i .u16, .i .i64, .i .i64, .i .i64, .i .i64, .i .i64, .i .i64, .i .i64, .i .i64, .i .i64, .i .i64, .i .i64, .i .i64, .i .i64, .i .u8, .i .u64, .i .u32, .i .u64, .i .u16, .i .u16, .i .u16, .i .u16, .i .u16, .i .i64, .i .i64, .i .i64, .i .i64, .i .i64, .i .i64, .i .i64, .i .i64]
theorem Prt.of_fits {sl : TypeId → Option Addr → Nat → Nat → Prop} {cs : List Value} (h : FitsL sl (Prt.kinds) cs) : ∃ p : Prt, cs = p.enc ∧ OkL p.enc := by
  have ok := h.ok
  unfold Prt.kinds at h
  obtain ⟨v0, r0, e0, ⟨x0, f0, -⟩, h0⟩ := FitsL.uncons h
  clear h
  obtain ⟨v1, r1, e1, ⟨x1, f1, -⟩, h1⟩ := FitsL.uncons h0
  clear h0
  obtain ⟨v2, r2, e2, ⟨x2, f2⟩, h2⟩ := FitsL.uncons h1
  clear h1
  obtain ⟨v3, r3, e3, ⟨x3, f3⟩, h3⟩ := FitsL.uncons h2
  clear h2
  obtain ⟨v4, r4, e4, ⟨x4, f4⟩, h4⟩ := FitsL.uncons h3
  clear h3
  obtain ⟨v5, r5, e5, ⟨x5, f5⟩, h5⟩ := FitsL.uncons h4
  clear h4
  obtain ⟨v6, r6, e6, ⟨x6, f6, -⟩, h6⟩ := FitsL.uncons h5
  clear h5
  obtain ⟨v7, r7, e7, ⟨x7, f7, -⟩, h7⟩ := FitsL.uncons h6
  clear h6
  obtain ⟨v8, r8, e8, ⟨x8, f8, -⟩, h8⟩ := FitsL.uncons h7
  clear h7
  obtain ⟨v9, r9, e9, ⟨x9, f9, -⟩, h9⟩ := FitsL.uncons h8
  clear h8
  obtain ⟨v10, r10, e10, ⟨x10, f10, -⟩, h10⟩ := FitsL.uncons h9
  clear h9
  obtain ⟨v11, r11, e11, ⟨x11, f11, -⟩, h11⟩ := FitsL.uncons h10
  clear h10
  obtain ⟨v12, r12, e12, ⟨x12, f12, -⟩, h12⟩ := FitsL.uncons h11
  clear h11
  obtain ⟨v13, r13, e13, ⟨x13, f13, -⟩, h13⟩ := FitsL.uncons h12
  clear h12
  obtain ⟨v14, r14, e14, ⟨x14, f14, -⟩, h14⟩ := FitsL.uncons h13
  clear h13
  obtain ⟨v15, r15, e15, ⟨x15, f15⟩, h15⟩ := FitsL.uncons h14
  clear h14
  obtain ⟨v16, r16, e16, ⟨x16, f16⟩, h16⟩ := FitsL.uncons h15
  clear h15
  obtain ⟨v17, r17, e17, ⟨x17, f17⟩, h17⟩ := FitsL.uncons h16
  clear h16
  obtain ⟨v18, r18, e18, ⟨x18, f18⟩, h18⟩ := FitsL.uncons h17
  clear h17
  obtain ⟨v19, r19, e19, ⟨x19, f19⟩, h19⟩ := FitsL.uncons h18
  clear h18
  obtain ⟨v20, r20, e20, ⟨x20, f20⟩, h20⟩ := FitsL.uncons h19
  clear h19
  obtain ⟨v21, r21, e21, ⟨x21, f21⟩, h21⟩ := FitsL.uncons h20
  clear h20
  obtain ⟨v22, r22, e22, ⟨x22, f22⟩, h22⟩ := FitsL.uncons h21
  clear h21
  obtain ⟨v23, r23, e23, ⟨x23, f23⟩, h23⟩ := FitsL.uncons h22
  clear h22
  obtain ⟨v24, r24, e24, ⟨x24, f24⟩, h24⟩ := FitsL.uncons h23
  clear h23
  obtain ⟨v25, r25, e25, ⟨x25, f25⟩, h25⟩ := FitsL.uncons h24
  clear h24
  obtain ⟨v26, r26, e26, ⟨x26, f26⟩, h26⟩ := FitsL.uncons h25
  clear h25
  obtain ⟨v27, r27, e27, ⟨x27, f27⟩, h27⟩ := FitsL.uncons h26
  clear h26
  obtain ⟨v28, r28, e28, ⟨x28, f28⟩, h28⟩ := FitsL.uncons h27
  clear h27
  obtain ⟨v29, r29, e29, ⟨x29, f29⟩, h29⟩ := FitsL.uncons h28
  clear h28
  obtain ⟨v30, r30, e30, ⟨x30, f30⟩, h30⟩ := FitsL.uncons h29
  clear h29
  obtain ⟨v31, r31, e31, ⟨x31, f31⟩, h31⟩ := FitsL.uncons h30
  clear h30
  obtain ⟨v32, r32, e32, ⟨x32, f32⟩, h32⟩ := FitsL.uncons h31
  clear h31
  obtain ⟨v33, r33, e33, ⟨x33, f33⟩, h33⟩ := FitsL.uncons h32
  clear h32
  obtain ⟨v34, r34, e34, ⟨x34, f34⟩, h34⟩ := FitsL.uncons h33
  clear h33
  obtain ⟨v35, r35, e35, ⟨x35, f35⟩, h35⟩ := FitsL.uncons h34
  clear h34
  obtain ⟨v36, r36, e36, ⟨x36, f36⟩, h36⟩ := FitsL.uncons h35
  clear h35
  obtain ⟨v37, r37, e37, ⟨x37, f37⟩, h37⟩ := FitsL.uncons h36
  clear h36
  obtain ⟨v38, r38, e38, ⟨x38, f38⟩, h38⟩ := FitsL.uncons h37
  clear h37
  obtain ⟨v39, r39, e39, ⟨x39, f39⟩, h39⟩ := FitsL.uncons h38
  clear h38
  obtain ⟨v40, r40, e40, ⟨x40, f40⟩, h40⟩ := FitsL.uncons h39
  clear h39
  obtain ⟨v41, r41, e41, ⟨x41, f41⟩, h41⟩ := FitsL.uncons h40
  clear h40
  obtain ⟨v42, r42, e42, ⟨x42, f42⟩, h42⟩ := FitsL.uncons h41
  clear h41
  obtain ⟨v43, r43, e43, ⟨x43, f43⟩, h43⟩ := FitsL.uncons h42
  clear h42
  obtain ⟨v44, r44, e44, ⟨x44, f44, -⟩, h44⟩ := FitsL.uncons h43
  clear h43
  obtain ⟨v45, r45, e45, ⟨x45, f45, -⟩, h45⟩ := FitsL.uncons h44
  clear h44
  obtain ⟨v46, r46, e46, ⟨x46, f46, -⟩, h46⟩ := FitsL.uncons h45
  clear h45
  obtain ⟨v47, r47, e47, ⟨x47, f47, -⟩, h47⟩ := FitsL.uncons h46
  clear h46
  obtain ⟨v48, r48, e48, ⟨x48, f48, -⟩, h48⟩ := FitsL.uncons h47
  clear h47
  obtain ⟨v49, r49, e49, ⟨x49, f49, -⟩, h49⟩ := FitsL.uncons h48
  clear h48
  obtain ⟨v50, r50, e50, ⟨x50, f50, -⟩, h50⟩ := FitsL.uncons h49
  clear h49
  obtain ⟨v51, r51, e51, ⟨x51, f51, -⟩, h51⟩ := FitsL.uncons h50
  clear h50
  obtain ⟨v52, r52, e52, ⟨x52, f52, -⟩, h52⟩ := FitsL.uncons h51
  clear h51
  obtain ⟨v53, r53, e53, ⟨x53, f53, -⟩, h53⟩ := FitsL.uncons h52
  clear h52
  obtain ⟨v54, r54, e54, ⟨x54, f54, -⟩, h54⟩ := FitsL.uncons h53
  clear h53
  obtain ⟨v55, r55, e55, ⟨x55, f55, -⟩, h55⟩ := FitsL.uncons h54
  clear h54
  obtain ⟨v56, r56, e56, ⟨x56, f56, -⟩, h56⟩ := FitsL.uncons h55
  clear h55
  obtain ⟨v57, r57, e57, ⟨x57, f57, -⟩, h57⟩ := FitsL.uncons h56
  clear h56
  obtain ⟨v58, r58, e58, ⟨x58, f58, -⟩, h58⟩ := FitsL.uncons h57
  clear h57
  obtain ⟨v59, r59, e59, ⟨x59, f59, -⟩, h59⟩ := FitsL.uncons h58
  clear h58
  obtain ⟨v60, r60, e60, ⟨x60, f60, -⟩, h60⟩ := FitsL.uncons h59
  clear h59
  obtain ⟨v61, r61, e61, ⟨x61, f61, -⟩, h61⟩ := FitsL.uncons h60
  clear h60
  obtain ⟨v62, r62, e62, ⟨x62, f62, -⟩, h62⟩ := FitsL.uncons h61
  clear h61
  obtain ⟨v63, r63, e63, ⟨x63, f63, -⟩, h63⟩ := FitsL.uncons h62
  clear h62
  obtain ⟨v64, r64, e64, ⟨x64, f64, -⟩, h64⟩ := FitsL.uncons h63
  clear h63
  obtain ⟨v65, r65, e65, ⟨x65, f65, -⟩, h65⟩ := FitsL.uncons h64
  clear h64
  obtain ⟨v66, r66, e66, ⟨x66, f66, -⟩, h66⟩ := FitsL.uncons h65
  clear h65
  obtain ⟨v67, r67, e67, ⟨x67, f67, -⟩, h67⟩ := FitsL.uncons h66
  clear h66
  obtain ⟨v68, r68, e68, ⟨x68, f68, -⟩, h68⟩ := FitsL.uncons h67
  clear h67
  obtain ⟨v69, r69, e69, ⟨x69, f69, -⟩, h69⟩ := FitsL.uncons h68
  clear h68
  obtain ⟨v70, r70, e70, ⟨x70, f70, -⟩, h70⟩ := FitsL.uncons h69
  clear h69
  obtain ⟨v71, r71, e71, ⟨x71, f71, -⟩, h71⟩ := FitsL.uncons h70
  clear h70
  obtain ⟨v72, r72, e72, ⟨x72, f72, -⟩, h72⟩ := FitsL.uncons h71
  clear h71
  obtain ⟨v73, r73, e73, ⟨x73, f73, -⟩, h73⟩ := FitsL.uncons h72
  clear h72
  obtain ⟨v74, r74, e74, ⟨x74, f74, -⟩, h74⟩ := FitsL.uncons h73
  clear h73
  obtain ⟨v75, r75, e75, ⟨x75, f75, -⟩, h75⟩ := FitsL.uncons h74
  clear h74
  obtain ⟨v76, r76, e76, ⟨x76, f76, -⟩, h76⟩ := FitsL.uncons h75
  clear h75
  obtain ⟨v77, r77, e77, ⟨x77, f77, -⟩, h77⟩ := FitsL.uncons h76
  clear h76
  obtain ⟨v78, r78, e78, ⟨x78, f78, -⟩, h78⟩ := FitsL.uncons h77
  clear h77
  obtain ⟨v79, r79, e79, ⟨x79, f79, -⟩, h79⟩ := FitsL.uncons h78
  clear h78
  obtain ⟨v80, r80, e80, ⟨x80, f80, -⟩, h80⟩ := FitsL.uncons h79
  clear h79
  obtain ⟨v81, r81, e81, ⟨x81, f81, -⟩, h81⟩ := FitsL.uncons h80
  clear h80
  obtain ⟨v82, r82, e82, ⟨x82, f82, -⟩, h82⟩ := FitsL.uncons h81
  clear h81
  obtain ⟨v83, r83, e83, ⟨x83, f83, -⟩, h83⟩ := FitsL.uncons h82
  clear h82
  obtain ⟨v84, r84, e84, ⟨x84, f84, -⟩, h84⟩ := FitsL.uncons h83
  clear h83
  obtain ⟨v85, r85, e85, ⟨x85, f85, -⟩, h85⟩ := FitsL.uncons h84
  clear h84
  obtain ⟨v86, r86, e86, ⟨x86, f86, -⟩, h86⟩ := FitsL.uncons h85
  clear h85
  obtain ⟨v87, r87, e87, ⟨x87, f87, -⟩, h87⟩ := FitsL.uncons h86
  clear h86
  obtain ⟨v88, r88, e88, ⟨x88, f88, -⟩, h88⟩ := FitsL.uncons h87
  clear h87
  obtain ⟨v89, r89, e89, ⟨x89, f89, -⟩, h89⟩ := FitsL.uncons h88
  clear h88
  have en := FitsL.unnil h89
  clear h89
  subst_vars
  exact ⟨{ id := x0, cost := x1, enabled := x2, adminEdge := x3, autoEdge := x4, pointToPoint := x5, edgeDelayWhile := x6, fdWhile := x7, helloWhen := x8, mdelayWhile := x9, rbWhile := x10, rcvdInfoWhile := x11, rrWhile := x12, tcWhile := x13, txCount := x14, agree := x15, agreed := x16, disputed := x17, fdbFlush := x18, forward := x19, forwarding := x20, learn := x21, learning := x22, mcheck := x23, newInfo := x24, operEdge := x25, proposed := x26, proposing := x27, reRoot := x28, reselect := x29, rcvdBPDU := x30, rcvdMsg := x31, rcvdRSTP := x32, rcvdSTP := x33, rcvdTc := x34, rcvdTcAck := x35, rcvdTcn := x36, tcAck := x37, tcProp := x38, selected := x39, sendRSTP := x40, sync := x41, synced := x42, updtInfo := x43, infoIs := x44, rcvdInfo := x45, role := x46, selectedRole := x47, designatedVector := { root := x48, cost := x49, bridge := x50, port := x51 }, msgVector := { root := x52, cost := x53, bridge := x54, port := x55 }, vector := { root := x56, cost := x57, bridge := x58, port := x59 }, designatedTimes := { age := x60, max := x61, hello := x62, delay := x63 }, msgTimes := { age := x64, max := x65, hello := x66, delay := x67 }, portTimes := { age := x68, max := x69, hello := x70, delay := x71 }, msg := { kind := x72, flags := x73, vector := { root := x74, cost := x75, bridge := x76, port := x77 }, age := x78, max := x79, hello := x80, delay := x81 }, prx := x82, ppm := x83, bdm := x84, ptx := x85, pim := x86, prt := x87, pst := x88, tcm := x89 }, rfl, ok⟩
/-- the kinds of a Brg's cells -/
def Brg.kinds (e : TypeId) : List LK := [.i .u64, .i .i64, .i .i64, .i .i64, .i .i64, .i .i64, .b, .i .u64, .i .u32, .i .u64, .i .u16, .i .u16, .i .i64, .i .i64, .i .i64, .i .i64, .i .i64, .sl e]
theorem Brg.of_fits {sl : TypeId → Option Addr → Nat → Nat → Prop} {e : TypeId} {cs : List Value} (h : FitsL sl (Brg.kinds e) cs) : ∃ p : Brg, cs = p.enc ∧ OkL p.enc ∧ sl e p.ports.a p.ports.n p.ports.c := by
  have ok := h.ok
  unfold Brg.kinds at h
  obtain ⟨v0, r0, e0, ⟨x0, f0, -⟩, h0⟩ := FitsL.uncons h
  clear h
  obtain ⟨v1, r1, e1, ⟨x1, f1, -⟩, h1⟩ := FitsL.uncons h0
  clear h0
  obtain ⟨v2, r2, e2, ⟨x2, f2, -⟩, h2⟩ := FitsL.uncons h1
  clear h1
  obtain ⟨v3, r3, e3, ⟨x3, f3, -⟩, h3⟩ := FitsL.uncons h2
  clear h2
  obtain ⟨v4, r4, e4, ⟨x4, f4, -⟩, h4⟩ := FitsL.uncons h3
  clear h3
  obtain ⟨v5, r5, e5, ⟨x5, f5, -⟩, h5⟩ := FitsL.uncons h4
  clear h4
  obtain ⟨v6, r6, e6, ⟨x6, f6⟩, h6⟩ := FitsL.uncons h5
  clear h5
  obtain ⟨v7, r7, e7, ⟨x7, f7, -⟩, h7⟩ := FitsL.uncons h6
  clear h6
  obtain ⟨v8, r8, e8, ⟨x8, f8, -⟩, h8⟩ := FitsL.uncons h7
  clear h7
  obtain ⟨v9, r9, e9, ⟨x9, f9, -⟩, h9⟩ := FitsL.uncons h8
  clear h8
  obtain ⟨v10, r10, e10, ⟨x10, f10, -⟩, h10⟩ := FitsL.uncons h9
  clear h9
  obtain ⟨v11, r11, e11, ⟨x11, f11, -⟩, h11⟩ := FitsL.uncons h10
  clear h10
  obtain ⟨v12, r12, e12, ⟨x12, f12, -⟩, h12⟩ := FitsL.uncons h11
  clear h11
  obtain ⟨v13, r13, e13, ⟨x13, f13, -⟩, h13⟩ := FitsL.uncons h12
  clear h12
  obtain ⟨v14, r14, e14, ⟨x14, f14, -⟩, h14⟩ := FitsL.uncons h13
  clear h13
  obtain ⟨v15, r15, e15, ⟨x15, f15, -⟩, h15⟩ := FitsL.uncons h14
  clear h14
  obtain ⟨v16, r16, e16, ⟨x16, f16, -⟩, h16⟩ := FitsL.uncons h15
  clear h15
  obtain ⟨v17, r17, e17, ⟨x17, n17, c17, f17, s17⟩, h17⟩ := FitsL.uncons h16
  clear h16
  have en := FitsL.unnil h17
  clear h17
  subst_vars
  exact ⟨{ id := x0, times := { age := x1, max := x2, hello := x3, delay := x4 }, txHold := x5, rstp := x6, root := { root := x7, cost := x8, bridge := x9, port := x10 }, rootPort := x11, rootTimes := { age := x12, max := x13, hello := x14, delay := x15 }, prs := x16, ports := ⟨x17, n17, c17⟩ }, rfl, ok, s17⟩
end Go.Proofs.Ytogekloaijidhaa
