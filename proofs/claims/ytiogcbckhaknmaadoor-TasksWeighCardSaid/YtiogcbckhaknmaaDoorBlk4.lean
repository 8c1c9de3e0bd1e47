/-
  The reference's Shape: of any name; the program's at a name that is none. No conditions.
-/
import Derived.Test.YtiogcbckhaknmaaDoorBlk3
namespace Go.Proofs.YtiogcbckhaknmaaDoor.Blk
open Go.RowKit Go.Proofs.YtiogcbckhaknmaaDoor.W Go.Proofs.YtiogcbckhaknmaaDoor.Ints

/-- a list of pins that reads, in a block of its own -/
abbrev pinB (g : Nat) (l : List PN) : Box := ⟨g, 89, (pinV l).toArray⟩
theorem pin_any (s : ByteArray) (k : Int) (w : World) : Calls Tryd.prog 42 #[.string s, .int .i64 k] w fun e w' => e = .returned (.agg #[.string s, .int .i64 k]) ∧ w' = w.alloc (.cells #[.string s, .int .i64 k] 89) := by
  go_enter Tryd.func42, Tryd.ntmps42
  go_wp2
  refine bodyPost_ret (v := .agg #[.string s, .int .i64 k]) ?_ rfl ?_
  · simp [results, Tryd.results42, go_sem]
  · exact ⟨rfl, rfl⟩
def RefShape (b : BT) (w : World) : Prop := Calls Tryd.prog 34 #[.string b.nm] w fun e w' => ∃ g1 g2 g3 Ks, e = .returned (.tuple #[.agg #[.slice (some ⟨g1, 0, none⟩) (pinsL b.ins).length (pinsL b.ins).length, .slice (some ⟨g2, 0, none⟩) (pinsL b.outs).length (pinsL b.outs).length, .slice (some ⟨g3, 0, none⟩) (pinsL b.st).length (pinsL b.st).length], .bool true]) ∧
  Mem w w' (pinB g1 (pinsL b.ins) :: pinB g2 (pinsL b.outs) :: pinB g3 (pinsL b.st) :: Ks) []

set_option maxRecDepth 100000 in
set_option maxHeartbeats 3200000 in
theorem ref_ton (w : World) : RefShape b_ton w := by
  unfold RefShape
  have e1 : pinV (pinsL b_ton.ins) = [.string ⟨#[105, 110]⟩, .int .i64 1, .string ⟨#[112, 116]⟩, .int .i64 5] := by kernel_rfl
  have e2 : pinV (pinsL b_ton.outs) = [.string ⟨#[113]⟩, .int .i64 1, .string ⟨#[101, 116]⟩, .int .i64 5] := by kernel_rfl
  have e3 : pinV (pinsL b_ton.st) = [.string ⟨#[114, 117, 110]⟩, .int .i64 1, .string ⟨#[115, 105, 110, 99, 101]⟩, .int .i64 5, .string ⟨#[100, 111, 110, 101]⟩, .int .i64 1, .string ⟨#[97, 116]⟩, .int .i64 5] := by kernel_rfl
  have n1 : (pinsL b_ton.ins).length = 2 := by kernel_rfl
  have n2 : (pinsL b_ton.outs).length = 2 := by kernel_rfl
  have n3 : (pinsL b_ton.st).length = 4 := by kernel_rfl
  simp only [pinB]
  rw [e1, e2, e3, n1, n2, n3]
  show Calls Tryd.prog 34 #[.string ⟨#[116, 111, 110]⟩] w _
  clear e1 e2 e3 n1 n2 n3
  have h0 : ((⟨#[116, 111, 110]⟩ : ByteArray).toList == [116, 111, 110]) = true := str_eq rfl
  have h1 : ((⟨#[116, 111, 110]⟩ : ByteArray).toList == [116, 111, 102]) = false := str_ne (by decide)
  have h2 : ((⟨#[116, 111, 110]⟩ : ByteArray).toList == [116, 112]) = false := str_ne (by decide)
  have h3 : ((⟨#[116, 111, 110]⟩ : ByteArray).toList == [99, 116, 117]) = false := str_ne (by decide)
  have h4 : ((⟨#[116, 111, 110]⟩ : ByteArray).toList == [99, 116, 100]) = false := str_ne (by decide)
  have h5 : ((⟨#[116, 111, 110]⟩ : ByteArray).toList == [99, 116, 117, 100]) = false := str_ne (by decide)
  have h6 : ((⟨#[116, 111, 110]⟩ : ByteArray).toList == [114, 95, 116, 114, 105, 103]) = false := str_ne (by decide)
  have h7 : ((⟨#[116, 111, 110]⟩ : ByteArray).toList == [102, 95, 116, 114, 105, 103]) = false := str_ne (by decide)
  have h8 : ((⟨#[116, 111, 110]⟩ : ByteArray).toList == [115, 114]) = false := str_ne (by decide)
  have h9 : ((⟨#[116, 111, 110]⟩ : ByteArray).toList == [114, 115]) = false := str_ne (by decide)
  have h10 : ((⟨#[116, 111, 110]⟩ : ByteArray).toList == [114, 97, 109, 112]) = false := str_ne (by decide)
  have h11 : ((⟨#[116, 111, 110]⟩ : ByteArray).toList == [104, 121, 115, 116]) = false := str_ne (by decide)
  go_enter Tryd.func34, Tryd.ntmps34
  go_wp2_with (go_at_call 42; refine (pin_any _ _ _).mono ?_; rintro e w1 ⟨rfl, rfl⟩; dsimp only)
  refine bodyPost_ret (v := .tuple #[.agg #[.slice (some ⟨w.heap.size + 1 + 1 + 1 + 1, 0, none⟩) 2 2, .slice (some ⟨w.heap.size + 1 + 1 + 1 + 1 + 1 + 1 + 1, 0, none⟩) 2 2, .slice (some ⟨w.heap.size + 1 + 1 + 1 + 1 + 1 + 1 + 1 + 1 + 1 + 1 + 1 + 1, 0, none⟩) 4 4], .bool true]) ?_ rfl ?_
  · simp [results, Tryd.results34, go_sem]
  · have M := ((((((((((((((Mem.start w).alloc 78 #[.slice (some ⟨w.heap.size + 1 + 1 + 1 + 1, 0, none⟩) 2 2, .slice (some ⟨w.heap.size + 1 + 1 + 1 + 1 + 1 + 1 + 1, 0, none⟩) 2 2, .slice (some ⟨w.heap.size + 1 + 1 + 1 + 1 + 1 + 1 + 1 + 1 + 1 + 1 + 1 + 1, 0, none⟩) 4 4]).alloc 78 #[.slice (some ⟨w.heap.size + 1 + 1 + 1 + 1, 0, none⟩) 2 2, .slice (some ⟨w.heap.size + 1 + 1 + 1 + 1 + 1 + 1 + 1, 0, none⟩) 2 2, .slice (some ⟨w.heap.size + 1 + 1 + 1 + 1 + 1 + 1 + 1 + 1 + 1 + 1 + 1 + 1, 0, none⟩) 4 4]).alloc 89 #[.string ⟨#[105, 110]⟩, .int .i64 1]).alloc 89 #[.string ⟨#[112, 116]⟩, .int .i64 5]).alloc 89 #[.string ⟨#[105, 110]⟩, .int .i64 1, .string ⟨#[112, 116]⟩, .int .i64 5]).alloc 89 #[.string ⟨#[113]⟩, .int .i64 1]).alloc 89 #[.string ⟨#[101, 116]⟩, .int .i64 5]).alloc 89 #[.string ⟨#[113]⟩, .int .i64 1, .string ⟨#[101, 116]⟩, .int .i64 5]).alloc 89 #[.string ⟨#[114, 117, 110]⟩, .int .i64 1]).alloc 89 #[.string ⟨#[115, 105, 110, 99, 101]⟩, .int .i64 5]).alloc 89 #[.string ⟨#[100, 111, 110, 101]⟩, .int .i64 1]).alloc 89 #[.string ⟨#[97, 116]⟩, .int .i64 5]).alloc 89 #[.string ⟨#[114, 117, 110]⟩, .int .i64 1, .string ⟨#[115, 105, 110, 99, 101]⟩, .int .i64 5, .string ⟨#[100, 111, 110, 101]⟩, .int .i64 1, .string ⟨#[97, 116]⟩, .int .i64 5])
    simp only [World.size_alloc] at M
    exact ⟨_, _, _, _, rfl, ((M.upK 0 rfl).upK 5 rfl).upK 8 rfl⟩

set_option maxRecDepth 100000 in
set_option maxHeartbeats 3200000 in
theorem ref_tof (w : World) : RefShape b_tof w := by
  unfold RefShape
  have e1 : pinV (pinsL b_tof.ins) = [.string ⟨#[105, 110]⟩, .int .i64 1, .string ⟨#[112, 116]⟩, .int .i64 5] := by kernel_rfl
  have e2 : pinV (pinsL b_tof.outs) = [.string ⟨#[113]⟩, .int .i64 1, .string ⟨#[101, 116]⟩, .int .i64 5] := by kernel_rfl
  have e3 : pinV (pinsL b_tof.st) = [.string ⟨#[114, 117, 110]⟩, .int .i64 1, .string ⟨#[115, 105, 110, 99, 101]⟩, .int .i64 5, .string ⟨#[111, 110]⟩, .int .i64 1, .string ⟨#[97, 116]⟩, .int .i64 5] := by kernel_rfl
  have n1 : (pinsL b_tof.ins).length = 2 := by kernel_rfl
  have n2 : (pinsL b_tof.outs).length = 2 := by kernel_rfl
  have n3 : (pinsL b_tof.st).length = 4 := by kernel_rfl
  simp only [pinB]
  rw [e1, e2, e3, n1, n2, n3]
  show Calls Tryd.prog 34 #[.string ⟨#[116, 111, 102]⟩] w _
  clear e1 e2 e3 n1 n2 n3
  have h0 : ((⟨#[116, 111, 102]⟩ : ByteArray).toList == [116, 111, 110]) = false := str_ne (by decide)
  have h1 : ((⟨#[116, 111, 102]⟩ : ByteArray).toList == [116, 111, 102]) = true := str_eq rfl
  have h2 : ((⟨#[116, 111, 102]⟩ : ByteArray).toList == [116, 112]) = false := str_ne (by decide)
  have h3 : ((⟨#[116, 111, 102]⟩ : ByteArray).toList == [99, 116, 117]) = false := str_ne (by decide)
  have h4 : ((⟨#[116, 111, 102]⟩ : ByteArray).toList == [99, 116, 100]) = false := str_ne (by decide)
  have h5 : ((⟨#[116, 111, 102]⟩ : ByteArray).toList == [99, 116, 117, 100]) = false := str_ne (by decide)
  have h6 : ((⟨#[116, 111, 102]⟩ : ByteArray).toList == [114, 95, 116, 114, 105, 103]) = false := str_ne (by decide)
  have h7 : ((⟨#[116, 111, 102]⟩ : ByteArray).toList == [102, 95, 116, 114, 105, 103]) = false := str_ne (by decide)
  have h8 : ((⟨#[116, 111, 102]⟩ : ByteArray).toList == [115, 114]) = false := str_ne (by decide)
  have h9 : ((⟨#[116, 111, 102]⟩ : ByteArray).toList == [114, 115]) = false := str_ne (by decide)
  have h10 : ((⟨#[116, 111, 102]⟩ : ByteArray).toList == [114, 97, 109, 112]) = false := str_ne (by decide)
  have h11 : ((⟨#[116, 111, 102]⟩ : ByteArray).toList == [104, 121, 115, 116]) = false := str_ne (by decide)
  go_enter Tryd.func34, Tryd.ntmps34
  go_wp2_with (go_at_call 42; refine (pin_any _ _ _).mono ?_; rintro e w1 ⟨rfl, rfl⟩; dsimp only)
  refine bodyPost_ret (v := .tuple #[.agg #[.slice (some ⟨w.heap.size + 1 + 1 + 1 + 1, 0, none⟩) 2 2, .slice (some ⟨w.heap.size + 1 + 1 + 1 + 1 + 1 + 1 + 1, 0, none⟩) 2 2, .slice (some ⟨w.heap.size + 1 + 1 + 1 + 1 + 1 + 1 + 1 + 1 + 1 + 1 + 1 + 1, 0, none⟩) 4 4], .bool true]) ?_ rfl ?_
  · simp [results, Tryd.results34, go_sem]
  · have M := ((((((((((((((Mem.start w).alloc 78 #[.slice (some ⟨w.heap.size + 1 + 1 + 1 + 1, 0, none⟩) 2 2, .slice (some ⟨w.heap.size + 1 + 1 + 1 + 1 + 1 + 1 + 1, 0, none⟩) 2 2, .slice (some ⟨w.heap.size + 1 + 1 + 1 + 1 + 1 + 1 + 1 + 1 + 1 + 1 + 1 + 1, 0, none⟩) 4 4]).alloc 78 #[.slice (some ⟨w.heap.size + 1 + 1 + 1 + 1, 0, none⟩) 2 2, .slice (some ⟨w.heap.size + 1 + 1 + 1 + 1 + 1 + 1 + 1, 0, none⟩) 2 2, .slice (some ⟨w.heap.size + 1 + 1 + 1 + 1 + 1 + 1 + 1 + 1 + 1 + 1 + 1 + 1, 0, none⟩) 4 4]).alloc 89 #[.string ⟨#[105, 110]⟩, .int .i64 1]).alloc 89 #[.string ⟨#[112, 116]⟩, .int .i64 5]).alloc 89 #[.string ⟨#[105, 110]⟩, .int .i64 1, .string ⟨#[112, 116]⟩, .int .i64 5]).alloc 89 #[.string ⟨#[113]⟩, .int .i64 1]).alloc 89 #[.string ⟨#[101, 116]⟩, .int .i64 5]).alloc 89 #[.string ⟨#[113]⟩, .int .i64 1, .string ⟨#[101, 116]⟩, .int .i64 5]).alloc 89 #[.string ⟨#[114, 117, 110]⟩, .int .i64 1]).alloc 89 #[.string ⟨#[115, 105, 110, 99, 101]⟩, .int .i64 5]).alloc 89 #[.string ⟨#[111, 110]⟩, .int .i64 1]).alloc 89 #[.string ⟨#[97, 116]⟩, .int .i64 5]).alloc 89 #[.string ⟨#[114, 117, 110]⟩, .int .i64 1, .string ⟨#[115, 105, 110, 99, 101]⟩, .int .i64 5, .string ⟨#[111, 110]⟩, .int .i64 1, .string ⟨#[97, 116]⟩, .int .i64 5])
    simp only [World.size_alloc] at M
    exact ⟨_, _, _, _, rfl, ((M.upK 0 rfl).upK 5 rfl).upK 8 rfl⟩

set_option maxRecDepth 100000 in
set_option maxHeartbeats 3200000 in
theorem ref_tp (w : World) : RefShape b_tp w := by
  unfold RefShape
  have e1 : pinV (pinsL b_tp.ins) = [.string ⟨#[105, 110]⟩, .int .i64 1, .string ⟨#[112, 116]⟩, .int .i64 5] := by kernel_rfl
  have e2 : pinV (pinsL b_tp.outs) = [.string ⟨#[113]⟩, .int .i64 1, .string ⟨#[101, 116]⟩, .int .i64 5] := by kernel_rfl
  have e3 : pinV (pinsL b_tp.st) = [.string ⟨#[114, 117, 110]⟩, .int .i64 1, .string ⟨#[115, 105, 110, 99, 101]⟩, .int .i64 5, .string ⟨#[112, 114, 101, 118]⟩, .int .i64 1, .string ⟨#[97, 116]⟩, .int .i64 5] := by kernel_rfl
  have n1 : (pinsL b_tp.ins).length = 2 := by kernel_rfl
  have n2 : (pinsL b_tp.outs).length = 2 := by kernel_rfl
  have n3 : (pinsL b_tp.st).length = 4 := by kernel_rfl
  simp only [pinB]
  rw [e1, e2, e3, n1, n2, n3]
  show Calls Tryd.prog 34 #[.string ⟨#[116, 112]⟩] w _
  clear e1 e2 e3 n1 n2 n3
  have h0 : ((⟨#[116, 112]⟩ : ByteArray).toList == [116, 111, 110]) = false := str_ne (by decide)
  have h1 : ((⟨#[116, 112]⟩ : ByteArray).toList == [116, 111, 102]) = false := str_ne (by decide)
  have h2 : ((⟨#[116, 112]⟩ : ByteArray).toList == [116, 112]) = true := str_eq rfl
  have h3 : ((⟨#[116, 112]⟩ : ByteArray).toList == [99, 116, 117]) = false := str_ne (by decide)
  have h4 : ((⟨#[116, 112]⟩ : ByteArray).toList == [99, 116, 100]) = false := str_ne (by decide)
  have h5 : ((⟨#[116, 112]⟩ : ByteArray).toList == [99, 116, 117, 100]) = false := str_ne (by decide)
  have h6 : ((⟨#[116, 112]⟩ : ByteArray).toList == [114, 95, 116, 114, 105, 103]) = false := str_ne (by decide)
  have h7 : ((⟨#[116, 112]⟩ : ByteArray).toList == [102, 95, 116, 114, 105, 103]) = false := str_ne (by decide)
  have h8 : ((⟨#[116, 112]⟩ : ByteArray).toList == [115, 114]) = false := str_ne (by decide)
  have h9 : ((⟨#[116, 112]⟩ : ByteArray).toList == [114, 115]) = false := str_ne (by decide)
  have h10 : ((⟨#[116, 112]⟩ : ByteArray).toList == [114, 97, 109, 112]) = false := str_ne (by decide)
  have h11 : ((⟨#[116, 112]⟩ : ByteArray).toList == [104, 121, 115, 116]) = false := str_ne (by decide)
  go_enter Tryd.func34, Tryd.ntmps34
  go_wp2_with (go_at_call 42; refine (pin_any _ _ _).mono ?_; rintro e w1 ⟨rfl, rfl⟩; dsimp only)
  refine bodyPost_ret (v := .tuple #[.agg #[.slice (some ⟨w.heap.size + 1 + 1 + 1 + 1, 0, none⟩) 2 2, .slice (some ⟨w.heap.size + 1 + 1 + 1 + 1 + 1 + 1 + 1, 0, none⟩) 2 2, .slice (some ⟨w.heap.size + 1 + 1 + 1 + 1 + 1 + 1 + 1 + 1 + 1 + 1 + 1 + 1, 0, none⟩) 4 4], .bool true]) ?_ rfl ?_
  · simp [results, Tryd.results34, go_sem]
  · have M := ((((((((((((((Mem.start w).alloc 78 #[.slice (some ⟨w.heap.size + 1 + 1 + 1 + 1, 0, none⟩) 2 2, .slice (some ⟨w.heap.size + 1 + 1 + 1 + 1 + 1 + 1 + 1, 0, none⟩) 2 2, .slice (some ⟨w.heap.size + 1 + 1 + 1 + 1 + 1 + 1 + 1 + 1 + 1 + 1 + 1 + 1, 0, none⟩) 4 4]).alloc 78 #[.slice (some ⟨w.heap.size + 1 + 1 + 1 + 1, 0, none⟩) 2 2, .slice (some ⟨w.heap.size + 1 + 1 + 1 + 1 + 1 + 1 + 1, 0, none⟩) 2 2, .slice (some ⟨w.heap.size + 1 + 1 + 1 + 1 + 1 + 1 + 1 + 1 + 1 + 1 + 1 + 1, 0, none⟩) 4 4]).alloc 89 #[.string ⟨#[105, 110]⟩, .int .i64 1]).alloc 89 #[.string ⟨#[112, 116]⟩, .int .i64 5]).alloc 89 #[.string ⟨#[105, 110]⟩, .int .i64 1, .string ⟨#[112, 116]⟩, .int .i64 5]).alloc 89 #[.string ⟨#[113]⟩, .int .i64 1]).alloc 89 #[.string ⟨#[101, 116]⟩, .int .i64 5]).alloc 89 #[.string ⟨#[113]⟩, .int .i64 1, .string ⟨#[101, 116]⟩, .int .i64 5]).alloc 89 #[.string ⟨#[114, 117, 110]⟩, .int .i64 1]).alloc 89 #[.string ⟨#[115, 105, 110, 99, 101]⟩, .int .i64 5]).alloc 89 #[.string ⟨#[112, 114, 101, 118]⟩, .int .i64 1]).alloc 89 #[.string ⟨#[97, 116]⟩, .int .i64 5]).alloc 89 #[.string ⟨#[114, 117, 110]⟩, .int .i64 1, .string ⟨#[115, 105, 110, 99, 101]⟩, .int .i64 5, .string ⟨#[112, 114, 101, 118]⟩, .int .i64 1, .string ⟨#[97, 116]⟩, .int .i64 5])
    simp only [World.size_alloc] at M
    exact ⟨_, _, _, _, rfl, ((M.upK 0 rfl).upK 5 rfl).upK 8 rfl⟩

set_option maxRecDepth 100000 in
set_option maxHeartbeats 3200000 in
theorem ref_ctu (w : World) : RefShape b_ctu w := by
  unfold RefShape
  have e1 : pinV (pinsL b_ctu.ins) = [.string ⟨#[99, 117]⟩, .int .i64 1, .string ⟨#[114]⟩, .int .i64 1, .string ⟨#[112, 118]⟩, .int .i64 2] := by kernel_rfl
  have e2 : pinV (pinsL b_ctu.outs) = [.string ⟨#[113]⟩, .int .i64 1, .string ⟨#[99, 118]⟩, .int .i64 2] := by kernel_rfl
  have e3 : pinV (pinsL b_ctu.st) = [.string ⟨#[112, 114, 101, 118]⟩, .int .i64 1, .string ⟨#[99, 111, 117, 110, 116]⟩, .int .i64 2] := by kernel_rfl
  have n1 : (pinsL b_ctu.ins).length = 3 := by kernel_rfl
  have n2 : (pinsL b_ctu.outs).length = 2 := by kernel_rfl
  have n3 : (pinsL b_ctu.st).length = 2 := by kernel_rfl
  simp only [pinB]
  rw [e1, e2, e3, n1, n2, n3]
  show Calls Tryd.prog 34 #[.string ⟨#[99, 116, 117]⟩] w _
  clear e1 e2 e3 n1 n2 n3
  have h0 : ((⟨#[99, 116, 117]⟩ : ByteArray).toList == [116, 111, 110]) = false := str_ne (by decide)
  have h1 : ((⟨#[99, 116, 117]⟩ : ByteArray).toList == [116, 111, 102]) = false := str_ne (by decide)
  have h2 : ((⟨#[99, 116, 117]⟩ : ByteArray).toList == [116, 112]) = false := str_ne (by decide)
  have h3 : ((⟨#[99, 116, 117]⟩ : ByteArray).toList == [99, 116, 117]) = true := str_eq rfl
  have h4 : ((⟨#[99, 116, 117]⟩ : ByteArray).toList == [99, 116, 100]) = false := str_ne (by decide)
  have h5 : ((⟨#[99, 116, 117]⟩ : ByteArray).toList == [99, 116, 117, 100]) = false := str_ne (by decide)
  have h6 : ((⟨#[99, 116, 117]⟩ : ByteArray).toList == [114, 95, 116, 114, 105, 103]) = false := str_ne (by decide)
  have h7 : ((⟨#[99, 116, 117]⟩ : ByteArray).toList == [102, 95, 116, 114, 105, 103]) = false := str_ne (by decide)
  have h8 : ((⟨#[99, 116, 117]⟩ : ByteArray).toList == [115, 114]) = false := str_ne (by decide)
  have h9 : ((⟨#[99, 116, 117]⟩ : ByteArray).toList == [114, 115]) = false := str_ne (by decide)
  have h10 : ((⟨#[99, 116, 117]⟩ : ByteArray).toList == [114, 97, 109, 112]) = false := str_ne (by decide)
  have h11 : ((⟨#[99, 116, 117]⟩ : ByteArray).toList == [104, 121, 115, 116]) = false := str_ne (by decide)
  go_enter Tryd.func34, Tryd.ntmps34
  go_wp2_with (go_at_call 42; refine (pin_any _ _ _).mono ?_; rintro e w1 ⟨rfl, rfl⟩; dsimp only)
  refine bodyPost_ret (v := .tuple #[.agg #[.slice (some ⟨w.heap.size + 1 + 1 + 1 + 1 + 1, 0, none⟩) 3 3, .slice (some ⟨w.heap.size + 1 + 1 + 1 + 1 + 1 + 1 + 1 + 1, 0, none⟩) 2 2, .slice (some ⟨w.heap.size + 1 + 1 + 1 + 1 + 1 + 1 + 1 + 1 + 1 + 1 + 1, 0, none⟩) 2 2], .bool true]) ?_ rfl ?_
  · simp [results, Tryd.results34, go_sem]
  · have M := (((((((((((((Mem.start w).alloc 78 #[.slice (some ⟨w.heap.size + 1 + 1 + 1 + 1 + 1, 0, none⟩) 3 3, .slice (some ⟨w.heap.size + 1 + 1 + 1 + 1 + 1 + 1 + 1 + 1, 0, none⟩) 2 2, .slice (some ⟨w.heap.size + 1 + 1 + 1 + 1 + 1 + 1 + 1 + 1 + 1 + 1 + 1, 0, none⟩) 2 2]).alloc 78 #[.slice (some ⟨w.heap.size + 1 + 1 + 1 + 1 + 1, 0, none⟩) 3 3, .slice (some ⟨w.heap.size + 1 + 1 + 1 + 1 + 1 + 1 + 1 + 1, 0, none⟩) 2 2, .slice (some ⟨w.heap.size + 1 + 1 + 1 + 1 + 1 + 1 + 1 + 1 + 1 + 1 + 1, 0, none⟩) 2 2]).alloc 89 #[.string ⟨#[99, 117]⟩, .int .i64 1]).alloc 89 #[.string ⟨#[114]⟩, .int .i64 1]).alloc 89 #[.string ⟨#[112, 118]⟩, .int .i64 2]).alloc 89 #[.string ⟨#[99, 117]⟩, .int .i64 1, .string ⟨#[114]⟩, .int .i64 1, .string ⟨#[112, 118]⟩, .int .i64 2]).alloc 89 #[.string ⟨#[113]⟩, .int .i64 1]).alloc 89 #[.string ⟨#[99, 118]⟩, .int .i64 2]).alloc 89 #[.string ⟨#[113]⟩, .int .i64 1, .string ⟨#[99, 118]⟩, .int .i64 2]).alloc 89 #[.string ⟨#[112, 114, 101, 118]⟩, .int .i64 1]).alloc 89 #[.string ⟨#[99, 111, 117, 110, 116]⟩, .int .i64 2]).alloc 89 #[.string ⟨#[112, 114, 101, 118]⟩, .int .i64 1, .string ⟨#[99, 111, 117, 110, 116]⟩, .int .i64 2])
    simp only [World.size_alloc] at M
    exact ⟨_, _, _, _, rfl, ((M.upK 0 rfl).upK 3 rfl).upK 6 rfl⟩

set_option maxRecDepth 100000 in
set_option maxHeartbeats 3200000 in
theorem ref_ctd (w : World) : RefShape b_ctd w := by
  unfold RefShape
  have e1 : pinV (pinsL b_ctd.ins) = [.string ⟨#[99, 100]⟩, .int .i64 1, .string ⟨#[108, 100]⟩, .int .i64 1, .string ⟨#[112, 118]⟩, .int .i64 2] := by kernel_rfl
  have e2 : pinV (pinsL b_ctd.outs) = [.string ⟨#[113]⟩, .int .i64 1, .string ⟨#[99, 118]⟩, .int .i64 2] := by kernel_rfl
  have e3 : pinV (pinsL b_ctd.st) = [.string ⟨#[112, 114, 101, 118]⟩, .int .i64 1, .string ⟨#[99, 111, 117, 110, 116]⟩, .int .i64 2] := by kernel_rfl
  have n1 : (pinsL b_ctd.ins).length = 3 := by kernel_rfl
  have n2 : (pinsL b_ctd.outs).length = 2 := by kernel_rfl
  have n3 : (pinsL b_ctd.st).length = 2 := by kernel_rfl
  simp only [pinB]
  rw [e1, e2, e3, n1, n2, n3]
  show Calls Tryd.prog 34 #[.string ⟨#[99, 116, 100]⟩] w _
  clear e1 e2 e3 n1 n2 n3
  have h0 : ((⟨#[99, 116, 100]⟩ : ByteArray).toList == [116, 111, 110]) = false := str_ne (by decide)
  have h1 : ((⟨#[99, 116, 100]⟩ : ByteArray).toList == [116, 111, 102]) = false := str_ne (by decide)
  have h2 : ((⟨#[99, 116, 100]⟩ : ByteArray).toList == [116, 112]) = false := str_ne (by decide)
  have h3 : ((⟨#[99, 116, 100]⟩ : ByteArray).toList == [99, 116, 117]) = false := str_ne (by decide)
  have h4 : ((⟨#[99, 116, 100]⟩ : ByteArray).toList == [99, 116, 100]) = true := str_eq rfl
  have h5 : ((⟨#[99, 116, 100]⟩ : ByteArray).toList == [99, 116, 117, 100]) = false := str_ne (by decide)
  have h6 : ((⟨#[99, 116, 100]⟩ : ByteArray).toList == [114, 95, 116, 114, 105, 103]) = false := str_ne (by decide)
  have h7 : ((⟨#[99, 116, 100]⟩ : ByteArray).toList == [102, 95, 116, 114, 105, 103]) = false := str_ne (by decide)
  have h8 : ((⟨#[99, 116, 100]⟩ : ByteArray).toList == [115, 114]) = false := str_ne (by decide)
  have h9 : ((⟨#[99, 116, 100]⟩ : ByteArray).toList == [114, 115]) = false := str_ne (by decide)
  have h10 : ((⟨#[99, 116, 100]⟩ : ByteArray).toList == [114, 97, 109, 112]) = false := str_ne (by decide)
  have h11 : ((⟨#[99, 116, 100]⟩ : ByteArray).toList == [104, 121, 115, 116]) = false := str_ne (by decide)
  go_enter Tryd.func34, Tryd.ntmps34
  go_wp2_with (go_at_call 42; refine (pin_any _ _ _).mono ?_; rintro e w1 ⟨rfl, rfl⟩; dsimp only)
  refine bodyPost_ret (v := .tuple #[.agg #[.slice (some ⟨w.heap.size + 1 + 1 + 1 + 1 + 1, 0, none⟩) 3 3, .slice (some ⟨w.heap.size + 1 + 1 + 1 + 1 + 1 + 1 + 1 + 1, 0, none⟩) 2 2, .slice (some ⟨w.heap.size + 1 + 1 + 1 + 1 + 1 + 1 + 1 + 1 + 1 + 1 + 1, 0, none⟩) 2 2], .bool true]) ?_ rfl ?_
  · simp [results, Tryd.results34, go_sem]
  · have M := (((((((((((((Mem.start w).alloc 78 #[.slice (some ⟨w.heap.size + 1 + 1 + 1 + 1 + 1, 0, none⟩) 3 3, .slice (some ⟨w.heap.size + 1 + 1 + 1 + 1 + 1 + 1 + 1 + 1, 0, none⟩) 2 2, .slice (some ⟨w.heap.size + 1 + 1 + 1 + 1 + 1 + 1 + 1 + 1 + 1 + 1 + 1, 0, none⟩) 2 2]).alloc 78 #[.slice (some ⟨w.heap.size + 1 + 1 + 1 + 1 + 1, 0, none⟩) 3 3, .slice (some ⟨w.heap.size + 1 + 1 + 1 + 1 + 1 + 1 + 1 + 1, 0, none⟩) 2 2, .slice (some ⟨w.heap.size + 1 + 1 + 1 + 1 + 1 + 1 + 1 + 1 + 1 + 1 + 1, 0, none⟩) 2 2]).alloc 89 #[.string ⟨#[99, 100]⟩, .int .i64 1]).alloc 89 #[.string ⟨#[108, 100]⟩, .int .i64 1]).alloc 89 #[.string ⟨#[112, 118]⟩, .int .i64 2]).alloc 89 #[.string ⟨#[99, 100]⟩, .int .i64 1, .string ⟨#[108, 100]⟩, .int .i64 1, .string ⟨#[112, 118]⟩, .int .i64 2]).alloc 89 #[.string ⟨#[113]⟩, .int .i64 1]).alloc 89 #[.string ⟨#[99, 118]⟩, .int .i64 2]).alloc 89 #[.string ⟨#[113]⟩, .int .i64 1, .string ⟨#[99, 118]⟩, .int .i64 2]).alloc 89 #[.string ⟨#[112, 114, 101, 118]⟩, .int .i64 1]).alloc 89 #[.string ⟨#[99, 111, 117, 110, 116]⟩, .int .i64 2]).alloc 89 #[.string ⟨#[112, 114, 101, 118]⟩, .int .i64 1, .string ⟨#[99, 111, 117, 110, 116]⟩, .int .i64 2])
    simp only [World.size_alloc] at M
    exact ⟨_, _, _, _, rfl, ((M.upK 0 rfl).upK 3 rfl).upK 6 rfl⟩

set_option maxRecDepth 100000 in
set_option maxHeartbeats 3200000 in
theorem ref_ctud (w : World) : RefShape b_ctud w := by
  unfold RefShape
  have e1 : pinV (pinsL b_ctud.ins) = [.string ⟨#[99, 117]⟩, .int .i64 1, .string ⟨#[99, 100]⟩, .int .i64 1, .string ⟨#[114]⟩, .int .i64 1, .string ⟨#[108, 100]⟩, .int .i64 1, .string ⟨#[112, 118]⟩, .int .i64 2] := by kernel_rfl
  have e2 : pinV (pinsL b_ctud.outs) = [.string ⟨#[113, 117]⟩, .int .i64 1, .string ⟨#[113, 100]⟩, .int .i64 1, .string ⟨#[99, 118]⟩, .int .i64 2] := by kernel_rfl
  have e3 : pinV (pinsL b_ctud.st) = [.string ⟨#[117, 112]⟩, .int .i64 1, .string ⟨#[100, 111, 119, 110]⟩, .int .i64 1, .string ⟨#[99, 111, 117, 110, 116]⟩, .int .i64 2] := by kernel_rfl
  have n1 : (pinsL b_ctud.ins).length = 5 := by kernel_rfl
  have n2 : (pinsL b_ctud.outs).length = 3 := by kernel_rfl
  have n3 : (pinsL b_ctud.st).length = 3 := by kernel_rfl
  simp only [pinB]
  rw [e1, e2, e3, n1, n2, n3]
  show Calls Tryd.prog 34 #[.string ⟨#[99, 116, 117, 100]⟩] w _
  clear e1 e2 e3 n1 n2 n3
  have h0 : ((⟨#[99, 116, 117, 100]⟩ : ByteArray).toList == [116, 111, 110]) = false := str_ne (by decide)
  have h1 : ((⟨#[99, 116, 117, 100]⟩ : ByteArray).toList == [116, 111, 102]) = false := str_ne (by decide)
  have h2 : ((⟨#[99, 116, 117, 100]⟩ : ByteArray).toList == [116, 112]) = false := str_ne (by decide)
  have h3 : ((⟨#[99, 116, 117, 100]⟩ : ByteArray).toList == [99, 116, 117]) = false := str_ne (by decide)
  have h4 : ((⟨#[99, 116, 117, 100]⟩ : ByteArray).toList == [99, 116, 100]) = false := str_ne (by decide)
  have h5 : ((⟨#[99, 116, 117, 100]⟩ : ByteArray).toList == [99, 116, 117, 100]) = true := str_eq rfl
  have h6 : ((⟨#[99, 116, 117, 100]⟩ : ByteArray).toList == [114, 95, 116, 114, 105, 103]) = false := str_ne (by decide)
  have h7 : ((⟨#[99, 116, 117, 100]⟩ : ByteArray).toList == [102, 95, 116, 114, 105, 103]) = false := str_ne (by decide)
  have h8 : ((⟨#[99, 116, 117, 100]⟩ : ByteArray).toList == [115, 114]) = false := str_ne (by decide)
  have h9 : ((⟨#[99, 116, 117, 100]⟩ : ByteArray).toList == [114, 115]) = false := str_ne (by decide)
  have h10 : ((⟨#[99, 116, 117, 100]⟩ : ByteArray).toList == [114, 97, 109, 112]) = false := str_ne (by decide)
  have h11 : ((⟨#[99, 116, 117, 100]⟩ : ByteArray).toList == [104, 121, 115, 116]) = false := str_ne (by decide)
  go_enter Tryd.func34, Tryd.ntmps34
  go_wp2_with (go_at_call 42; refine (pin_any _ _ _).mono ?_; rintro e w1 ⟨rfl, rfl⟩; dsimp only)
  refine bodyPost_ret (v := .tuple #[.agg #[.slice (some ⟨w.heap.size + 1 + 1 + 1 + 1 + 1 + 1 + 1, 0, none⟩) 5 5, .slice (some ⟨w.heap.size + 1 + 1 + 1 + 1 + 1 + 1 + 1 + 1 + 1 + 1 + 1, 0, none⟩) 3 3, .slice (some ⟨w.heap.size + 1 + 1 + 1 + 1 + 1 + 1 + 1 + 1 + 1 + 1 + 1 + 1 + 1 + 1 + 1, 0, none⟩) 3 3], .bool true]) ?_ rfl ?_
  · simp [results, Tryd.results34, go_sem]
  · have M := (((((((((((((((((Mem.start w).alloc 78 #[.slice (some ⟨w.heap.size + 1 + 1 + 1 + 1 + 1 + 1 + 1, 0, none⟩) 5 5, .slice (some ⟨w.heap.size + 1 + 1 + 1 + 1 + 1 + 1 + 1 + 1 + 1 + 1 + 1, 0, none⟩) 3 3, .slice (some ⟨w.heap.size + 1 + 1 + 1 + 1 + 1 + 1 + 1 + 1 + 1 + 1 + 1 + 1 + 1 + 1 + 1, 0, none⟩) 3 3]).alloc 78 #[.slice (some ⟨w.heap.size + 1 + 1 + 1 + 1 + 1 + 1 + 1, 0, none⟩) 5 5, .slice (some ⟨w.heap.size + 1 + 1 + 1 + 1 + 1 + 1 + 1 + 1 + 1 + 1 + 1, 0, none⟩) 3 3, .slice (some ⟨w.heap.size + 1 + 1 + 1 + 1 + 1 + 1 + 1 + 1 + 1 + 1 + 1 + 1 + 1 + 1 + 1, 0, none⟩) 3 3]).alloc 89 #[.string ⟨#[99, 117]⟩, .int .i64 1]).alloc 89 #[.string ⟨#[99, 100]⟩, .int .i64 1]).alloc 89 #[.string ⟨#[114]⟩, .int .i64 1]).alloc 89 #[.string ⟨#[108, 100]⟩, .int .i64 1]).alloc 89 #[.string ⟨#[112, 118]⟩, .int .i64 2]).alloc 89 #[.string ⟨#[99, 117]⟩, .int .i64 1, .string ⟨#[99, 100]⟩, .int .i64 1, .string ⟨#[114]⟩, .int .i64 1, .string ⟨#[108, 100]⟩, .int .i64 1, .string ⟨#[112, 118]⟩, .int .i64 2]).alloc 89 #[.string ⟨#[113, 117]⟩, .int .i64 1]).alloc 89 #[.string ⟨#[113, 100]⟩, .int .i64 1]).alloc 89 #[.string ⟨#[99, 118]⟩, .int .i64 2]).alloc 89 #[.string ⟨#[113, 117]⟩, .int .i64 1, .string ⟨#[113, 100]⟩, .int .i64 1, .string ⟨#[99, 118]⟩, .int .i64 2]).alloc 89 #[.string ⟨#[117, 112]⟩, .int .i64 1]).alloc 89 #[.string ⟨#[100, 111, 119, 110]⟩, .int .i64 1]).alloc 89 #[.string ⟨#[99, 111, 117, 110, 116]⟩, .int .i64 2]).alloc 89 #[.string ⟨#[117, 112]⟩, .int .i64 1, .string ⟨#[100, 111, 119, 110]⟩, .int .i64 1, .string ⟨#[99, 111, 117, 110, 116]⟩, .int .i64 2])
    simp only [World.size_alloc] at M
    exact ⟨_, _, _, _, rfl, ((M.upK 0 rfl).upK 4 rfl).upK 8 rfl⟩

set_option maxRecDepth 100000 in
set_option maxHeartbeats 3200000 in
theorem ref_rtrig (w : World) : RefShape b_rtrig w := by
  unfold RefShape
  have e1 : pinV (pinsL b_rtrig.ins) = [.string ⟨#[99, 108, 107]⟩, .int .i64 1] := by kernel_rfl
  have e2 : pinV (pinsL b_rtrig.outs) = [.string ⟨#[113]⟩, .int .i64 1] := by kernel_rfl
  have e3 : pinV (pinsL b_rtrig.st) = [.string ⟨#[112, 114, 101, 118]⟩, .int .i64 1] := by kernel_rfl
  have n1 : (pinsL b_rtrig.ins).length = 1 := by kernel_rfl
  have n2 : (pinsL b_rtrig.outs).length = 1 := by kernel_rfl
  have n3 : (pinsL b_rtrig.st).length = 1 := by kernel_rfl
  simp only [pinB]
  rw [e1, e2, e3, n1, n2, n3]
  show Calls Tryd.prog 34 #[.string ⟨#[114, 95, 116, 114, 105, 103]⟩] w _
  clear e1 e2 e3 n1 n2 n3
  have h0 : ((⟨#[114, 95, 116, 114, 105, 103]⟩ : ByteArray).toList == [116, 111, 110]) = false := str_ne (by decide)
  have h1 : ((⟨#[114, 95, 116, 114, 105, 103]⟩ : ByteArray).toList == [116, 111, 102]) = false := str_ne (by decide)
  have h2 : ((⟨#[114, 95, 116, 114, 105, 103]⟩ : ByteArray).toList == [116, 112]) = false := str_ne (by decide)
  have h3 : ((⟨#[114, 95, 116, 114, 105, 103]⟩ : ByteArray).toList == [99, 116, 117]) = false := str_ne (by decide)
  have h4 : ((⟨#[114, 95, 116, 114, 105, 103]⟩ : ByteArray).toList == [99, 116, 100]) = false := str_ne (by decide)
  have h5 : ((⟨#[114, 95, 116, 114, 105, 103]⟩ : ByteArray).toList == [99, 116, 117, 100]) = false := str_ne (by decide)
  have h6 : ((⟨#[114, 95, 116, 114, 105, 103]⟩ : ByteArray).toList == [114, 95, 116, 114, 105, 103]) = true := str_eq rfl
  have h7 : ((⟨#[114, 95, 116, 114, 105, 103]⟩ : ByteArray).toList == [102, 95, 116, 114, 105, 103]) = false := str_ne (by decide)
  have h8 : ((⟨#[114, 95, 116, 114, 105, 103]⟩ : ByteArray).toList == [115, 114]) = false := str_ne (by decide)
  have h9 : ((⟨#[114, 95, 116, 114, 105, 103]⟩ : ByteArray).toList == [114, 115]) = false := str_ne (by decide)
  have h10 : ((⟨#[114, 95, 116, 114, 105, 103]⟩ : ByteArray).toList == [114, 97, 109, 112]) = false := str_ne (by decide)
  have h11 : ((⟨#[114, 95, 116, 114, 105, 103]⟩ : ByteArray).toList == [104, 121, 115, 116]) = false := str_ne (by decide)
  go_enter Tryd.func34, Tryd.ntmps34
  go_wp2_with (go_at_call 42; refine (pin_any _ _ _).mono ?_; rintro e w1 ⟨rfl, rfl⟩; dsimp only)
  refine bodyPost_ret (v := .tuple #[.agg #[.slice (some ⟨w.heap.size + 1 + 1 + 1, 0, none⟩) 1 1, .slice (some ⟨w.heap.size + 1 + 1 + 1 + 1 + 1, 0, none⟩) 1 1, .slice (some ⟨w.heap.size + 1 + 1 + 1 + 1 + 1 + 1 + 1, 0, none⟩) 1 1], .bool true]) ?_ rfl ?_
  · simp [results, Tryd.results34, go_sem]
  · have M := (((((((((Mem.start w).alloc 78 #[.slice (some ⟨w.heap.size + 1 + 1 + 1, 0, none⟩) 1 1, .slice (some ⟨w.heap.size + 1 + 1 + 1 + 1 + 1, 0, none⟩) 1 1, .slice (some ⟨w.heap.size + 1 + 1 + 1 + 1 + 1 + 1 + 1, 0, none⟩) 1 1]).alloc 78 #[.slice (some ⟨w.heap.size + 1 + 1 + 1, 0, none⟩) 1 1, .slice (some ⟨w.heap.size + 1 + 1 + 1 + 1 + 1, 0, none⟩) 1 1, .slice (some ⟨w.heap.size + 1 + 1 + 1 + 1 + 1 + 1 + 1, 0, none⟩) 1 1]).alloc 89 #[.string ⟨#[99, 108, 107]⟩, .int .i64 1]).alloc 89 #[.string ⟨#[99, 108, 107]⟩, .int .i64 1]).alloc 89 #[.string ⟨#[113]⟩, .int .i64 1]).alloc 89 #[.string ⟨#[113]⟩, .int .i64 1]).alloc 89 #[.string ⟨#[112, 114, 101, 118]⟩, .int .i64 1]).alloc 89 #[.string ⟨#[112, 114, 101, 118]⟩, .int .i64 1])
    simp only [World.size_alloc] at M
    exact ⟨_, _, _, _, rfl, ((M.upK 0 rfl).upK 2 rfl).upK 4 rfl⟩

set_option maxRecDepth 100000 in
set_option maxHeartbeats 3200000 in
theorem ref_ftrig (w : World) : RefShape b_ftrig w := by
  unfold RefShape
  have e1 : pinV (pinsL b_ftrig.ins) = [.string ⟨#[99, 108, 107]⟩, .int .i64 1] := by kernel_rfl
  have e2 : pinV (pinsL b_ftrig.outs) = [.string ⟨#[113]⟩, .int .i64 1] := by kernel_rfl
  have e3 : pinV (pinsL b_ftrig.st) = [.string ⟨#[112, 114, 101, 118]⟩, .int .i64 1] := by kernel_rfl
  have n1 : (pinsL b_ftrig.ins).length = 1 := by kernel_rfl
  have n2 : (pinsL b_ftrig.outs).length = 1 := by kernel_rfl
  have n3 : (pinsL b_ftrig.st).length = 1 := by kernel_rfl
  simp only [pinB]
  rw [e1, e2, e3, n1, n2, n3]
  show Calls Tryd.prog 34 #[.string ⟨#[102, 95, 116, 114, 105, 103]⟩] w _
  clear e1 e2 e3 n1 n2 n3
  have h0 : ((⟨#[102, 95, 116, 114, 105, 103]⟩ : ByteArray).toList == [116, 111, 110]) = false := str_ne (by decide)
  have h1 : ((⟨#[102, 95, 116, 114, 105, 103]⟩ : ByteArray).toList == [116, 111, 102]) = false := str_ne (by decide)
  have h2 : ((⟨#[102, 95, 116, 114, 105, 103]⟩ : ByteArray).toList == [116, 112]) = false := str_ne (by decide)
  have h3 : ((⟨#[102, 95, 116, 114, 105, 103]⟩ : ByteArray).toList == [99, 116, 117]) = false := str_ne (by decide)
  have h4 : ((⟨#[102, 95, 116, 114, 105, 103]⟩ : ByteArray).toList == [99, 116, 100]) = false := str_ne (by decide)
  have h5 : ((⟨#[102, 95, 116, 114, 105, 103]⟩ : ByteArray).toList == [99, 116, 117, 100]) = false := str_ne (by decide)
  have h6 : ((⟨#[102, 95, 116, 114, 105, 103]⟩ : ByteArray).toList == [114, 95, 116, 114, 105, 103]) = false := str_ne (by decide)
  have h7 : ((⟨#[102, 95, 116, 114, 105, 103]⟩ : ByteArray).toList == [102, 95, 116, 114, 105, 103]) = true := str_eq rfl
  have h8 : ((⟨#[102, 95, 116, 114, 105, 103]⟩ : ByteArray).toList == [115, 114]) = false := str_ne (by decide)
  have h9 : ((⟨#[102, 95, 116, 114, 105, 103]⟩ : ByteArray).toList == [114, 115]) = false := str_ne (by decide)
  have h10 : ((⟨#[102, 95, 116, 114, 105, 103]⟩ : ByteArray).toList == [114, 97, 109, 112]) = false := str_ne (by decide)
  have h11 : ((⟨#[102, 95, 116, 114, 105, 103]⟩ : ByteArray).toList == [104, 121, 115, 116]) = false := str_ne (by decide)
  go_enter Tryd.func34, Tryd.ntmps34
  go_wp2_with (go_at_call 42; refine (pin_any _ _ _).mono ?_; rintro e w1 ⟨rfl, rfl⟩; dsimp only)
  refine bodyPost_ret (v := .tuple #[.agg #[.slice (some ⟨w.heap.size + 1 + 1 + 1, 0, none⟩) 1 1, .slice (some ⟨w.heap.size + 1 + 1 + 1 + 1 + 1, 0, none⟩) 1 1, .slice (some ⟨w.heap.size + 1 + 1 + 1 + 1 + 1 + 1 + 1, 0, none⟩) 1 1], .bool true]) ?_ rfl ?_
  · simp [results, Tryd.results34, go_sem]
  · have M := (((((((((Mem.start w).alloc 78 #[.slice (some ⟨w.heap.size + 1 + 1 + 1, 0, none⟩) 1 1, .slice (some ⟨w.heap.size + 1 + 1 + 1 + 1 + 1, 0, none⟩) 1 1, .slice (some ⟨w.heap.size + 1 + 1 + 1 + 1 + 1 + 1 + 1, 0, none⟩) 1 1]).alloc 78 #[.slice (some ⟨w.heap.size + 1 + 1 + 1, 0, none⟩) 1 1, .slice (some ⟨w.heap.size + 1 + 1 + 1 + 1 + 1, 0, none⟩) 1 1, .slice (some ⟨w.heap.size + 1 + 1 + 1 + 1 + 1 + 1 + 1, 0, none⟩) 1 1]).alloc 89 #[.string ⟨#[99, 108, 107]⟩, .int .i64 1]).alloc 89 #[.string ⟨#[99, 108, 107]⟩, .int .i64 1]).alloc 89 #[.string ⟨#[113]⟩, .int .i64 1]).alloc 89 #[.string ⟨#[113]⟩, .int .i64 1]).alloc 89 #[.string ⟨#[112, 114, 101, 118]⟩, .int .i64 1]).alloc 89 #[.string ⟨#[112, 114, 101, 118]⟩, .int .i64 1])
    simp only [World.size_alloc] at M
    exact ⟨_, _, _, _, rfl, ((M.upK 0 rfl).upK 2 rfl).upK 4 rfl⟩

set_option maxRecDepth 100000 in
set_option maxHeartbeats 3200000 in
theorem ref_sr (w : World) : RefShape b_sr w := by
  unfold RefShape
  have e1 : pinV (pinsL b_sr.ins) = [.string ⟨#[115, 49]⟩, .int .i64 1, .string ⟨#[114]⟩, .int .i64 1] := by kernel_rfl
  have e2 : pinV (pinsL b_sr.outs) = [.string ⟨#[113, 49]⟩, .int .i64 1] := by kernel_rfl
  have e3 : pinV (pinsL b_sr.st) = [.string ⟨#[111, 110]⟩, .int .i64 1] := by kernel_rfl
  have n1 : (pinsL b_sr.ins).length = 2 := by kernel_rfl
  have n2 : (pinsL b_sr.outs).length = 1 := by kernel_rfl
  have n3 : (pinsL b_sr.st).length = 1 := by kernel_rfl
  simp only [pinB]
  rw [e1, e2, e3, n1, n2, n3]
  show Calls Tryd.prog 34 #[.string ⟨#[115, 114]⟩] w _
  clear e1 e2 e3 n1 n2 n3
  have h0 : ((⟨#[115, 114]⟩ : ByteArray).toList == [116, 111, 110]) = false := str_ne (by decide)
  have h1 : ((⟨#[115, 114]⟩ : ByteArray).toList == [116, 111, 102]) = false := str_ne (by decide)
  have h2 : ((⟨#[115, 114]⟩ : ByteArray).toList == [116, 112]) = false := str_ne (by decide)
  have h3 : ((⟨#[115, 114]⟩ : ByteArray).toList == [99, 116, 117]) = false := str_ne (by decide)
  have h4 : ((⟨#[115, 114]⟩ : ByteArray).toList == [99, 116, 100]) = false := str_ne (by decide)
  have h5 : ((⟨#[115, 114]⟩ : ByteArray).toList == [99, 116, 117, 100]) = false := str_ne (by decide)
  have h6 : ((⟨#[115, 114]⟩ : ByteArray).toList == [114, 95, 116, 114, 105, 103]) = false := str_ne (by decide)
  have h7 : ((⟨#[115, 114]⟩ : ByteArray).toList == [102, 95, 116, 114, 105, 103]) = false := str_ne (by decide)
  have h8 : ((⟨#[115, 114]⟩ : ByteArray).toList == [115, 114]) = true := str_eq rfl
  have h9 : ((⟨#[115, 114]⟩ : ByteArray).toList == [114, 115]) = false := str_ne (by decide)
  have h10 : ((⟨#[115, 114]⟩ : ByteArray).toList == [114, 97, 109, 112]) = false := str_ne (by decide)
  have h11 : ((⟨#[115, 114]⟩ : ByteArray).toList == [104, 121, 115, 116]) = false := str_ne (by decide)
  go_enter Tryd.func34, Tryd.ntmps34
  go_wp2_with (go_at_call 42; refine (pin_any _ _ _).mono ?_; rintro e w1 ⟨rfl, rfl⟩; dsimp only)
  refine bodyPost_ret (v := .tuple #[.agg #[.slice (some ⟨w.heap.size + 1 + 1 + 1 + 1, 0, none⟩) 2 2, .slice (some ⟨w.heap.size + 1 + 1 + 1 + 1 + 1 + 1, 0, none⟩) 1 1, .slice (some ⟨w.heap.size + 1 + 1 + 1 + 1 + 1 + 1 + 1 + 1, 0, none⟩) 1 1], .bool true]) ?_ rfl ?_
  · simp [results, Tryd.results34, go_sem]
  · have M := ((((((((((Mem.start w).alloc 78 #[.slice (some ⟨w.heap.size + 1 + 1 + 1 + 1, 0, none⟩) 2 2, .slice (some ⟨w.heap.size + 1 + 1 + 1 + 1 + 1 + 1, 0, none⟩) 1 1, .slice (some ⟨w.heap.size + 1 + 1 + 1 + 1 + 1 + 1 + 1 + 1, 0, none⟩) 1 1]).alloc 78 #[.slice (some ⟨w.heap.size + 1 + 1 + 1 + 1, 0, none⟩) 2 2, .slice (some ⟨w.heap.size + 1 + 1 + 1 + 1 + 1 + 1, 0, none⟩) 1 1, .slice (some ⟨w.heap.size + 1 + 1 + 1 + 1 + 1 + 1 + 1 + 1, 0, none⟩) 1 1]).alloc 89 #[.string ⟨#[115, 49]⟩, .int .i64 1]).alloc 89 #[.string ⟨#[114]⟩, .int .i64 1]).alloc 89 #[.string ⟨#[115, 49]⟩, .int .i64 1, .string ⟨#[114]⟩, .int .i64 1]).alloc 89 #[.string ⟨#[113, 49]⟩, .int .i64 1]).alloc 89 #[.string ⟨#[113, 49]⟩, .int .i64 1]).alloc 89 #[.string ⟨#[111, 110]⟩, .int .i64 1]).alloc 89 #[.string ⟨#[111, 110]⟩, .int .i64 1])
    simp only [World.size_alloc] at M
    exact ⟨_, _, _, _, rfl, ((M.upK 0 rfl).upK 2 rfl).upK 4 rfl⟩

set_option maxRecDepth 100000 in
set_option maxHeartbeats 3200000 in
theorem ref_rs (w : World) : RefShape b_rs w := by
  unfold RefShape
  have e1 : pinV (pinsL b_rs.ins) = [.string ⟨#[115]⟩, .int .i64 1, .string ⟨#[114, 49]⟩, .int .i64 1] := by kernel_rfl
  have e2 : pinV (pinsL b_rs.outs) = [.string ⟨#[113, 49]⟩, .int .i64 1] := by kernel_rfl
  have e3 : pinV (pinsL b_rs.st) = [.string ⟨#[111, 110]⟩, .int .i64 1] := by kernel_rfl
  have n1 : (pinsL b_rs.ins).length = 2 := by kernel_rfl
  have n2 : (pinsL b_rs.outs).length = 1 := by kernel_rfl
  have n3 : (pinsL b_rs.st).length = 1 := by kernel_rfl
  simp only [pinB]
  rw [e1, e2, e3, n1, n2, n3]
  show Calls Tryd.prog 34 #[.string ⟨#[114, 115]⟩] w _
  clear e1 e2 e3 n1 n2 n3
  have h0 : ((⟨#[114, 115]⟩ : ByteArray).toList == [116, 111, 110]) = false := str_ne (by decide)
  have h1 : ((⟨#[114, 115]⟩ : ByteArray).toList == [116, 111, 102]) = false := str_ne (by decide)
  have h2 : ((⟨#[114, 115]⟩ : ByteArray).toList == [116, 112]) = false := str_ne (by decide)
  have h3 : ((⟨#[114, 115]⟩ : ByteArray).toList == [99, 116, 117]) = false := str_ne (by decide)
  have h4 : ((⟨#[114, 115]⟩ : ByteArray).toList == [99, 116, 100]) = false := str_ne (by decide)
  have h5 : ((⟨#[114, 115]⟩ : ByteArray).toList == [99, 116, 117, 100]) = false := str_ne (by decide)
  have h6 : ((⟨#[114, 115]⟩ : ByteArray).toList == [114, 95, 116, 114, 105, 103]) = false := str_ne (by decide)
  have h7 : ((⟨#[114, 115]⟩ : ByteArray).toList == [102, 95, 116, 114, 105, 103]) = false := str_ne (by decide)
  have h8 : ((⟨#[114, 115]⟩ : ByteArray).toList == [115, 114]) = false := str_ne (by decide)
  have h9 : ((⟨#[114, 115]⟩ : ByteArray).toList == [114, 115]) = true := str_eq rfl
  have h10 : ((⟨#[114, 115]⟩ : ByteArray).toList == [114, 97, 109, 112]) = false := str_ne (by decide)
  have h11 : ((⟨#[114, 115]⟩ : ByteArray).toList == [104, 121, 115, 116]) = false := str_ne (by decide)
  go_enter Tryd.func34, Tryd.ntmps34
  go_wp2_with (go_at_call 42; refine (pin_any _ _ _).mono ?_; rintro e w1 ⟨rfl, rfl⟩; dsimp only)
  refine bodyPost_ret (v := .tuple #[.agg #[.slice (some ⟨w.heap.size + 1 + 1 + 1 + 1, 0, none⟩) 2 2, .slice (some ⟨w.heap.size + 1 + 1 + 1 + 1 + 1 + 1, 0, none⟩) 1 1, .slice (some ⟨w.heap.size + 1 + 1 + 1 + 1 + 1 + 1 + 1 + 1, 0, none⟩) 1 1], .bool true]) ?_ rfl ?_
  · simp [results, Tryd.results34, go_sem]
  · have M := ((((((((((Mem.start w).alloc 78 #[.slice (some ⟨w.heap.size + 1 + 1 + 1 + 1, 0, none⟩) 2 2, .slice (some ⟨w.heap.size + 1 + 1 + 1 + 1 + 1 + 1, 0, none⟩) 1 1, .slice (some ⟨w.heap.size + 1 + 1 + 1 + 1 + 1 + 1 + 1 + 1, 0, none⟩) 1 1]).alloc 78 #[.slice (some ⟨w.heap.size + 1 + 1 + 1 + 1, 0, none⟩) 2 2, .slice (some ⟨w.heap.size + 1 + 1 + 1 + 1 + 1 + 1, 0, none⟩) 1 1, .slice (some ⟨w.heap.size + 1 + 1 + 1 + 1 + 1 + 1 + 1 + 1, 0, none⟩) 1 1]).alloc 89 #[.string ⟨#[115]⟩, .int .i64 1]).alloc 89 #[.string ⟨#[114, 49]⟩, .int .i64 1]).alloc 89 #[.string ⟨#[115]⟩, .int .i64 1, .string ⟨#[114, 49]⟩, .int .i64 1]).alloc 89 #[.string ⟨#[113, 49]⟩, .int .i64 1]).alloc 89 #[.string ⟨#[113, 49]⟩, .int .i64 1]).alloc 89 #[.string ⟨#[111, 110]⟩, .int .i64 1]).alloc 89 #[.string ⟨#[111, 110]⟩, .int .i64 1])
    simp only [World.size_alloc] at M
    exact ⟨_, _, _, _, rfl, ((M.upK 0 rfl).upK 2 rfl).upK 4 rfl⟩

set_option maxRecDepth 100000 in
set_option maxHeartbeats 3200000 in
theorem ref_ramp (w : World) : RefShape b_ramp w := by
  unfold RefShape
  have e1 : pinV (pinsL b_ramp.ins) = [.string ⟨#[120]⟩, .int .i64 2, .string ⟨#[115, 116, 101, 112]⟩, .int .i64 2] := by kernel_rfl
  have e2 : pinV (pinsL b_ramp.outs) = [.string ⟨#[121]⟩, .int .i64 2] := by kernel_rfl
  have e3 : pinV (pinsL b_ramp.st) = [.string ⟨#[97, 116]⟩, .int .i64 2] := by kernel_rfl
  have n1 : (pinsL b_ramp.ins).length = 2 := by kernel_rfl
  have n2 : (pinsL b_ramp.outs).length = 1 := by kernel_rfl
  have n3 : (pinsL b_ramp.st).length = 1 := by kernel_rfl
  simp only [pinB]
  rw [e1, e2, e3, n1, n2, n3]
  show Calls Tryd.prog 34 #[.string ⟨#[114, 97, 109, 112]⟩] w _
  clear e1 e2 e3 n1 n2 n3
  have h0 : ((⟨#[114, 97, 109, 112]⟩ : ByteArray).toList == [116, 111, 110]) = false := str_ne (by decide)
  have h1 : ((⟨#[114, 97, 109, 112]⟩ : ByteArray).toList == [116, 111, 102]) = false := str_ne (by decide)
  have h2 : ((⟨#[114, 97, 109, 112]⟩ : ByteArray).toList == [116, 112]) = false := str_ne (by decide)
  have h3 : ((⟨#[114, 97, 109, 112]⟩ : ByteArray).toList == [99, 116, 117]) = false := str_ne (by decide)
  have h4 : ((⟨#[114, 97, 109, 112]⟩ : ByteArray).toList == [99, 116, 100]) = false := str_ne (by decide)
  have h5 : ((⟨#[114, 97, 109, 112]⟩ : ByteArray).toList == [99, 116, 117, 100]) = false := str_ne (by decide)
  have h6 : ((⟨#[114, 97, 109, 112]⟩ : ByteArray).toList == [114, 95, 116, 114, 105, 103]) = false := str_ne (by decide)
  have h7 : ((⟨#[114, 97, 109, 112]⟩ : ByteArray).toList == [102, 95, 116, 114, 105, 103]) = false := str_ne (by decide)
  have h8 : ((⟨#[114, 97, 109, 112]⟩ : ByteArray).toList == [115, 114]) = false := str_ne (by decide)
  have h9 : ((⟨#[114, 97, 109, 112]⟩ : ByteArray).toList == [114, 115]) = false := str_ne (by decide)
  have h10 : ((⟨#[114, 97, 109, 112]⟩ : ByteArray).toList == [114, 97, 109, 112]) = true := str_eq rfl
  have h11 : ((⟨#[114, 97, 109, 112]⟩ : ByteArray).toList == [104, 121, 115, 116]) = false := str_ne (by decide)
  go_enter Tryd.func34, Tryd.ntmps34
  go_wp2_with (go_at_call 42; refine (pin_any _ _ _).mono ?_; rintro e w1 ⟨rfl, rfl⟩; dsimp only)
  refine bodyPost_ret (v := .tuple #[.agg #[.slice (some ⟨w.heap.size + 1 + 1 + 1 + 1, 0, none⟩) 2 2, .slice (some ⟨w.heap.size + 1 + 1 + 1 + 1 + 1 + 1, 0, none⟩) 1 1, .slice (some ⟨w.heap.size + 1 + 1 + 1 + 1 + 1 + 1 + 1 + 1, 0, none⟩) 1 1], .bool true]) ?_ rfl ?_
  · simp [results, Tryd.results34, go_sem]
  · have M := ((((((((((Mem.start w).alloc 78 #[.slice (some ⟨w.heap.size + 1 + 1 + 1 + 1, 0, none⟩) 2 2, .slice (some ⟨w.heap.size + 1 + 1 + 1 + 1 + 1 + 1, 0, none⟩) 1 1, .slice (some ⟨w.heap.size + 1 + 1 + 1 + 1 + 1 + 1 + 1 + 1, 0, none⟩) 1 1]).alloc 78 #[.slice (some ⟨w.heap.size + 1 + 1 + 1 + 1, 0, none⟩) 2 2, .slice (some ⟨w.heap.size + 1 + 1 + 1 + 1 + 1 + 1, 0, none⟩) 1 1, .slice (some ⟨w.heap.size + 1 + 1 + 1 + 1 + 1 + 1 + 1 + 1, 0, none⟩) 1 1]).alloc 89 #[.string ⟨#[120]⟩, .int .i64 2]).alloc 89 #[.string ⟨#[115, 116, 101, 112]⟩, .int .i64 2]).alloc 89 #[.string ⟨#[120]⟩, .int .i64 2, .string ⟨#[115, 116, 101, 112]⟩, .int .i64 2]).alloc 89 #[.string ⟨#[121]⟩, .int .i64 2]).alloc 89 #[.string ⟨#[121]⟩, .int .i64 2]).alloc 89 #[.string ⟨#[97, 116]⟩, .int .i64 2]).alloc 89 #[.string ⟨#[97, 116]⟩, .int .i64 2])
    simp only [World.size_alloc] at M
    exact ⟨_, _, _, _, rfl, ((M.upK 0 rfl).upK 2 rfl).upK 4 rfl⟩

set_option maxRecDepth 100000 in
set_option maxHeartbeats 3200000 in
theorem ref_hyst (w : World) : RefShape b_hyst w := by
  unfold RefShape
  have e1 : pinV (pinsL b_hyst.ins) = [.string ⟨#[120]⟩, .int .i64 2, .string ⟨#[104, 105]⟩, .int .i64 2, .string ⟨#[108, 111]⟩, .int .i64 2] := by kernel_rfl
  have e2 : pinV (pinsL b_hyst.outs) = [.string ⟨#[113]⟩, .int .i64 1] := by kernel_rfl
  have e3 : pinV (pinsL b_hyst.st) = [.string ⟨#[111, 110]⟩, .int .i64 1] := by kernel_rfl
  have n1 : (pinsL b_hyst.ins).length = 3 := by kernel_rfl
  have n2 : (pinsL b_hyst.outs).length = 1 := by kernel_rfl
  have n3 : (pinsL b_hyst.st).length = 1 := by kernel_rfl
  simp only [pinB]
  rw [e1, e2, e3, n1, n2, n3]
  show Calls Tryd.prog 34 #[.string ⟨#[104, 121, 115, 116]⟩] w _
  clear e1 e2 e3 n1 n2 n3
  have h0 : ((⟨#[104, 121, 115, 116]⟩ : ByteArray).toList == [116, 111, 110]) = false := str_ne (by decide)
  have h1 : ((⟨#[104, 121, 115, 116]⟩ : ByteArray).toList == [116, 111, 102]) = false := str_ne (by decide)
  have h2 : ((⟨#[104, 121, 115, 116]⟩ : ByteArray).toList == [116, 112]) = false := str_ne (by decide)
  have h3 : ((⟨#[104, 121, 115, 116]⟩ : ByteArray).toList == [99, 116, 117]) = false := str_ne (by decide)
  have h4 : ((⟨#[104, 121, 115, 116]⟩ : ByteArray).toList == [99, 116, 100]) = false := str_ne (by decide)
  have h5 : ((⟨#[104, 121, 115, 116]⟩ : ByteArray).toList == [99, 116, 117, 100]) = false := str_ne (by decide)
  have h6 : ((⟨#[104, 121, 115, 116]⟩ : ByteArray).toList == [114, 95, 116, 114, 105, 103]) = false := str_ne (by decide)
  have h7 : ((⟨#[104, 121, 115, 116]⟩ : ByteArray).toList == [102, 95, 116, 114, 105, 103]) = false := str_ne (by decide)
  have h8 : ((⟨#[104, 121, 115, 116]⟩ : ByteArray).toList == [115, 114]) = false := str_ne (by decide)
  have h9 : ((⟨#[104, 121, 115, 116]⟩ : ByteArray).toList == [114, 115]) = false := str_ne (by decide)
  have h10 : ((⟨#[104, 121, 115, 116]⟩ : ByteArray).toList == [114, 97, 109, 112]) = false := str_ne (by decide)
  have h11 : ((⟨#[104, 121, 115, 116]⟩ : ByteArray).toList == [104, 121, 115, 116]) = true := str_eq rfl
  go_enter Tryd.func34, Tryd.ntmps34
  go_wp2_with (go_at_call 42; refine (pin_any _ _ _).mono ?_; rintro e w1 ⟨rfl, rfl⟩; dsimp only)
  refine bodyPost_ret (v := .tuple #[.agg #[.slice (some ⟨w.heap.size + 1 + 1 + 1 + 1 + 1, 0, none⟩) 3 3, .slice (some ⟨w.heap.size + 1 + 1 + 1 + 1 + 1 + 1 + 1, 0, none⟩) 1 1, .slice (some ⟨w.heap.size + 1 + 1 + 1 + 1 + 1 + 1 + 1 + 1 + 1, 0, none⟩) 1 1], .bool true]) ?_ rfl ?_
  · simp [results, Tryd.results34, go_sem]
  · have M := (((((((((((Mem.start w).alloc 78 #[.slice (some ⟨w.heap.size + 1 + 1 + 1 + 1 + 1, 0, none⟩) 3 3, .slice (some ⟨w.heap.size + 1 + 1 + 1 + 1 + 1 + 1 + 1, 0, none⟩) 1 1, .slice (some ⟨w.heap.size + 1 + 1 + 1 + 1 + 1 + 1 + 1 + 1 + 1, 0, none⟩) 1 1]).alloc 78 #[.slice (some ⟨w.heap.size + 1 + 1 + 1 + 1 + 1, 0, none⟩) 3 3, .slice (some ⟨w.heap.size + 1 + 1 + 1 + 1 + 1 + 1 + 1, 0, none⟩) 1 1, .slice (some ⟨w.heap.size + 1 + 1 + 1 + 1 + 1 + 1 + 1 + 1 + 1, 0, none⟩) 1 1]).alloc 89 #[.string ⟨#[120]⟩, .int .i64 2]).alloc 89 #[.string ⟨#[104, 105]⟩, .int .i64 2]).alloc 89 #[.string ⟨#[108, 111]⟩, .int .i64 2]).alloc 89 #[.string ⟨#[120]⟩, .int .i64 2, .string ⟨#[104, 105]⟩, .int .i64 2, .string ⟨#[108, 111]⟩, .int .i64 2]).alloc 89 #[.string ⟨#[113]⟩, .int .i64 1]).alloc 89 #[.string ⟨#[113]⟩, .int .i64 1]).alloc 89 #[.string ⟨#[111, 110]⟩, .int .i64 1]).alloc 89 #[.string ⟨#[111, 110]⟩, .int .i64 1])
    simp only [World.size_alloc] at M
    exact ⟨_, _, _, _, rfl, ((M.upK 0 rfl).upK 2 rfl).upK 4 rfl⟩

theorem ref_known {b : BT} (h : b ∈ bts) (w : World) : RefShape b w := by
  simp only [bts, List.mem_cons, List.mem_nil_iff, or_false] at h
  rcases h with rfl | rfl | rfl | rfl | rfl | rfl | rfl | rfl | rfl | rfl | rfl | rfl
  · exact ref_ton w
  · exact ref_tof w
  · exact ref_tp w
  · exact ref_ctu w
  · exact ref_ctd w
  · exact ref_ctud w
  · exact ref_rtrig w
  · exact ref_ftrig w
  · exact ref_sr w
  · exact ref_rs w
  · exact ref_ramp w
  · exact ref_hyst w

theorem none_keys {s : ByteArray} (h : ∀ b ∈ bts, ¬ s = b.nm) : ∀ l : List UInt8, (∃ b ∈ bts, b.nm.data.toList = l) → (s.toList == l) = false := by
  rintro l ⟨b, hb, hl⟩
  refine str_ne fun e => h b hb ?_
  have e2 : s.data = b.nm.data := by
    rw [← hl] at e
    exact Array.toList_inj.1 e
  cases s
  cases hn : b.nm
  rw [hn] at e2
  simp only at e2
  rw [e2]
set_option maxRecDepth 100000 in
set_option maxHeartbeats 3200000 in
theorem ref_none {s : ByteArray} (h : ∀ b ∈ bts, ¬ s = b.nm) (w : World) : Calls Tryd.prog 34 #[.string s] w fun e w' => e = .returned (.tuple #[.agg #[.slice none 0 0, .slice none 0 0, .slice none 0 0], .bool false]) ∧ Below w.heap.size w w' := by
  have key := none_keys h
  have h0 := key [116, 111, 110] ⟨b_ton, by simp [bts], rfl⟩
  have h1 := key [116, 111, 102] ⟨b_tof, by simp [bts], rfl⟩
  have h2 := key [116, 112] ⟨b_tp, by simp [bts], rfl⟩
  have h3 := key [99, 116, 117] ⟨b_ctu, by simp [bts], rfl⟩
  have h4 := key [99, 116, 100] ⟨b_ctd, by simp [bts], rfl⟩
  have h5 := key [99, 116, 117, 100] ⟨b_ctud, by simp [bts], rfl⟩
  have h6 := key [114, 95, 116, 114, 105, 103] ⟨b_rtrig, by simp [bts], rfl⟩
  have h7 := key [102, 95, 116, 114, 105, 103] ⟨b_ftrig, by simp [bts], rfl⟩
  have h8 := key [115, 114] ⟨b_sr, by simp [bts], rfl⟩
  have h9 := key [114, 115] ⟨b_rs, by simp [bts], rfl⟩
  have h10 := key [114, 97, 109, 112] ⟨b_ramp, by simp [bts], rfl⟩
  have h11 := key [104, 121, 115, 116] ⟨b_hyst, by simp [bts], rfl⟩
  clear key h
  go_enter Tryd.func34, Tryd.ntmps34
  go_wp2
  refine bodyPost_ret (v := .tuple #[.agg #[.slice none 0 0, .slice none 0 0, .slice none 0 0], .bool false]) ?_ rfl ?_
  · simp [results, Tryd.results34, go_sem]
  · exact ⟨rfl, (((Mem.start w).alloc 78 #[.slice none 0 0, .slice none 0 0, .slice none 0 0]).alloc 78 #[.slice none 0 0, .slice none 0 0, .slice none 0 0]).bel⟩
set_option maxRecDepth 100000 in
set_option maxHeartbeats 3200000 in
theorem shape_none {s : ByteArray} (h : ∀ b ∈ bts, ¬ s = b.nm) (w : World) : Calls Tryd.prog 48 #[.string s] w fun e w' => e = .returned (.tuple #[.agg #[.slice none 0 0, .slice none 0 0, .slice none 0 0], .bool false]) ∧ Below w.heap.size w w' := by
  have HN := Lib.hid (fun w => made_none h w)
  clear h
  go_enter Tryd.func48, Tryd.ntmps48
  go_wp2_with fail
  refine (HN.out _).mono ?_
  rintro e w1 ⟨rfl, rfl⟩
  dsimp only
  go_wp2
  refine bodyPost_ret (v := .tuple #[.agg #[.slice none 0 0, .slice none 0 0, .slice none 0 0], .bool false]) ?_ rfl ?_
  · simp [results, Tryd.results48, go_sem]
  · exact ⟨rfl, (((Mem.start w).alloc 78 #[.slice none 0 0, .slice none 0 0, .slice none 0 0]).alloc 95 #[.string ByteArray.empty, .string ByteArray.empty, .string ByteArray.empty]).alloc 95 #[.string ByteArray.empty, .string ByteArray.empty, .string ByteArray.empty] |>.bel⟩

end Go.Proofs.YtiogcbckhaknmaaDoor.Blk
