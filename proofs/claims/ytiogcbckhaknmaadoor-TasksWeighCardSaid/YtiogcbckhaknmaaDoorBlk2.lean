/-
  The table of blocks as the program lays it: plain; made's walk: of any name. No conditions.
-/
import Derived.Test.YtiogcbckhaknmaaDoorBlk1
namespace Go.Proofs.YtiogcbckhaknmaaDoor.Blk
open Go.RowKit Go.Proofs.YtiogcbckhaknmaaDoor.W Go.Proofs.YtiogcbckhaknmaaDoor.Ints

/-- a block: its name, its pins' texts, its types, the cells of a new one -/
structure BT where
  nm : ByteArray
  ins : ByteArray
  outs : ByteArray
  st : ByteArray
  tp : TypeId
  bx : TypeId
  cs : Array Value

def b_ton : BT := ⟨⟨#[116, 111, 110]⟩, ⟨#[105, 110, 32, 66, 111, 111, 108, 44, 32, 112, 116, 32, 84, 105, 109, 101]⟩, ⟨#[113, 32, 66, 111, 111, 108, 44, 32, 101, 116, 32, 84, 105, 109, 101]⟩, ⟨#[114, 117, 110, 32, 66, 111, 111, 108, 44, 32, 115, 105, 110, 99, 101, 32, 84, 105, 109, 101, 44, 32, 100, 111, 110, 101, 32, 66, 111, 111, 108, 44, 32, 97, 116, 32, 84, 105, 109, 101]⟩, 100, 104, #[.int .i64 0, .int .i64 0, .int .i64 0, .int .i64 0]⟩
def b_tof : BT := ⟨⟨#[116, 111, 102]⟩, ⟨#[105, 110, 32, 66, 111, 111, 108, 44, 32, 112, 116, 32, 84, 105, 109, 101]⟩, ⟨#[113, 32, 66, 111, 111, 108, 44, 32, 101, 116, 32, 84, 105, 109, 101]⟩, ⟨#[114, 117, 110, 32, 66, 111, 111, 108, 44, 32, 115, 105, 110, 99, 101, 32, 84, 105, 109, 101, 44, 32, 111, 110, 32, 66, 111, 111, 108, 44, 32, 97, 116, 32, 84, 105, 109, 101]⟩, 105, 106, #[.int .i64 0, .int .i64 0, .int .i64 0, .int .i64 0]⟩
def b_tp : BT := ⟨⟨#[116, 112]⟩, ⟨#[105, 110, 32, 66, 111, 111, 108, 44, 32, 112, 116, 32, 84, 105, 109, 101]⟩, ⟨#[113, 32, 66, 111, 111, 108, 44, 32, 101, 116, 32, 84, 105, 109, 101]⟩, ⟨#[114, 117, 110, 32, 66, 111, 111, 108, 44, 32, 115, 105, 110, 99, 101, 32, 84, 105, 109, 101, 44, 32, 112, 114, 101, 118, 32, 66, 111, 111, 108, 44, 32, 97, 116, 32, 84, 105, 109, 101]⟩, 107, 108, #[.int .i64 0, .int .i64 0, .int .i64 0, .int .i64 0]⟩
def b_ctu : BT := ⟨⟨#[99, 116, 117]⟩, ⟨#[99, 117, 32, 66, 111, 111, 108, 44, 32, 114, 32, 66, 111, 111, 108, 44, 32, 112, 118, 32, 73, 110, 116]⟩, ⟨#[113, 32, 66, 111, 111, 108, 44, 32, 99, 118, 32, 73, 110, 116]⟩, ⟨#[112, 114, 101, 118, 32, 66, 111, 111, 108, 44, 32, 99, 111, 117, 110, 116, 32, 73, 110, 116]⟩, 109, 111, #[.bool true, .int .i64 0, .int .i64 0]⟩
def b_ctd : BT := ⟨⟨#[99, 116, 100]⟩, ⟨#[99, 100, 32, 66, 111, 111, 108, 44, 32, 108, 100, 32, 66, 111, 111, 108, 44, 32, 112, 118, 32, 73, 110, 116]⟩, ⟨#[113, 32, 66, 111, 111, 108, 44, 32, 99, 118, 32, 73, 110, 116]⟩, ⟨#[112, 114, 101, 118, 32, 66, 111, 111, 108, 44, 32, 99, 111, 117, 110, 116, 32, 73, 110, 116]⟩, 109, 111, #[.bool false, .int .i64 0, .int .i64 0]⟩
def b_ctud : BT := ⟨⟨#[99, 116, 117, 100]⟩, ⟨#[99, 117, 32, 66, 111, 111, 108, 44, 32, 99, 100, 32, 66, 111, 111, 108, 44, 32, 114, 32, 66, 111, 111, 108, 44, 32, 108, 100, 32, 66, 111, 111, 108, 44, 32, 112, 118, 32, 73, 110, 116]⟩, ⟨#[113, 117, 32, 66, 111, 111, 108, 44, 32, 113, 100, 32, 66, 111, 111, 108, 44, 32, 99, 118, 32, 73, 110, 116]⟩, ⟨#[117, 112, 32, 66, 111, 111, 108, 44, 32, 100, 111, 119, 110, 32, 66, 111, 111, 108, 44, 32, 99, 111, 117, 110, 116, 32, 73, 110, 116]⟩, 112, 114, #[.slice none 0 0]⟩
def b_rtrig : BT := ⟨⟨#[114, 95, 116, 114, 105, 103]⟩, ⟨#[99, 108, 107, 32, 66, 111, 111, 108]⟩, ⟨#[113, 32, 66, 111, 111, 108]⟩, ⟨#[112, 114, 101, 118, 32, 66, 111, 111, 108]⟩, 115, 119, #[.int .i64 0, .bool true]⟩
def b_ftrig : BT := ⟨⟨#[102, 95, 116, 114, 105, 103]⟩, ⟨#[99, 108, 107, 32, 66, 111, 111, 108]⟩, ⟨#[113, 32, 66, 111, 111, 108]⟩, ⟨#[112, 114, 101, 118, 32, 66, 111, 111, 108]⟩, 115, 119, #[.int .i64 0, .bool false]⟩
def b_sr : BT := ⟨⟨#[115, 114]⟩, ⟨#[115, 49, 32, 66, 111, 111, 108, 44, 32, 114, 32, 66, 111, 111, 108]⟩, ⟨#[113, 49, 32, 66, 111, 111, 108]⟩, ⟨#[111, 110, 32, 66, 111, 111, 108]⟩, 120, 122, #[.int .i64 0, .bool false]⟩
def b_rs : BT := ⟨⟨#[114, 115]⟩, ⟨#[115, 32, 66, 111, 111, 108, 44, 32, 114, 49, 32, 66, 111, 111, 108]⟩, ⟨#[113, 49, 32, 66, 111, 111, 108]⟩, ⟨#[111, 110, 32, 66, 111, 111, 108]⟩, 120, 122, #[.int .i64 0, .bool true]⟩
def b_ramp : BT := ⟨⟨#[114, 97, 109, 112]⟩, ⟨#[120, 32, 73, 110, 116, 44, 32, 115, 116, 101, 112, 32, 73, 110, 116]⟩, ⟨#[121, 32, 73, 110, 116]⟩, ⟨#[97, 116, 32, 73, 110, 116]⟩, 123, 125, #[.int .i64 0]⟩
def b_hyst : BT := ⟨⟨#[104, 121, 115, 116]⟩, ⟨#[120, 32, 73, 110, 116, 44, 32, 104, 105, 32, 73, 110, 116, 44, 32, 108, 111, 32, 73, 110, 116]⟩, ⟨#[113, 32, 66, 111, 111, 108]⟩, ⟨#[111, 110, 32, 66, 111, 111, 108]⟩, 126, 127, #[.int .i64 0]⟩
def bts : List BT := [b_ton, b_tof, b_tp, b_ctu, b_ctd, b_ctud, b_rtrig, b_ftrig, b_sr, b_rs, b_ramp, b_hyst]
theorem bts_ok : bts.all (fun b => pinOkB b.ins && pinOkB b.outs && pinOkB b.st) = true := by kernel_rfl
def strs (b : BT) : Array Value := #[.string b.ins, .string b.outs, .string b.st]
/-- what made does at a name of the table -/
def Made (b : BT) (w : World) : Prop := Calls Tryd.prog 51 #[.string b.nm] w fun e w' => e = .returned (.tuple #[.iface b.tp (.pointer (some ⟨w.heap.size + 1, 0, none⟩)), .agg (strs b)]) ∧ w' = (w.alloc (.cells (strs b) 95)).alloc (.cells b.cs b.bx)

set_option maxRecDepth 100000 in
set_option maxHeartbeats 3200000 in
theorem made_ton (w : World) : Made b_ton w := by
  unfold Made
  show Calls Tryd.prog 51 #[.string ⟨#[116, 111, 110]⟩] w _
  go_enter Tryd.func51, Tryd.ntmps51
  go_wp2
  refine bodyPost_ret (v := .tuple #[.iface 100 (.pointer (some ⟨w.heap.size + 1, 0, none⟩)), .agg (strs b_ton)]) ?_ rfl ?_
  · simp [results, Tryd.results51, go_sem, strs, b_ton]
  · exact ⟨rfl, rfl⟩

set_option maxRecDepth 100000 in
set_option maxHeartbeats 3200000 in
theorem made_tof (w : World) : Made b_tof w := by
  unfold Made
  show Calls Tryd.prog 51 #[.string ⟨#[116, 111, 102]⟩] w _
  go_enter Tryd.func51, Tryd.ntmps51
  go_wp2
  refine bodyPost_ret (v := .tuple #[.iface 105 (.pointer (some ⟨w.heap.size + 1, 0, none⟩)), .agg (strs b_tof)]) ?_ rfl ?_
  · simp [results, Tryd.results51, go_sem, strs, b_tof]
  · exact ⟨rfl, rfl⟩

set_option maxRecDepth 100000 in
set_option maxHeartbeats 3200000 in
theorem made_tp (w : World) : Made b_tp w := by
  unfold Made
  show Calls Tryd.prog 51 #[.string ⟨#[116, 112]⟩] w _
  go_enter Tryd.func51, Tryd.ntmps51
  go_wp2
  refine bodyPost_ret (v := .tuple #[.iface 107 (.pointer (some ⟨w.heap.size + 1, 0, none⟩)), .agg (strs b_tp)]) ?_ rfl ?_
  · simp [results, Tryd.results51, go_sem, strs, b_tp]
  · exact ⟨rfl, rfl⟩

set_option maxRecDepth 100000 in
set_option maxHeartbeats 3200000 in
theorem made_ctu (w : World) : Made b_ctu w := by
  unfold Made
  show Calls Tryd.prog 51 #[.string ⟨#[99, 116, 117]⟩] w _
  go_enter Tryd.func51, Tryd.ntmps51
  go_wp2
  refine bodyPost_ret (v := .tuple #[.iface 109 (.pointer (some ⟨w.heap.size + 1, 0, none⟩)), .agg (strs b_ctu)]) ?_ rfl ?_
  · simp [results, Tryd.results51, go_sem, strs, b_ctu]
  · exact ⟨rfl, rfl⟩

set_option maxRecDepth 100000 in
set_option maxHeartbeats 3200000 in
theorem made_ctd (w : World) : Made b_ctd w := by
  unfold Made
  show Calls Tryd.prog 51 #[.string ⟨#[99, 116, 100]⟩] w _
  go_enter Tryd.func51, Tryd.ntmps51
  go_wp2
  refine bodyPost_ret (v := .tuple #[.iface 109 (.pointer (some ⟨w.heap.size + 1, 0, none⟩)), .agg (strs b_ctd)]) ?_ rfl ?_
  · simp [results, Tryd.results51, go_sem, strs, b_ctd]
  · exact ⟨rfl, rfl⟩

set_option maxRecDepth 100000 in
set_option maxHeartbeats 3200000 in
theorem made_ctud (w : World) : Made b_ctud w := by
  unfold Made
  show Calls Tryd.prog 51 #[.string ⟨#[99, 116, 117, 100]⟩] w _
  go_enter Tryd.func51, Tryd.ntmps51
  go_wp2
  refine bodyPost_ret (v := .tuple #[.iface 112 (.pointer (some ⟨w.heap.size + 1, 0, none⟩)), .agg (strs b_ctud)]) ?_ rfl ?_
  · simp [results, Tryd.results51, go_sem, strs, b_ctud]
  · exact ⟨rfl, rfl⟩

set_option maxRecDepth 100000 in
set_option maxHeartbeats 3200000 in
theorem made_rtrig (w : World) : Made b_rtrig w := by
  unfold Made
  show Calls Tryd.prog 51 #[.string ⟨#[114, 95, 116, 114, 105, 103]⟩] w _
  go_enter Tryd.func51, Tryd.ntmps51
  go_wp2
  refine bodyPost_ret (v := .tuple #[.iface 115 (.pointer (some ⟨w.heap.size + 1, 0, none⟩)), .agg (strs b_rtrig)]) ?_ rfl ?_
  · simp [results, Tryd.results51, go_sem, strs, b_rtrig]
  · exact ⟨rfl, rfl⟩

set_option maxRecDepth 100000 in
set_option maxHeartbeats 3200000 in
theorem made_ftrig (w : World) : Made b_ftrig w := by
  unfold Made
  show Calls Tryd.prog 51 #[.string ⟨#[102, 95, 116, 114, 105, 103]⟩] w _
  go_enter Tryd.func51, Tryd.ntmps51
  go_wp2
  refine bodyPost_ret (v := .tuple #[.iface 115 (.pointer (some ⟨w.heap.size + 1, 0, none⟩)), .agg (strs b_ftrig)]) ?_ rfl ?_
  · simp [results, Tryd.results51, go_sem, strs, b_ftrig]
  · exact ⟨rfl, rfl⟩

set_option maxRecDepth 100000 in
set_option maxHeartbeats 3200000 in
theorem made_sr (w : World) : Made b_sr w := by
  unfold Made
  show Calls Tryd.prog 51 #[.string ⟨#[115, 114]⟩] w _
  go_enter Tryd.func51, Tryd.ntmps51
  go_wp2
  refine bodyPost_ret (v := .tuple #[.iface 120 (.pointer (some ⟨w.heap.size + 1, 0, none⟩)), .agg (strs b_sr)]) ?_ rfl ?_
  · simp [results, Tryd.results51, go_sem, strs, b_sr]
  · exact ⟨rfl, rfl⟩

set_option maxRecDepth 100000 in
set_option maxHeartbeats 3200000 in
theorem made_rs (w : World) : Made b_rs w := by
  unfold Made
  show Calls Tryd.prog 51 #[.string ⟨#[114, 115]⟩] w _
  go_enter Tryd.func51, Tryd.ntmps51
  go_wp2
  refine bodyPost_ret (v := .tuple #[.iface 120 (.pointer (some ⟨w.heap.size + 1, 0, none⟩)), .agg (strs b_rs)]) ?_ rfl ?_
  · simp [results, Tryd.results51, go_sem, strs, b_rs]
  · exact ⟨rfl, rfl⟩

set_option maxRecDepth 100000 in
set_option maxHeartbeats 3200000 in
theorem made_ramp (w : World) : Made b_ramp w := by
  unfold Made
  show Calls Tryd.prog 51 #[.string ⟨#[114, 97, 109, 112]⟩] w _
  go_enter Tryd.func51, Tryd.ntmps51
  go_wp2
  refine bodyPost_ret (v := .tuple #[.iface 123 (.pointer (some ⟨w.heap.size + 1, 0, none⟩)), .agg (strs b_ramp)]) ?_ rfl ?_
  · simp [results, Tryd.results51, go_sem, strs, b_ramp]
  · exact ⟨rfl, rfl⟩

set_option maxRecDepth 100000 in
set_option maxHeartbeats 3200000 in
theorem made_hyst (w : World) : Made b_hyst w := by
  unfold Made
  show Calls Tryd.prog 51 #[.string ⟨#[104, 121, 115, 116]⟩] w _
  go_enter Tryd.func51, Tryd.ntmps51
  go_wp2
  refine bodyPost_ret (v := .tuple #[.iface 126 (.pointer (some ⟨w.heap.size + 1, 0, none⟩)), .agg (strs b_hyst)]) ?_ rfl ?_
  · simp [results, Tryd.results51, go_sem, strs, b_hyst]
  · exact ⟨rfl, rfl⟩

theorem made_known {b : BT} (h : b ∈ bts) (w : World) : Made b w := by
  simp only [bts, List.mem_cons, List.mem_nil_iff, or_false] at h
  rcases h with rfl | rfl | rfl | rfl | rfl | rfl | rfl | rfl | rfl | rfl | rfl | rfl
  · exact made_ton w
  · exact made_tof w
  · exact made_tp w
  · exact made_ctu w
  · exact made_ctd w
  · exact made_ctud w
  · exact made_rtrig w
  · exact made_ftrig w
  · exact made_sr w
  · exact made_rs w
  · exact made_ramp w
  · exact made_hyst w

set_option maxRecDepth 100000 in
set_option maxHeartbeats 3200000 in
theorem made_none {s : ByteArray} (h : ∀ b ∈ bts, ¬ s = b.nm) (w : World) : Calls Tryd.prog 51 #[.string s] w fun e w' => e = .returned (.tuple #[.nilIface, .agg #[.string ByteArray.empty, .string ByteArray.empty, .string ByteArray.empty]]) ∧ w' = w.alloc (.cells #[.string ByteArray.empty, .string ByteArray.empty, .string ByteArray.empty] 95) := by
  have key : ∀ l : List UInt8, (∃ b ∈ bts, b.nm.data.toList = l) → (s.toList == l) = false := by
    rintro l ⟨b, hb, hl⟩
    refine str_ne fun e => h b hb ?_
    have e2 : s.data = b.nm.data := by
      rw [← hl] at e
      exact Array.toList_inj.1 e
    cases s
    cases hn : b.nm
    rw [hn] at e2
    simp only at e2
    rw [e2]
  have h0 := key [116, 111, 110] ⟨b_ton, by simp [bts], rfl⟩
  have h1 := key [116, 111, 102] ⟨b_tof, by simp [bts], rfl⟩
  have h2 := key [116, 112] ⟨b_tp, by simp [bts], rfl⟩
  have h3 := key [99, 116, 117] ⟨b_ctu, by simp [bts], rfl⟩
  have h4 := key [99, 116, 100] ⟨b_ctd, by simp [bts], rfl⟩
  have h5 := key [99, 116, 117, 100] ⟨b_ctud, by simp [bts], rfl⟩
  have h6 := key [114, 95, 116, 114, 105, 103] ⟨b_rtrig, by simp [bts], rfl⟩
  have h7 := key [102, 95, 116, 114, 105, 103] ⟨b_ftrig, by simp [bts], rfl⟩
  have h8 := key [115, 114] ⟨b_sr, by simp [bts], rfl⟩
  have h9 := key [114, 115] ⟨b_rs, by simp [bts], rfl⟩
  have h10 := key [114, 97, 109, 112] ⟨b_ramp, by simp [bts], rfl⟩
  have h11 := key [104, 121, 115, 116] ⟨b_hyst, by simp [bts], rfl⟩
  clear key h
  go_enter Tryd.func51, Tryd.ntmps51
  go_wp2
  refine bodyPost_ret (v := .tuple #[.nilIface, .agg #[.string ByteArray.empty, .string ByteArray.empty, .string ByteArray.empty]]) ?_ rfl ?_
  · simp [results, Tryd.results51, go_sem]
    rfl
  · exact ⟨rfl, rfl⟩
end Go.Proofs.YtiogcbckhaknmaaDoor.Blk
