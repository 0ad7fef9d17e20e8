/- The functions' table: its parts.  -/
import Derived.Test.YtngagongjejjhaaOwn
namespace Go.Proofs.Ytngagongjejjhaa
open Go.RowKit
set_option linter.unusedVariables false
set_option linter.unusedSimpArgs false

structure GRow where
  k : Int
  id : ByteArray
  lv : Int
  nm : ByteArray
def encG (r : GRow) : List Value := [.int .i64 r.k, .string r.id, .int .i64 r.lv, .string r.nm]
theorem encG_len (r : GRow) : (encG r).length = 4 := rfl
theorem encG_one (r : GRow) : ∀ u ∈ encG r, u.oneCell' = true := by
  intro u hu
  simp only [encG, List.mem_cons, List.not_mem_nil, or_false] at hu
  rcases hu with rfl | rfl | rfl | rfl <;> rfl
theorem grow_info : (Try.prog.info? 34).map (fun i => (i.zero, i.size, i.bytes)) = some (some (.agg #[.int .i64 0, .string ⟨#[]⟩, .int .i64 0, .string ⟨#[]⟩]), 4, 48) := by kernel_rfl
/-- rows of one's own, made behind a world -/
def NewG (l : List GRow) (w : World) (e : Ending) (w' : World) : Prop := ∃ A c, e = .returned (.slice A l.length c) ∧ Below w.heap.size w w' ∧ Own encG 4 34 w.heap.size w' (.slice A l.length c) l
theorem NewG.get {l : List GRow} {w w' : World} {e : Ending} (h : NewG l w e w') : ∃ A c x, e = .returned (.slice A l.length c) ∧ w' = ext w x ∧ Own encG 4 34 w.heap.size (ext w x) (.slice A l.length c) l := by
  obtain ⟨A, c, rfl, hB, hO⟩ := h
  obtain ⟨x, rfl⟩ := ext_of hB
  exact ⟨A, c, x, rfl, rfl, hO⟩
def controlsL : List GRow := [⟨2, ⟨#[7]⟩, 1, ⟨#[66, 69, 76]⟩⟩, ⟨2, ⟨#[5]⟩, 1, ⟨#[69, 78, 81]⟩⟩, ⟨2, ⟨#[8]⟩, 1, ⟨#[66, 83]⟩⟩, ⟨2, ⟨#[9]⟩, 1, ⟨#[72, 84]⟩⟩, ⟨2, ⟨#[10]⟩, 1, ⟨#[76, 70]⟩⟩, ⟨2, ⟨#[11]⟩, 1, ⟨#[86, 84]⟩⟩, ⟨2, ⟨#[12]⟩, 1, ⟨#[70, 70]⟩⟩, ⟨2, ⟨#[13]⟩, 1, ⟨#[67, 82]⟩⟩, ⟨2, ⟨#[14]⟩, 1, ⟨#[83, 79]⟩⟩, ⟨2, ⟨#[15]⟩, 1, ⟨#[83, 73]⟩⟩, ⟨2, ⟨#[26]⟩, 1, ⟨#[83, 85, 66]⟩⟩]
def escapesL : List GRow := [⟨3, ⟨#[68]⟩, 1, ⟨#[73, 78, 68]⟩⟩, ⟨3, ⟨#[69]⟩, 1, ⟨#[78, 69, 76]⟩⟩, ⟨3, ⟨#[72]⟩, 1, ⟨#[72, 84, 83]⟩⟩, ⟨3, ⟨#[77]⟩, 1, ⟨#[82, 73]⟩⟩, ⟨3, ⟨#[78]⟩, 2, ⟨#[83, 83, 50]⟩⟩, ⟨3, ⟨#[79]⟩, 2, ⟨#[83, 83, 51]⟩⟩, ⟨3, ⟨#[90]⟩, 1, ⟨#[68, 69, 67, 73, 68]⟩⟩, ⟨3, ⟨#[55]⟩, 1, ⟨#[68, 69, 67, 83, 67]⟩⟩, ⟨3, ⟨#[56]⟩, 1, ⟨#[68, 69, 67, 82, 67]⟩⟩, ⟨3, ⟨#[61]⟩, 1, ⟨#[68, 69, 67, 75, 80, 65, 77]⟩⟩, ⟨3, ⟨#[62]⟩, 1, ⟨#[68, 69, 67, 75, 80, 78, 77]⟩⟩, ⟨3, ⟨#[99]⟩, 1, ⟨#[82, 73, 83]⟩⟩, ⟨3, ⟨#[54]⟩, 4, ⟨#[68, 69, 67, 66, 73]⟩⟩, ⟨3, ⟨#[57]⟩, 4, ⟨#[68, 69, 67, 70, 73]⟩⟩, ⟨3, ⟨#[110]⟩, 2, ⟨#[76, 83, 50]⟩⟩, ⟨3, ⟨#[111]⟩, 2, ⟨#[76, 83, 51]⟩⟩, ⟨3, ⟨#[126]⟩, 2, ⟨#[76, 83, 49, 82]⟩⟩, ⟨3, ⟨#[125]⟩, 2, ⟨#[76, 83, 50, 82]⟩⟩, ⟨3, ⟨#[124]⟩, 2, ⟨#[76, 83, 51, 82]⟩⟩, ⟨3, ⟨#[35, 51]⟩, 1, ⟨#[68, 69, 67, 68, 72, 76, 84]⟩⟩, ⟨3, ⟨#[35, 52]⟩, 1, ⟨#[68, 69, 67, 68, 72, 76, 66]⟩⟩, ⟨3, ⟨#[35, 53]⟩, 1, ⟨#[68, 69, 67, 83, 87, 76]⟩⟩, ⟨3, ⟨#[35, 54]⟩, 1, ⟨#[68, 69, 67, 68, 87, 76]⟩⟩, ⟨3, ⟨#[35, 56]⟩, 1, ⟨#[68, 69, 67, 65, 76, 78]⟩⟩, ⟨3, ⟨#[32, 70]⟩, 2, ⟨#[83, 55, 67, 49, 84]⟩⟩, ⟨3, ⟨#[32, 71]⟩, 2, ⟨#[83, 56, 67, 49, 84]⟩⟩]
def movesL : List GRow := [⟨4, ⟨#[65]⟩, 1, ⟨#[67, 85, 85]⟩⟩, ⟨4, ⟨#[66]⟩, 1, ⟨#[67, 85, 68]⟩⟩, ⟨4, ⟨#[67]⟩, 1, ⟨#[67, 85, 70]⟩⟩, ⟨4, ⟨#[68]⟩, 1, ⟨#[67, 85, 66]⟩⟩, ⟨4, ⟨#[69]⟩, 5, ⟨#[67, 78, 76]⟩⟩, ⟨4, ⟨#[70]⟩, 5, ⟨#[67, 80, 76]⟩⟩, ⟨4, ⟨#[71]⟩, 5, ⟨#[67, 72, 65]⟩⟩, ⟨4, ⟨#[72]⟩, 1, ⟨#[67, 85, 80]⟩⟩, ⟨4, ⟨#[73]⟩, 5, ⟨#[67, 72, 84]⟩⟩, ⟨4, ⟨#[74]⟩, 1, ⟨#[69, 68]⟩⟩, ⟨4, ⟨#[75]⟩, 1, ⟨#[69, 76]⟩⟩, ⟨4, ⟨#[76]⟩, 1, ⟨#[73, 76]⟩⟩, ⟨4, ⟨#[77]⟩, 1, ⟨#[68, 76]⟩⟩, ⟨4, ⟨#[80]⟩, 1, ⟨#[68, 67, 72]⟩⟩, ⟨4, ⟨#[64]⟩, 2, ⟨#[73, 67, 72]⟩⟩, ⟨4, ⟨#[83]⟩, 2, ⟨#[83, 85]⟩⟩, ⟨4, ⟨#[84]⟩, 2, ⟨#[83, 68]⟩⟩, ⟨4, ⟨#[85]⟩, 3, ⟨#[78, 80]⟩⟩, ⟨4, ⟨#[86]⟩, 3, ⟨#[80, 80]⟩⟩, ⟨4, ⟨#[88]⟩, 2, ⟨#[69, 67, 72]⟩⟩, ⟨4, ⟨#[90]⟩, 5, ⟨#[67, 66, 84]⟩⟩, ⟨4, ⟨#[96]⟩, 5, ⟨#[72, 80, 65]⟩⟩, ⟨4, ⟨#[97]⟩, 5, ⟨#[72, 80, 82]⟩⟩, ⟨4, ⟨#[98]⟩, 5, ⟨#[82, 69, 80]⟩⟩, ⟨4, ⟨#[99]⟩, 1, ⟨#[68, 65, 49]⟩⟩, ⟨4, ⟨#[62, 99]⟩, 2, ⟨#[68, 65, 50]⟩⟩, ⟨4, ⟨#[61, 99]⟩, 4, ⟨#[68, 65, 51]⟩⟩, ⟨4, ⟨#[100]⟩, 5, ⟨#[86, 80, 65]⟩⟩, ⟨4, ⟨#[101]⟩, 5, ⟨#[86, 80, 82]⟩⟩, ⟨4, ⟨#[102]⟩, 1, ⟨#[72, 86, 80]⟩⟩, ⟨4, ⟨#[103]⟩, 1, ⟨#[84, 66, 67]⟩⟩, ⟨4, ⟨#[104]⟩, 1, ⟨#[83, 77]⟩⟩, ⟨4, ⟨#[108]⟩, 1, ⟨#[82, 77]⟩⟩, ⟨4, ⟨#[63, 104]⟩, 1, ⟨#[68, 69, 67, 83, 69, 84]⟩⟩, ⟨4, ⟨#[63, 108]⟩, 1, ⟨#[68, 69, 67, 82, 83, 84]⟩⟩]
def settingsL : List GRow := [⟨4, ⟨#[109]⟩, 1, ⟨#[83, 71, 82]⟩⟩, ⟨4, ⟨#[110]⟩, 1, ⟨#[68, 83, 82]⟩⟩, ⟨4, ⟨#[63, 110]⟩, 2, ⟨#[68, 69, 67, 68, 83, 82]⟩⟩, ⟨4, ⟨#[114]⟩, 1, ⟨#[68, 69, 67, 83, 84, 66, 77]⟩⟩, ⟨4, ⟨#[115]⟩, 4, ⟨#[68, 69, 67, 83, 76, 82, 77]⟩⟩, ⟨4, ⟨#[63, 74]⟩, 2, ⟨#[68, 69, 67, 83, 69, 68]⟩⟩, ⟨4, ⟨#[63, 75]⟩, 2, ⟨#[68, 69, 67, 83, 69, 76]⟩⟩, ⟨4, ⟨#[32, 64]⟩, 5, ⟨#[83, 76]⟩⟩, ⟨4, ⟨#[32, 65]⟩, 5, ⟨#[83, 82]⟩⟩, ⟨4, ⟨#[32, 80]⟩, 3, ⟨#[80, 80, 65]⟩⟩, ⟨4, ⟨#[32, 81]⟩, 3, ⟨#[80, 80, 82]⟩⟩, ⟨4, ⟨#[32, 82]⟩, 3, ⟨#[80, 80, 66]⟩⟩, ⟨4, ⟨#[33, 112]⟩, 2, ⟨#[68, 69, 67, 83, 84, 82]⟩⟩, ⟨4, ⟨#[34, 112]⟩, 1, ⟨#[68, 69, 67, 83, 67, 76]⟩⟩, ⟨4, ⟨#[34, 113]⟩, 2, ⟨#[68, 69, 67, 83, 67, 65]⟩⟩, ⟨4, ⟨#[36, 112]⟩, 3, ⟨#[82, 81, 77]⟩⟩, ⟨4, ⟨#[63, 36, 112]⟩, 3, ⟨#[68, 69, 67, 82, 81, 77]⟩⟩, ⟨4, ⟨#[36, 114]⟩, 4, ⟨#[68, 69, 67, 67, 65, 82, 65]⟩⟩, ⟨4, ⟨#[36, 116]⟩, 4, ⟨#[68, 69, 67, 82, 65, 82, 65]⟩⟩, ⟨4, ⟨#[36, 118]⟩, 4, ⟨#[68, 69, 67, 67, 82, 65]⟩⟩, ⟨4, ⟨#[36, 120]⟩, 4, ⟨#[68, 69, 67, 70, 82, 65]⟩⟩, ⟨4, ⟨#[36, 122]⟩, 4, ⟨#[68, 69, 67, 69, 82, 65]⟩⟩, ⟨4, ⟨#[36, 123]⟩, 4, ⟨#[68, 69, 67, 83, 69, 82, 65]⟩⟩, ⟨4, ⟨#[42, 120]⟩, 4, ⟨#[68, 69, 67, 83, 65, 67, 69]⟩⟩, ⟨4, ⟨#[42, 121]⟩, 4, ⟨#[68, 69, 67, 82, 81, 67, 82, 65]⟩⟩, ⟨4, ⟨#[42, 122]⟩, 4, ⟨#[68, 69, 67, 73, 78, 86, 77]⟩⟩, ⟨4, ⟨#[36, 119]⟩, 3, ⟨#[68, 69, 67, 82, 81, 80, 83, 82]⟩⟩, ⟨4, ⟨#[36, 117]⟩, 3, ⟨#[68, 69, 67, 82, 81, 84, 83, 82]⟩⟩, ⟨4, ⟨#[39, 125]⟩, 4, ⟨#[68, 69, 67, 73, 67]⟩⟩, ⟨4, ⟨#[39, 126]⟩, 4, ⟨#[68, 69, 67, 68, 67]⟩⟩, ⟨4, ⟨#[36, 126]⟩, 3, ⟨#[68, 69, 67, 83, 83, 68, 84]⟩⟩, ⟨4, ⟨#[36, 125]⟩, 3, ⟨#[68, 69, 67, 83, 65, 83, 68]⟩⟩, ⟨4, ⟨#[36, 124]⟩, 3, ⟨#[68, 69, 67, 83, 67, 80, 80]⟩⟩, ⟨4, ⟨#[116]⟩, 3, ⟨#[68, 69, 67, 83, 76, 80, 80]⟩⟩]
def textsL : List GRow := [⟨5, ⟨#[36, 113]⟩, 3, ⟨#[68, 69, 67, 82, 81, 83, 83]⟩⟩, ⟨5, ⟨#[33, 122]⟩, 4, ⟨#[68, 69, 67, 68, 77, 65, 67]⟩⟩, ⟨5, ⟨#[124]⟩, 2, ⟨#[68, 69, 67, 85, 68, 75]⟩⟩, ⟨5, ⟨#[36, 112]⟩, 3, ⟨#[68, 69, 67, 82, 83, 84, 83]⟩⟩, ⟨5, ⟨#[36, 116]⟩, 3, ⟨#[68, 69, 67, 82, 83, 80, 83]⟩⟩]
set_option maxRecDepth 100000 in
set_option maxHeartbeats 8000000 in
theorem controls_c (w : World) : Calls Try.prog 16 #[] w (NewG controlsL w) := by
  go_enter Try.func16, Try.ntmps16
  go_wp2
  go_returns
  exact ⟨_, _, rfl, by (repeat' (first | (with_reducible exact Below.refl _ _) | (with_reducible refine Below.alloc ?_ ?_ _) | (with_reducible refine below_ext ?_ ?_ _) | (with_reducible refine Below.drew ?_) | (with_reducible refine below_drewN ?_ _) | (with_reducible refine Below.setCell ?_ ?_ _) | go_size | (simp only [go_sem]; omega) | (simp [go_sem]; done) | (simp [go_sem]; omega))), Own.new encG_len rfl rfl _ rfl (Nat.le_refl _) (by simp [controlsL, maxLen])⟩
set_option maxRecDepth 100000 in
set_option maxHeartbeats 8000000 in
theorem escapes_c (w : World) : Calls Try.prog 17 #[] w (NewG escapesL w) := by
  go_enter Try.func17, Try.ntmps17
  go_wp2
  go_returns
  exact ⟨_, _, rfl, by (repeat' (first | (with_reducible exact Below.refl _ _) | (with_reducible refine Below.alloc ?_ ?_ _) | (with_reducible refine below_ext ?_ ?_ _) | (with_reducible refine Below.drew ?_) | (with_reducible refine below_drewN ?_ _) | (with_reducible refine Below.setCell ?_ ?_ _) | go_size | (simp only [go_sem]; omega) | (simp [go_sem]; done) | (simp [go_sem]; omega))), Own.new encG_len rfl rfl _ rfl (Nat.le_refl _) (by simp [escapesL, maxLen])⟩
set_option maxRecDepth 100000 in
set_option maxHeartbeats 8000000 in
theorem moves_c (w : World) : Calls Try.prog 18 #[] w (NewG movesL w) := by
  go_enter Try.func18, Try.ntmps18
  go_wp2
  go_returns
  exact ⟨_, _, rfl, by (repeat' (first | (with_reducible exact Below.refl _ _) | (with_reducible refine Below.alloc ?_ ?_ _) | (with_reducible refine below_ext ?_ ?_ _) | (with_reducible refine Below.drew ?_) | (with_reducible refine below_drewN ?_ _) | (with_reducible refine Below.setCell ?_ ?_ _) | go_size | (simp only [go_sem]; omega) | (simp [go_sem]; done) | (simp [go_sem]; omega))), Own.new encG_len rfl rfl _ rfl (Nat.le_refl _) (by simp [movesL, maxLen])⟩
set_option maxRecDepth 100000 in
set_option maxHeartbeats 8000000 in
theorem settings_c (w : World) : Calls Try.prog 19 #[] w (NewG settingsL w) := by
  go_enter Try.func19, Try.ntmps19
  go_wp2
  go_returns
  exact ⟨_, _, rfl, by (repeat' (first | (with_reducible exact Below.refl _ _) | (with_reducible refine Below.alloc ?_ ?_ _) | (with_reducible refine below_ext ?_ ?_ _) | (with_reducible refine Below.drew ?_) | (with_reducible refine below_drewN ?_ _) | (with_reducible refine Below.setCell ?_ ?_ _) | go_size | (simp only [go_sem]; omega) | (simp [go_sem]; done) | (simp [go_sem]; omega))), Own.new encG_len rfl rfl _ rfl (Nat.le_refl _) (by simp [settingsL, maxLen])⟩
set_option maxRecDepth 100000 in
set_option maxHeartbeats 8000000 in
theorem texts_c (w : World) : Calls Try.prog 20 #[] w (NewG textsL w) := by
  go_enter Try.func20, Try.ntmps20
  go_wp2
  go_returns
  exact ⟨_, _, rfl, by (repeat' (first | (with_reducible exact Below.refl _ _) | (with_reducible refine Below.alloc ?_ ?_ _) | (with_reducible refine below_ext ?_ ?_ _) | (with_reducible refine Below.drew ?_) | (with_reducible refine below_drewN ?_ _) | (with_reducible refine Below.setCell ?_ ?_ _) | go_size | (simp only [go_sem]; omega) | (simp [go_sem]; done) | (simp [go_sem]; omega))), Own.new encG_len rfl rfl _ rfl (Nat.le_refl _) (by simp [textsL, maxLen])⟩
end Go.Proofs.Ytngagongjejjhaa
