/- A part of the proof of statements of this seat: lemmas, no statement of their own. -/
import Derived.Test.YtcmbgfmbmbgbiaaYbLabE
import Derived.Test.YtcmbgfmbmbgbiaaYbOpenL
import Derived.Test.YtcmbgfmbmbgbiaaYbEven3
set_option linter.unusedVariables false
set_option linter.unusedSimpArgs false
namespace Go.Q.Yb
theorem LChooses_all {q : S_api_Selector} {s : S_api_Series} {k : Bool → Heap → Prop} {h : Heap} (oq : Ok_S_api_Selector h q) (os : Ok_S_api_Series h s) (H : ∀ h', Ext h.size h h' → k true h') : law15_LabelChooses q s k h := by
  obtain ⟨_, _, _, ys, Ly, oy⟩ := oq
  obtain ⟨_, _, _, zs, Lz, oz⟩ := os
  have e1 : (ys.map fun y => ((U y.f_Name, y.f_Sign, U y.f_Value) : QU)).map qst = ys := by
    rw [List.map_map]; exact (List.map_congr_left fun y _ => qst_U y).trans (List.map_id' _)
  have e2 : (zs.map fun y => ((U y.f_Name, U y.f_Value) : LU)).map lst = zs := by
    rw [List.map_map]; exact (List.map_congr_left fun y _ => lst_U y).trans (List.map_id' _)
  have := LChooses_ok (qn := U q.f_Name) (sn := U s.f_Name) (sq := q.f_L) (s := s.f_Labels) (k := k) (h := h) (by rw [e1]; exact Ly) (by rw [e2]; exact Lz) (fun x hx => by
    obtain ⟨y, hy, rfl⟩ := List.mem_map.1 hx
    obtain ⟨o1, o2⟩ := oz y hy
    have : maxLen = 9223372036854775807 := rfl
    exact ⟨by rw [U_len]; omega, by rw [U_len]; omega⟩) H
  rw [ofL_U, ofL_U] at this
  exact this
end Go.Q.Yb
