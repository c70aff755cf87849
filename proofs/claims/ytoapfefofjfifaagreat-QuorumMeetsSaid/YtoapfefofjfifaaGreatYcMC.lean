/- A part of the proof of statements of this seat: lemmas, no statement of their own. -/
import Derived.Test.YtoapfefofjfifaaGreatYcMB
set_option linter.unusedVariables false
set_option linter.unusedSimpArgs false
/- Quorum: two ops on one desk. -/
namespace Go.Q.Yc
theorem nodup_len : ∀ (l m : List Int), l.Nodup → (∀ x ∈ l, x ∈ m) → l.length ≤ m.length
  | [], m, _, _ => Nat.zero_le _
  | x :: l, m, nd, h => by
    have hx : x ∈ m := h x (by simp)
    have nx := (List.nodup_cons.1 nd).1
    have ih := nodup_len l (m.erase x) (List.nodup_cons.1 nd).2 fun y hy => (List.mem_erase_of_ne (fun e => by rw [e] at hy; exact nx hy)).2 (h y (by simp [hy]))
    have hl := List.length_erase_of_mem hx
    have hp : 0 < m.length := List.length_pos_of_mem hx
    rw [List.length_cons]; omega
def iot (n : Nat) : List Int := (List.range n).map Int.ofNat
theorem iot_succ (n : Nat) : iot (n + 1) = iot n ++ [(n : Int)] := by unfold iot; rw [List.range_succ, List.map_append]; rfl
theorem iot_len (n : Nat) : (iot n).length = n := by simp [iot]
theorem iot_mem {n : Nat} {x : Int} : x ∈ iot n ↔ 0 ≤ x ∧ x < n := by
  unfold iot
  rw [List.mem_map]
  constructor
  · rintro ⟨j, hj, rfl⟩; rw [List.mem_range] at hj; simp only [Int.ofNat_eq_natCast]; omega
  · rintro ⟨h0, h1⟩; exact ⟨x.toNat, List.mem_range.2 (by omega), by simp only [Int.ofNat_eq_natCast]; omega⟩
theorem iot_nodup (n : Nat) : (iot n).Nodup := by
  induction n with
  | zero => simp [iot]
  | succ n ih =>
    rw [iot_succ, List.nodup_append]
    refine ⟨ih, by simp, fun x hx y hy e => ?_⟩
    rw [List.mem_singleton] at hy
    rw [iot_mem] at hx
    omega
structure Two (B : Nat) (h0 h : Heap) (r m g1 g2 : Nat) (n1 n2 : Slc) (ns1 ns2 : List Int) (y1 : Slc) (ys1 : List Int) (d1 : Bool) (y2 : Slc) (ys2 : List Int) (d2 : Bool) : Prop where
  X : Ext B h0 h
  D : DeskAt h r m [(1, g1), (2, g2)]
  O1 : OpAt h g1 (wop n1 y1 d1) ns1 ys1
  O2 : OpAt h g2 (qop n2 y2 d2) ns2 ys2
  gg : g1 ≠ g2
  s12 : ∀ b, y1.blk = some b → y2.blk ≠ some b ∧ n2.blk ≠ some b
  s21 : ∀ b, y2.blk = some b → n1.blk ≠ some b
  Bg : B ≤ g1 ∧ B ≤ g2 ∧ B ≤ h.size
  By : (∀ b, y1.blk = some b → B ≤ b) ∧ ∀ b, y2.blk = some b → B ≤ b
  nd1 : ys1.Nodup
  in1 : ∀ v ∈ ys1, v ∈ ns1
  dn1 : d1 = true → needs 1 ns1.length ≤ ys1.length
  nd2 : ys2.Nodup
  in2 : ∀ v ∈ ys2, v ∈ ns2
  dn2 : d2 = true → needs 2 ns2.length ≤ ys2.length
  nl : ns1.length ≤ 100 ∧ ns2.length ≤ 100
section
variable {B : Nat} {h0 h : Heap} {r m g1 g2 : Nat} {n1 n2 : Slc} {ns1 ns2 : List Int} {y1 : Slc} {ys1 : List Int} {d1 : Bool} {y2 : Slc} {ys2 : List Int} {d2 : Bool}
theorem Two.ext {h' : Heap} (T : Two B h0 h r m g1 g2 n1 n2 ns1 ns2 y1 ys1 d1 y2 ys2 d2) (X : Ext h.size h h') : Two B h0 h' r m g1 g2 n1 n2 ns1 ns2 y1 ys1 d1 y2 ys2 d2 :=
  { T with X := T.X.trans (X.mono T.Bg.2.2), D := T.D.ext X, O1 := T.O1.ext X, O2 := T.O2.ext X, Bg := ⟨T.Bg.1, T.Bg.2.1, Nat.le_trans T.Bg.2.2 X.size⟩ }
theorem Two.yesA {node : Int} {s : Slc} {k : Bool → Heap → Prop} (T : Two B h0 h r m g1 g2 n1 n2 ns1 ns2 y1 ys1 d1 y2 ys2 d2)
    (H : ∀ b y ys d h', Two B h0 h' r m g1 g2 n1 n2 ns1 ns2 y ys d y2 ys2 d2 → k b h') : quorum_Desk_Yes (some ⟨r, 0, none⟩) 1 node s k h := by
  have l1 : ys1.length ≤ 100 := Nat.le_trans (nodup_len _ _ T.nd1 T.in1) T.nl.1
  refine YesW_ok T.D (by rfl) T.O1 rfl (by omega) (fun _ => H _ _ _ _ _ T) fun d0 hin hno y h' O' Y => ?_
  have y1g2 : y1.blk ≠ some g2 := T.O1.Y.ne_blk T.O2.B (by omega)
  have n2g1 : n2.blk ≠ some g1 := T.O2.N.ne_blk T.O1.B (by omega)
  have y2g1 : y2.blk ≠ some g1 := T.O2.Y.ne_blk T.O1.B (by omega)
  obtain ⟨XB, By'⟩ := Y.ext (B := B) T.Bg.2.2 T.Bg.1 T.By.1
  refine H _ y _ (decide (needs 1 ns1.length ≤ ys1.length + 1)) h' ⟨T.X.trans XB, T.D.yes T.O1 Y, O', ?_, T.gg, ?_, ?_, ⟨T.Bg.1, T.Bg.2.1, Nat.le_trans T.Bg.2.2 Y.size⟩, ⟨By', T.By.2⟩, ?_, ?_, ?_, T.nd2, T.in2, T.dn2, T.nl⟩
  · refine T.O2.old (Y.keep _ T.O2.B.lt T.gg.symm y1g2) (fun b hb => Y.keep b (T.O2.N.bd hb).2 (fun e => n2g1 (e ▸ hb)) fun e => (T.s12 b e).2 hb) (fun b hb => Y.keep b (T.O2.Y.bd hb).2 (fun e => y2g1 (e ▸ hb)) fun e => (T.s12 b e).1 hb)
  · intro b hb
    rcases Y.own b hb with e | e
    · exact T.s12 b e
    · exact ⟨fun e2 => by have := (T.O2.Y.bd e2).2; omega, fun e2 => by have := (T.O2.N.bd e2).2; omega⟩
  · exact T.s21
  · rw [List.nodup_append]
    exact ⟨T.nd1, by simp, fun a ha b hb e => by rw [List.mem_singleton] at hb; rw [e, hb] at ha; exact hno ha⟩
  · intro v hv
    rcases List.mem_append.1 hv with hv | hv
    · exact T.in1 v hv
    · rw [List.mem_singleton] at hv; rw [hv]; exact hin
  · intro hd
    rw [List.length_append]; simpa using hd
theorem Two.yesB {node : Int} {k : Bool → Heap → Prop} (T : Two B h0 h r m g1 g2 n1 n2 ns1 ns2 y1 ys1 d1 y2 ys2 d2)
    (H : ∀ b y ys d h', Two B h0 h' r m g1 g2 n1 n2 ns1 ns2 y1 ys1 d1 y ys d → k b h') : quorum_Desk_Yes (some ⟨r, 0, none⟩) 2 node nilS k h := by
  have l1 : ys2.length ≤ 100 := Nat.le_trans (nodup_len _ _ T.nd2 T.in2) T.nl.2
  refine YesQ_ok T.D (by rfl) T.O2 (by omega) (fun _ => H _ _ _ _ _ T) fun d0 hin hno y h' O' Y => ?_
  have y2g1 : y2.blk ≠ some g1 := T.O2.Y.ne_blk T.O1.B (by omega)
  have n1g2 : n1.blk ≠ some g2 := T.O1.N.ne_blk T.O2.B (by omega)
  have y1g2 : y1.blk ≠ some g2 := T.O1.Y.ne_blk T.O2.B (by omega)
  obtain ⟨XB, By'⟩ := Y.ext (B := B) T.Bg.2.2 T.Bg.2.1 T.By.2
  refine H _ y _ (decide (needs 2 ns2.length ≤ ys2.length + 1)) h' ⟨T.X.trans XB, T.D.yes T.O2 Y, ?_, O', T.gg, ?_, ?_, ⟨T.Bg.1, T.Bg.2.1, Nat.le_trans T.Bg.2.2 Y.size⟩, ⟨T.By.1, By'⟩, T.nd1, T.in1, T.dn1, ?_, ?_, ?_, T.nl⟩
  · refine T.O1.old (Y.keep _ T.O1.B.lt T.gg y2g1) (fun b hb => Y.keep b (T.O1.N.bd hb).2 (fun e => n1g2 (e ▸ hb)) fun e => T.s21 b e hb) (fun b hb => Y.keep b (T.O1.Y.bd hb).2 (fun e => y1g2 (e ▸ hb)) fun e => (T.s12 b hb).1 e)
  · intro b hb
    refine ⟨fun e => ?_, (T.s12 b hb).2⟩
    rcases Y.own b e with e | e
    · exact (T.s12 b hb).1 e
    · have := (T.O1.Y.bd hb).2; omega
  · intro b hb e2
    rcases Y.own b hb with e | e
    · exact T.s21 b e e2
    · have := (T.O1.N.bd e2).2; omega
  · rw [List.nodup_append]
    exact ⟨T.nd2, by simp, fun a ha b hb e => by rw [List.mem_singleton] at hb; rw [e, hb] at ha; exact hno ha⟩
  · intro v hv
    rcases List.mem_append.1 hv with hv | hv
    · exact T.in2 v hv
    · rw [List.mem_singleton] at hv; rw [hv]; exact hin
  · intro hd
    rw [List.length_append]; simpa using hd
end
end Go.Q.Yc
