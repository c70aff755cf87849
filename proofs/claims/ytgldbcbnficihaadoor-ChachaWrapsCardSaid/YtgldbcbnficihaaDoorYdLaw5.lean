/- A part of the proof of statements of this seat: lemmas, no statement of their own. -/
import Derived.Test.YtgldbcbnficihaaDoorYdLaw4
set_option linter.unusedVariables false
set_option linter.unusedSimpArgs false
set_option maxRecDepth 20000
namespace Go.Q.Yd
theorem rword_ok {s : Slc} {l : List Int} {k : Int → Heap → Prop} {h : Heap} (h0 : SlcAt h s (b8 l)) (l0 : s.len = l.length) (hc : s.len ≤ s.cap) (hl : 4 ≤ l.length) (hB : isB l) (H : k (numL (l.take 4)) h) : ref04_word s k h := by
  have B4 : isB (l.take 4) := fun x hx => hB x (List.mem_of_mem_take hx)
  refine ⟨_, by decide, by decide, by omega, Int.le_refl _, rfl, ?_⟩
  have s1 := h0.sub (w := 1) (l := (0 : Int).toNat) (u := (4 : Int).toNat) (m := (s.cap : Int).toNat) (by decide) (by simp only [Int.toNat_natCast]; show 4 ≤ s.cap; omega)
  have e : ((b8 l).drop ((0 : Int).toNat * 1)).take (((4 : Int).toNat - (0 : Int).toNat) * 1) = b8 (l.take 4) := by
    show ((b8 l).drop 0).take 4 = _
    rw [List.drop_zero, ← List.map_take]
  rw [e] at s1
  refine Number_ok s1 (by rw [subS_len, List.length_take]; show 4 - 0 = _; omega) B4 (by rw [List.length_take]; omega) ?_
  have hb := numL_bd B4
  have h2 : (256 : Int) ^ (l.take 4).length ≤ 256 ^ 4 := pow_mono (by rw [List.length_take]; omega)
  have h4 : (256 : Int) ^ 4 = 4294967296 := by decide
  refine ⟨_, rfl, ?_⟩
  rw [wrapU32 hb.1 (by omega)]
  exact H
def mL (key : List Int) (n : Int) (nonce : List Int) : List Int := ([101, 120, 112, 97, 110, 100, 32, 51, 50, 45, 98, 121, 116, 101, 32, 107] : List Int) ++ key ++ formL n 4 ++ nonce
theorem mL_len {key nonce : List Int} {n : Int} (lk : key.length = 32) (ln : nonce.length = 12) : (mL key n nonce).length = 64 := by simp [mL, lk, ln, formL_length]
theorem mL_B {key nonce : List Int} {n : Int} (Bk : isB key) (Bn : isB nonce) : isB (mL key n nonce) := by
  intro b hb
  simp only [mL, List.mem_append] at hb
  rcases hb with ((hb | hb) | hb) | hb
  · revert b; decide
  · exact Bk b hb
  · exact formL_B _ _ b hb
  · exact Bn b hb
theorem drop_app {a b : List Int} {i j : Nat} (h : i = a.length + j) : (a ++ b).drop i = b.drop j := by subst h; rw [List.drop_append, List.drop_of_length_le (by omega), Nat.add_sub_cancel_left, List.nil_append]
theorem mL_word {key nonce : List Int} {n : Int} (lk : key.length = 32) (ln : nonce.length = 12) (n0 : 0 ≤ n) (n1 : n < 4294967296) {i : Nat} (hi : i < 16) : numL (((mL key n nonce).drop (4 * i)).take 4) = gw (startL key n nonce) i := by
  have hf : formL n 4 ≠ [] := by simp [formL]
  have h0 : ∀ i < 4, numL (((([101, 120, 112, 97, 110, 100, 32, 51, 50, 45, 98, 121, 116, 101, 32, 107] : List Int)).drop (4 * i)).take 4) = gw [1634760805, 857760878, 2036477234, 1797285236] i := by decide
  rcases Nat.lt_or_ge i 4 with h | h
  · have e : ((mL key n nonce).drop (4 * i)).take 4 = ((([101, 120, 112, 97, 110, 100, 32, 51, 50, 45, 98, 121, 116, 101, 32, 107] : List Int)).drop (4 * i)).take 4 := by
      simp only [mL, List.append_assoc]
      rw [List.drop_append_of_le_length (by simp; omega), List.take_append_of_le_length (by simp; omega)]
    rw [e, h0 i h]
    match i, h with
    | 0, _ | 1, _ | 2, _ | 3, _ => rfl
  · rcases Nat.lt_or_ge i 12 with h2 | h2
    · have e : ((mL key n nonce).drop (4 * i)).take 4 = (key.drop (4 * (i - 4))).take 4 := by
        simp only [mL, List.append_assoc]
        rw [drop_app (j := 4 * (i - 4)) (by simp; omega), List.drop_append_of_le_length (by rw [lk]; omega), List.take_append_of_le_length (by rw [List.length_drop, lk]; omega)]
      rw [e]
      match i, h, h2 with
      | 4, _, _ | 5, _, _ | 6, _, _ | 7, _, _ | 8, _, _ | 9, _, _ | 10, _, _ | 11, _, _ => rfl
    · rcases Nat.lt_or_ge i 13 with h3 | h3
      · have h12 : i = 12 := by omega
        subst h12
        have e : ((mL key n nonce).drop (4 * 12)).take 4 = formL n 4 := by
          simp only [mL, List.append_assoc]
          rw [drop_app (j := 32) (by simp), drop_app (j := 0) (by rw [lk]), List.drop_zero, List.take_left' (by rw [formL_length])]
        rw [e, numL_form4 n0 n1]; rfl
      · have e : ((mL key n nonce).drop (4 * i)).take 4 = (nonce.drop (4 * (i - 13))).take 4 := by
          simp only [mL, List.append_assoc]
          rw [drop_app (j := 4 * i - 16) (by simp; omega), drop_app (j := 4 * i - 48) (by rw [lk]; omega), drop_app (j := 4 * (i - 13)) (by rw [formL_length]; omega)]
        rw [e]
        have h14 : i = 13 ∨ i = 14 ∨ i = 15 := by omega
        rcases h14 with rfl | rfl | rfl <;> rfl
theorem q_col : ∀ c : Nat, c < 4 → qa c = c ∧ qb c = 4 + c ∧ qc c = 8 + c ∧ qd c = 12 + c ∧ qa (4 + c) = c ∧ qb (4 + c) = 4 + (c + 1) % 4 ∧ qc (4 + c) = 8 + (c + 2) % 4 ∧ qd (4 + c) = 12 + (c + 3) % 4 := by decide
section
variable {zs : List Value} {h0 : Heap} {W cp : Nat} {s9 : Slc}
theorem rblock_l4_ok {t8 : Slc} {t11 : Int} {w : List Int} {k : Slc → Heap → Prop} {nx1 : Slc × Slc × Int → Heap → Prop} {nx2 nx3 : Int → Heap → Prop} {h : Heap} (hW : Blk h W (b32 (qs w 4) ++ zs) 24) (Ww : Wd w) (U : Upd W h0 h)
    (H : ∀ h', Blk h' W (b32 (qs w 8) ++ zs) 24 → Upd W h0 h' → nx2 (IntKind.i64.wrap (t11 + 1)) h') : ref04_Block_l4 t8 ⟨some ⟨W, 0, none⟩, 16, cp⟩ t11 0 k nx1 nx2 nx3 h := by
  refine ⟨fun c h' => 0 ≤ c ∧ c ≤ 4 ∧ Blk h' W (b32 (qs w (4 + c.toNat)) ++ zs) 24 ∧ Upd W h0 h', fun c _ => (4 - c).toNat, ⟨by omega, by omega, hW, U⟩, ?_⟩
  rintro c h1 ⟨c0, c1, K, U⟩
  unfold ref04_Block_l4b
  by_cases hc : c < 4
  · rw [if_pos (by simpa using hc)]
    have m1 : ∀ j : Int, 0 ≤ j → Int.tmod j 4 = j % 4 := fun j hj => Int.tmod_eq_emod_of_nonneg hj
    rw [wrapI64 (x := c + 1) (by omega) (by omega), wrapI64 (x := c + 2) (by omega) (by omega), wrapI64 (x := c + 3) (by omega) (by omega), m1 _ (by omega), m1 _ (by omega), m1 _ (by omega), wrapI64 (x := 4 + (c + 1) % 4) (by omega) (by omega), wrapI64 (x := 8 + (c + 2) % 4) (by omega) (by omega), wrapI64 (x := 12 + (c + 3) % 4) (by omega) (by omega)]
    refine refQuarter_ok K (Ww.qs _) (by omega) (by omega) (by omega) (by omega) fun h2 K2 U2 => ⟨_, rfl, ⟨by omega, by omega, ?_, U.trans U2⟩, by dsimp only; omega⟩
    obtain ⟨_, _, _, _, q1, q2, q3, q4⟩ := q_col c.toNat (by omega)
    rw [show 4 + (c + 1).toNat = (4 + c.toNat) + 1 from by omega]
    simp only [qs, q1, q2, q3, q4]
    rw [show (4 + (c + 1) % 4).toNat = 4 + (c.toNat + 1) % 4 from by omega, show (8 + (c + 2) % 4).toNat = 8 + (c.toNat + 2) % 4 from by omega, show (12 + (c + 3) % 4).toNat = 12 + (c.toNat + 3) % 4 from by omega] at K2
    exact K2
  · rw [if_neg (by simpa using hc)]
    have : 4 + c.toNat = 8 := by omega
    rw [this] at K
    exact ⟨_, rfl, H h1 K U⟩
theorem rblock_l3_ok {t8 : Slc} {t11 : Int} {w : List Int} {k : Slc → Heap → Prop} {nx1 : Slc × Slc × Int → Heap → Prop} {nx2 : Int → Heap → Prop} {h : Heap} (hW : Blk h W (b32 w ++ zs) 24) (Ww : Wd w) (U : Upd W h0 h)
    (H : ∀ h', Blk h' W (b32 (qs w 8) ++ zs) 24 → Upd W h0 h' → nx2 (IntKind.i64.wrap (t11 + 1)) h') : ref04_Block_l3 t8 ⟨some ⟨W, 0, none⟩, 16, cp⟩ t11 0 k nx1 nx2 h := by
  refine ⟨fun c h' => 0 ≤ c ∧ c ≤ 4 ∧ Blk h' W (b32 (qs w c.toNat) ++ zs) 24 ∧ Upd W h0 h', fun c _ => (4 - c).toNat, ⟨by omega, by omega, hW, U⟩, ?_⟩
  rintro c h1 ⟨c0, c1, K, U⟩
  unfold ref04_Block_l3b
  by_cases hc : c < 4
  · rw [if_pos (by simpa using hc)]
    rw [wrapI64 (x := 4 + c) (by omega) (by omega), wrapI64 (x := 8 + c) (by omega) (by omega), wrapI64 (x := 12 + c) (by omega) (by omega), wrapI64 (x := c + 1) (by omega) (by omega)]
    refine refQuarter_ok K (Ww.qs _) (by omega) (by omega) (by omega) (by omega) fun h2 K2 U2 => ⟨_, rfl, ⟨by omega, by omega, ?_, U.trans U2⟩, by dsimp only; omega⟩
    obtain ⟨q1, q2, q3, q4, _⟩ := q_col c.toNat (by omega)
    rw [show (c + 1).toNat = c.toNat + 1 from by omega]
    simp only [qs, q1, q2, q3, q4]
    rw [show (4 + c).toNat = 4 + c.toNat from by omega, show (8 + c).toNat = 8 + c.toNat from by omega, show (12 + c).toNat = 12 + c.toNat from by omega] at K2
    exact K2
  · rw [if_neg (by simpa using hc)]
    have : c.toNat = 4 := by omega
    rw [this] at K
    exact rblock_l4_ok K Ww U H
end
theorem rblock_l5_ok {B0 B W S cw cs : Nat} {w s : List Int} {zw zs : List Value} {k : Slc → Heap → Prop} {nx1 : Slc × Slc × Int → Heap → Prop} {nx2 : Int → Heap → Prop} {h h0 : Heap} (hS : Blk h S (b32 s ++ zs) 24) (hW : Blk h W (b32 w ++ zw) 24) (Ws : Wd s) (Ww : Wd w) (X : Ext B h0 h) (hB : B ≤ h0.size) (hB2 : h0.size ≤ h.size)
    (H : ∀ s' h', Row B h' 5 1 s' (b8 (outL w s 16)) → Ext B h0 h' → k s' h') : ref04_Block_l5 ⟨some ⟨S, 0, none⟩, 16, cs⟩ ⟨some ⟨W, 0, none⟩, 16, cw⟩ ⟨none, 0, 0⟩ 0 k nx1 nx2 h := by
  refine ⟨fun q h' => 0 ≤ q.2 ∧ q.2 ≤ 16 ∧ Row B h' 5 1 q.1 (b8 (outL w s q.2.toNat)) ∧ Blk h' S (b32 s ++ zs) 24 ∧ Blk h' W (b32 w ++ zw) 24 ∧ Ext B h0 h', fun q _ => (16 - q.2).toNat, ⟨by simp, by simp, Row.nil _ _ _ _, hS, hW, X⟩, ?_⟩
  rintro o i h1 ⟨i0, i1, R, hS, hW, X⟩
  simp only at i0 i1 R hS hW X
  unfold ref04_Block_l5b
  by_cases hi : i < 16
  · rw [if_pos (by simpa using hi)]
    refine ⟨_, rfl, i0, hi, _, wcell' hW Ww i0 hi, _, rfl, i0, hi, _, wcell' hS Ws i0 hi, ?_⟩
    rw [wU32, wrapU64 (x := (gw w i.toNat + gw s i.toNat) % 4294967296) (by omega) (by omega)]
    refine Form_ok (by decide) (by decide) (by omega) (by omega) fun r h2 R2 X2 => ?_
    have R1 := R.ext X2 fun g hg => (R.bd hg).2
    have hS2 := hS.ext X2 hS.lt
    have hW2 := hW.ext X2 hW.lt
    have z2 := X2.size
    have z1 := X.size
    have ol : o.len = 4 * i.toNat := by have := R.len; simp [outL_len] at this; omega
    have rl : r.len = 4 := by have := R2.len; simpa [formL_length] using this
    refine ⟨_, R2.slc, App.row R1 (by omega) rfl (by simp [formL_length, rl]) (b8_one _) (by omega) (by simp only [maxLen]; omega) fun s' h3 R3 _ hs ho _ => ?_⟩
    refine ⟨_, rfl, ⟨?_, ?_, ?_, ?_, ?_, ?_⟩, ?_⟩
    all_goals (try dsimp only); try rw [wrapI64 (by omega) (by omega)]
    · omega
    · omega
    · rw [show (i + 1).toNat = i.toNat + 1 from by omega]
      have e : b8 (outL w s (i.toNat + 1)) = b8 (outL w s i.toNat) ++ b8 (formL ((gw w i.toNat + gw s i.toNat) % 4294967296) (4 : Int).toNat) := by
        rw [← List.map_append]; rfl
      rw [e]; exact R3
    · exact hS2.old (ho S hS2.lt (R1.ne_blk hS2 (by decide)))
    · exact hW2.old (ho W hW2.lt (R1.ne_blk hW2 (by decide)))
    · refine X.trans ((X2.mono (by omega)).trans ⟨hs, fun j hj => ho j (by omega) fun e => by have := (R1.bd e).1; omega⟩)
    · omega
  · rw [if_neg (by simpa using hi)]
    have : i.toNat = 16 := by omega
    rw [this] at R
    exact H _ _ R X
end Go.Q.Yd
