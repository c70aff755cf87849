/- A part of the proof of statements of this seat: lemmas, no statement of their own. -/
import Derived.Test.YtgldbcbnficihaaDoorYdLaw5
set_option linter.unusedVariables false
set_option linter.unusedSimpArgs false
set_option maxRecDepth 20000
namespace Go.Q.Yd
/-- a word appended to a row of words, besides other rows -/
theorem appW {B : Nat} {t : Slc} {xs : List Int} {x : Int} {k : Slc → Heap → Prop} {h : Heap} (R : Row B h 24 1 t (b32 xs)) (hB : B ≤ h.size) (hl : xs.length ≤ 16)
    (H : ∀ t' h', Row B h' 24 1 t' (b32 (xs ++ [x])) → h.size ≤ h'.size → (∀ i, i < h.size → t.blk ≠ some i → h'[i]? = h[i]?) → (t'.blk = t.blk ∨ ∃ g, t'.blk = some g ∧ h.size ≤ g) → k t' h') :
    App 24 1 4 [.int .u32 0] (h.push (.cells ([.int .u32 x] : List Value).toArray 24)) t 1 [.int .u32 x] k := by
  have hlen := R.len
  simp at hlen
  refine App.row (R.pushed _) (by simp; omega) rfl rfl (by simp [Value.oneCell']) (by omega) (by simp only [maxLen]; omega) fun s' h2 R' _ hs ho hb => ?_
  refine H s' h2 (by simpa using R') (by simp at hs; omega) (fun i hi hne => ?_) ?_
  · rw [ho i (by simp; omega) hne, Array.getElem?_push, if_neg (by omega)]
  · rcases hb with hb | hb
    · exact .inl hb
    · exact .inr ⟨_, hb, by simp⟩
theorem m_sub {B : Nat} {m : Slc} {l : List Int} {h : Heap} {i : Int} (M : Row B h 5 1 m (b8 l)) (hl : l.length = 64) (i0 : 0 ≤ i) (i1 : i < 16) :
    SlcAt h (subS m 1 (4 * i).toNat (m.len : Int).toNat (m.cap : Int).toNat) (b8 (l.drop (4 * i.toNat))) ∧ (subS m 1 (4 * i).toNat (m.len : Int).toNat (m.cap : Int).toNat).len = (l.drop (4 * i.toNat)).length ∧ (subS m 1 (4 * i).toNat (m.len : Int).toNat (m.cap : Int).toNat).len ≤ (subS m 1 (4 * i).toNat (m.len : Int).toNat (m.cap : Int).toNat).cap ∧ 4 ≤ (l.drop (4 * i.toNat)).length := by
  have hm := M.len
  simp [hl] at hm
  have hc := M.cap
  have s1 := M.slc.sub (w := 1) (l := (4 * i).toNat) (u := (m.len : Int).toNat) (m := (m.cap : Int).toNat) (by omega) (by omega)
  have e : ((b8 l).drop ((4 * i).toNat * 1)).take (((m.len : Int).toNat - (4 * i).toNat) * 1) = b8 (l.drop (4 * i.toNat)) := by
    rw [← List.map_drop, List.take_of_length_le (by simp; omega), show (4 * i).toNat * 1 = 4 * i.toNat from by omega]
  rw [e] at s1
  refine ⟨s1, by rw [subS_len, List.length_drop]; omega, by rw [subS_len, subS_cap]; omega, by rw [List.length_drop]; omega⟩
theorem take_snoc {v : List Int} {i : Nat} {x : Int} (h : v[i]? = some x) : v.take i ++ [x] = v.take (i + 1) := by
  rw [List.take_add_one, h]; rfl
theorem rblock_l1_ok {key nonce : List Int} {n : Int} {B : Nat} {m : Slc} {k : Slc → Heap → Prop} {h0 h : Heap} (lk : key.length = 32) (Bk : isB key) (ln : nonce.length = 12) (Bn : isB nonce) (n0 : 0 ≤ n) (n1 : n < 4294967296)
    (M : Row B h 5 1 m (b8 (mL key n nonce))) (hB : B ≤ h0.size) (hB2 : h0.size ≤ h.size) (X : Ext B h0 h) (H : ∀ s' h', Row B h' 5 1 s' (b8 (blockL key n nonce)) → Ext B h0 h' → k s' h') : ref04_Block_l1 m ⟨none, 0, 0⟩ ⟨none, 0, 0⟩ 0 k h := by
  have Ws := startL_wd (key := key) (nonce := nonce) (n := n) Bk Bn n0 n1
  have hw : ∀ i : Nat, i < 16 → numL (((mL key n nonce).drop (4 * i)).take 4) = gw (startL key n nonce) i := fun i hi => mL_word lk ln n0 n1 hi
  have hbl : blockL key n nonce = outL (rounds (startL key n nonce) 10) (startL key n nonce) 16 := rfl
  have ml := mL_len (key := key) (nonce := nonce) (n := n) lk ln
  have mB := mL_B (key := key) (nonce := nonce) (n := n) Bk Bn
  rw [hbl] at H
  generalize startL key n nonce = s at *
  generalize mL key n nonce = l at *
  refine ⟨fun q h' => 0 ≤ q.2.2 ∧ q.2.2 ≤ 16 ∧ Row B h' 5 1 m (b8 l) ∧ Row B h' 24 1 q.1 (b32 (s.take q.2.2.toNat)) ∧ Row B h' 24 1 q.2.1 (b32 (s.take q.2.2.toNat)) ∧ (∀ g, q.1.blk = some g → q.2.1.blk ≠ some g) ∧ Ext B h0 h', fun q _ => (16 - q.2.2).toNat, ⟨by simp, by simp, M, Row.nil _ _ _ _, Row.nil _ _ _ _, fun g hg => (by simp [Slc.blk] at hg), X⟩, ?_⟩
  rintro t8 t9 i h1 ⟨i0, i1, M, R8, R9, D, X⟩
  simp only at i0 i1 M R8 R9 D X
  unfold ref04_Block_l1b
  by_cases hi : i < 16
  · rw [if_pos (by simpa using hi), wrapI64 (x := 4 * i) (by omega) (by omega), wrapI64 (x := i + 1) (by omega) (by omega)]
    have hgw := (Ws.get (i := i.toNat) (by omega)).2.2
    have hm := M.len
    simp [ml] at hm
    have z1 := X.size
    have hc := M.cap
    obtain ⟨c1, c2, c3, c4⟩ := m_sub M ml i0 hi
    refine ⟨_, by omega, by omega, by omega, Int.le_refl _, rfl, rword_ok c1 c2 c3 c4 (fun x hx => mB x (List.mem_of_mem_drop hx)) ?_⟩
    rw [hw _ (by omega)]
    refine ⟨_, _, rfl, rfl, appW R8 (by omega) (by simp; omega) fun t8' h2 R8' z2 ho2 hb2 => ?_⟩
    have M2 : Row B h2 5 1 m (b8 l) := M.keep fun g hg => ho2 g (M.bd hg).2 (M.ne_row R8 (by decide) hg)
    have R92 : Row B h2 24 1 t9 (b32 (s.take i.toNat)) := R9.keep fun g hg => ho2 g (R9.bd hg).2 fun e => D g e hg
    have X2 : Ext B h0 h2 := X.trans ⟨z2, fun j hj => ho2 j (by omega) fun e => by have := (R8.bd e).1; omega⟩
    obtain ⟨d1, d2, d3, d4⟩ := m_sub M2 ml i0 hi
    refine ⟨_, by omega, by omega, by omega, Int.le_refl _, rfl, rword_ok d1 d2 d3 d4 (fun x hx => mB x (List.mem_of_mem_drop hx)) ?_⟩
    rw [hw _ (by omega)]
    have z3 := X2.size
    have D2 : ∀ g, t8'.blk = some g → t9.blk ≠ some g := fun g hg e => by
      rcases hb2 with hb2 | ⟨g', hg', hge⟩
      · exact D g (by rw [← hb2]; exact hg) e
      · rw [hg'] at hg; cases hg
        have := (R9.bd e).2
        omega
    refine ⟨_, _, rfl, rfl, appW R92 (by omega) (by simp; omega) fun t9' h3 R9' z4 ho3 hb3 => ?_⟩
    refine ⟨_, rfl, ⟨by dsimp only; omega, by dsimp only; omega, ?_, ?_, ?_, ?_, ?_⟩, by dsimp only; omega⟩
    · exact M2.keep fun g hg => ho3 g (M2.bd hg).2 (M2.ne_row R92 (by decide) hg)
    · dsimp only
      rw [show (i + 1).toNat = i.toNat + 1 from by omega, ← take_snoc hgw]
      exact R8'.keep fun g hg => ho3 g (R8'.bd hg).2 (D2 g hg)
    · dsimp only
      rw [show (i + 1).toNat = i.toNat + 1 from by omega, ← take_snoc hgw]
      exact R9'
    · dsimp only
      intro g hg e
      rcases hb3 with hb3 | ⟨g', hg', hge⟩
      · exact D2 g hg (by rw [← hb3]; exact e)
      · rw [hg'] at e; cases e
        have := (R8'.bd hg).2
        omega
    · exact X2.trans ⟨z4, fun j hj => ho3 j (by omega) fun e => by have := (R92.bd e).1; omega⟩
  · rw [if_neg (by simpa using hi)]
    have : i.toNat = 16 := by omega
    rw [this, List.take_of_length_le (by rw [Ws.len]; decide)] at R8 R9
    have l8 := R8.len
    have l9 := R9.len
    simp [Ws.len] at l8 l9
    obtain ⟨S, zs, e8, b8', K8, c8, k8⟩ := R8.opened (by omega)
    obtain ⟨W, zw, e9, b9, K9, c9, k9⟩ := R9.opened (by omega)
    have hSW : S ≠ W := fun e => D S k8 (by rw [k9, e])
    rw [e8, e9, l8, l9]
    have z1 := X.size
    refine ⟨fun r h' => 0 ≤ r ∧ r ≤ 10 ∧ Blk h' W (b32 (rounds s r.toNat) ++ zw) 24 ∧ Upd W h1 h', fun r _ => (10 - r).toNat, ⟨by omega, by omega, K9, Upd.refl _ _⟩, ?_⟩
    rintro r h2 ⟨r0, r1, K, U⟩
    unfold ref04_Block_l2b
    by_cases hr : r < 10
    · rw [if_pos (by simpa using hr)]
      refine rblock_l3_ok K (Ws.rounds _) U fun h3 K3 U3 => ?_
      rw [wrapI64 (by omega) (by omega)]
      exact ⟨⟨by omega, by omega, by rw [show (r + 1).toNat = r.toNat + 1 from by omega]; exact K3, U3⟩, by dsimp only; omega⟩
    · rw [if_neg (by simpa using hr)]
      have : r.toNat = 10 := by omega
      rw [this] at K
      refine rblock_l5_ok (h0 := h0) (B := B) (B0 := 0) (U.blk K8 hSW) K Ws (Ws.rounds 10) (X.trans (U.ext b9 (by omega))) (by omega) (by have := U.size; omega) H
theorem rBlock_ok {key nonce : List Int} {n : Int} {k : Slc → Heap → Prop} {h : Heap} (lk : key.length = 32) (Bk : isB key) (ln : nonce.length = 12) (Bn : isB nonce) (n0 : 0 ≤ n) (n1 : n < 4294967296)
    (H : ∀ s' h', Row h.size h' 5 1 s' (b8 (blockL key n nonce)) → Ext h.size h h' → k s' h') : ref04_Block key n nonce k h := by
  unfold ref04_Block
  refine ⟨_, _, rfl, rfl, _, _, rfl, rfl, ?_⟩
  have K1 := Blk.push h (b8 key) 22
  obtain ⟨h2, e2⟩ : ∃ x, x = h.push (.cells (b8 key).toArray 22) := ⟨_, rfl⟩
  rw [← e2] at K1 ⊢
  have z2 : h2.size = h.size + 1 := by rw [e2]; simp
  have X2 : Ext h.size h h2 := by rw [e2]; exact Ext.push h _ (Nat.le_refl _)
  have K2 := Blk.push h2 (b8 nonce) 25
  obtain ⟨h4, e4⟩ : ∃ x, x = h2.push (.cells (b8 nonce).toArray 25) := ⟨_, rfl⟩
  rw [← e4] at K2 ⊢
  have z4 : h4.size = h.size + 2 := by rw [e4]; simp [z2]
  have X4 : Ext h2.size h2 h4 := by rw [e4]; exact Ext.push h2 _ (Nat.le_refl _)
  have C0 := Blk.pushM h4 (b8 ([101, 120, 112, 97, 110, 100, 32, 51, 50, 45, 98, 121, 116, 101, 32, 107] : List Int)) 5 (lo := 16) (hi := 17) (by simp)
  have X7 := Ext.push h4 (.cells (b8 ([101, 120, 112, 97, 110, 100, 32, 51, 50, 45, 98, 121, 116, 101, 32, 107] : List Int)).toArray 5 (16, 17)) (Nat.le_refl _)
  obtain ⟨h7, e7⟩ : ∃ x, x = h4.push (.cells (b8 ([101, 120, 112, 97, 110, 100, 32, 51, 50, 45, 98, 121, 116, 101, 32, 107] : List Int)).toArray 5 (16, 17)) := ⟨_, rfl⟩
  rw [← e7] at C0 X7
  have z7 : h7.size = h4.size + 1 := by rw [e7]; simp
  have C1 : Row h4.size h7 5 1 ⟨some ⟨h4.size, 0, none⟩, 16, 16⟩ (b8 ([101, 120, 112, 97, 110, 100, 32, 51, 50, 45, 98, 121, 116, 101, 32, 107] : List Int)) := Row.of_blk (zs := []) (by simpa using C0) (Nat.le_refl _) rfl rfl (by decide)
  refine ⟨_, _, rfl, rfl, h7, e7, ?_⟩
  refine ⟨_, by decide, by decide, by decide, rfl, ?_⟩
  have s0 : SlcAt h4 ⟨some ⟨h.size, 0, none⟩, 32, 32⟩ (b8 key) := SlcAt.of_blk (ys := []) (by simpa using K1.ext X4 (by omega))
  have keepS : ∀ {h' : Heap}, Ext h4.size h4 h' → SlcAt h' ⟨some ⟨h.size, 0, none⟩, 32, 32⟩ (b8 key) := fun X => SlcAt.of_blk (ys := []) (by simpa using (K1.ext X4 (by omega)).ext X (by omega))
  have keepN : ∀ {h' : Heap}, Ext h4.size h4 h' → SlcAt h' ⟨some ⟨h2.size, 0, none⟩, 12, 12⟩ (b8 nonce) := fun X => SlcAt.of_blk (ys := []) (by simpa using K2.ext X (by omega))
  have eS : subS ⟨some ⟨h.size, 0, none⟩, 32, 32⟩ 1 (0 : Int).toNat (32 : Int).toNat 32 = ⟨some ⟨h.size, 0, none⟩, 32, 32⟩ := rfl
  have eN : subS ⟨some ⟨h2.size, 0, none⟩, 12, 12⟩ 1 (0 : Int).toNat (12 : Int).toNat 12 = ⟨some ⟨h2.size, 0, none⟩, 12, 12⟩ := rfl
  rw [eS]
  refine ⟨_, keepS X7, App.row C1 (by omega) rfl (by simp [lk]) (b8_one _) (by simp only; omega) (by simp only [maxLen]; omega) fun s9 h10 R10 l10 z10 ho10 _ => ?_⟩
  have X10 : Ext h4.size h4 h10 := X7.trans ⟨z10, fun j hj => ho10 j (by omega) fun e => by simp [Slc.blk] at e; omega⟩
  have w10 := X10.size
  rw [wrapU64 n0 (by omega)]
  refine Form_ok (by decide) (by decide) n0 (by omega) fun r12 h13 R13 X13 => ?_
  have z13 := X13.size
  have R10' := R10.ext X13 fun g hg => (R10.bd hg).2
  have l12 := R13.len
  simp [formL_length] at l12
  simp only at l10
  refine ⟨_, R13.slc, App.row R10' (by omega) rfl (by simp [formL_length, l12]) (b8_one _) (by omega) (by simp only [maxLen]; omega) fun s14 h15 R15 l15 z15 ho15 _ => ?_⟩
  have X15 : Ext h4.size h4 h15 := X10.trans ((X13.mono w10).trans ⟨z15, fun j hj => ho15 j (by omega) fun e => by have := (R10'.bd e).1; omega⟩)
  refine ⟨_, by decide, by decide, by decide, rfl, ?_⟩
  rw [eN]
  refine ⟨_, keepN X15, App.row R15 (by omega) rfl (by simp [ln]) (b8_one _) (by simp only; omega) (by simp only [maxLen]; omega) fun s18 h19 R19 l19 z19 ho19 _ => ?_⟩
  have X19 : Ext h4.size h4 h19 := X15.trans ⟨z19, fun j hj => ho19 j (by omega) fun e => by have := (R15.bd e).1; omega⟩
  have em : b8 ([101, 120, 112, 97, 110, 100, 32, 51, 50, 45, 98, 121, 116, 101, 32, 107] : List Int) ++ b8 key ++ b8 (formL n (4 : Int).toNat) ++ b8 nonce = b8 (mL key n nonce) := by
    simp only [mL, List.map_append]; rfl
  rw [em] at R19
  have w19 := X19.size
  refine rblock_l1_ok (h0 := h4) lk Bk ln Bn n0 n1 R19 (Nat.le_refl _) w19 X19 fun s' h' R' X' => H s' h' (R'.mono (by omega)) (X2.trans ((X4.mono (by omega)).trans (X'.mono (by omega))))
end Go.Q.Yd
