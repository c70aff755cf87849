/- A part of the proof of statements of this seat: lemmas, no statement of their own. -/
import Derived.Test.YtidhlagdagbggaaDoorYfJn
import Derived.Test.YtidhlagdagbggaaDoorYfMa
import Derived.Test.YtidhlagdagbggaaDoorYfTbl
import Derived.Test.YtidhlagdagbggaaDoorQOpen
import Derived.Test.YtidhlagdagbggaaDoorQRng
set_option linter.unusedVariables false
set_option linter.unusedSimpArgs false
set_option maxRecDepth 100000
/- Journal: heads of records. -/
namespace Go.Q.Yf
def jhdD (b : List Int) : S_journal_head := ⟨fld b 0 8, fld b 8 4, fld b 12 2, fld b 14 2, fld b 16 4⟩
theorem jfield_ok {s : Slc} {b : List Int} {h : Heap} {at' w : Nat} {k : Int → Heap → Prop} (hs : SlcAt h s (b8 b)) (hl : s.len = b.length) (lb : b.length = 128) (lc : s.len ≤ s.cap) (hB : isB b) (w0 : 1 ≤ w) (w1 : w ≤ 8) (hw : at' + w ≤ 100) (H : k (fld b at' w) h) : journal_field s at' w k h := by
  unfold journal_field
  refine ⟨_, by omega, by omega, by omega, by omega, rfl, ?_⟩
  simp only [Int.toNat_natCast]
  have S := SlcAt.sub (w := 1) (l := at') (u := s.len) (m := s.cap) hs (by omega) (by omega)
  rw [Nat.mul_one, Nat.mul_one, ← List.map_drop, ← List.map_take] at S
  have e : (b.drop at').take (s.len - at') = b.drop at' := List.take_of_length_le (by rw [List.length_drop]; omega)
  rw [e] at S
  exact nGet_ok (l' := b.drop at') (l := (b.drop at').take w) S (by rw [List.length_drop]; show s.len - at' = _; omega) (by rw [Int.toNat_natCast]) (isB_take (isB_drop hB _) _) (by omega) (by omega) (by rw [List.length_take, List.length_drop]; omega) H
theorem fld2 {b : List Int} (hB : isB b) (at' : Nat) : 0 ≤ fld b at' 2 ∧ fld b at' 2 < 65536 := by
  have := fld_bd hB at' 2
  rw [show (256 : Int) ^ 2 = 65536 from by decide] at this
  exact this
theorem fld4 {b : List Int} (hB : isB b) (at' : Nat) : 0 ≤ fld b at' 4 ∧ fld b at' 4 < 4294967296 := by
  have := fld_bd hB at' 4
  rw [show (256 : Int) ^ 4 = 4294967296 from by decide] at this
  exact this
theorem fld8 {b : List Int} (hB : isB b) (at' : Nat) : 0 ≤ fld b at' 8 ∧ fld b at' 8 < 18446744073709551616 := by
  have := fld_bd hB at' 8
  rw [show (256 : Int) ^ 8 = 18446744073709551616 from by decide] at this
  exact this
theorem jheadOf_ok {s : Slc} {b : List Int} {h : Heap} {k : S_journal_head → Heap → Prop} (hs : SlcAt h s (b8 b)) (hl : s.len = b.length) (lb : b.length = 128) (lc : s.len ≤ s.cap) (hB : isB b) (H : ∀ h', Ext h.size h h' → k (jhdD b) h') : journal_headOf s k h := by
  unfold journal_headOf
  refine ⟨_, _, rfl, rfl, ?_⟩
  have P := Blk.push h (S_journal_head.cs ⟨0, 0, 0, 0, 0⟩) 56
  have W := Ext.push h (.cells (S_journal_head.cs ⟨0, 0, 0, 0, 0⟩).toArray 56) (Nat.le_refl _)
  generalize h.push (.cells (S_journal_head.cs ⟨0, 0, 0, 0, 0⟩).toArray 56) = h2 at *
  have S := hs.ext W
  refine jfield_ok (at' := 0) (w := 8) S hl lb lc hB (by omega) (by omega) (by omega) ?_
  refine jfield_ok (at' := 8) (w := 4) S hl lb lc hB (by omega) (by omega) (by omega) ?_
  refine jfield_ok (at' := 12) (w := 2) S hl lb lc hB (by omega) (by omega) (by omega) ?_
  refine jfield_ok (at' := 14) (w := 2) S hl lb lc hB (by omega) (by omega) (by omega) ?_
  refine jfield_ok (at' := 16) (w := 4) S hl lb lc hB (by omega) (by omega) (by omega) ?_
  have a := fld2 hB 12
  have b' := fld2 hB 14
  have c := fld4 hB 16
  rw [wrapI64 (x := fld b 12 2) (by omega) (by omega), wrapI64 (x := fld b 14 2) (by omega) (by omega), wrapI64 (x := fld b 16 4) (by omega) (by omega)]
  exact ⟨_, WrsAt.of_blk P (by show 5 ≤ 5; omega), rfl, jhdD b, CellsAt.of_blk (P.sets_all rfl), H _ (W.trans (Ext.sets _ _ _ (Nat.le_refl _)))⟩
def jprtD (n : Int) : Int := if (n + 107) / 108 > 1 then (n + 107) / 108 else 1
theorem JParts_ok {n : Int} {k : Int → Heap → Prop} {h : Heap} (n0 : 0 ≤ n) (n1 : n < 4611686018427387904) (H : k (jprtD n) h) : journal_parts n k h := by
  unfold journal_parts
  refine ⟨_, rfl, ?_⟩
  rw [wrapI64 (x := n + 108) (by omega) (by omega), wrapI64 (x := n + 108 - 1) (by omega) (by omega), Int.tdiv_eq_ediv_of_nonneg (by omega), wrapI64 (x := (n + 108 - 1) / 108) (by omega) (by omega)]
  rw [show n + 108 - 1 = n + 107 from by omega]
  exact H
def jhbD (f : S_journal_head) : List Int := formL f.f_epoch 8 ++ formL f.f_number 4 ++ formL f.f_part 2 ++ formL f.f_parts 2 ++ formL f.f_size 4
theorem jhbD_len (f : S_journal_head) : (jhbD f).length = 20 := by
  unfold jhbD
  simp only [List.length_append, formL_length]
structure JOk (f : S_journal_head) : Prop where
  e : 0 ≤ f.f_epoch
  n : 0 ≤ f.f_number
  p : 0 ≤ f.f_part ∧ f.f_part < 65536
  q : 0 ≤ f.f_parts ∧ f.f_parts < 65536
  s : 0 ≤ f.f_size ∧ f.f_size < 4294967296
theorem JHeadB_ok {f : S_journal_head} {k : Slc → Heap → Prop} {h : Heap} (o : JOk f) (H : ∀ s' h', Row h.size h' 5 1 s' (b8 (jhbD f)) → Ext h.size h h' → k s' h') : journal_head_bytes f k h := by
  unfold journal_head_bytes
  refine ⟨_, _, rfl, rfl, ?_⟩
  have P := Blk.push h (S_journal_head.cs f) 56
  have W := Ext.push h (.cells (S_journal_head.cs f).toArray 56) (Nat.le_refl _)
  have pl := P.lt
  generalize h.push (.cells (S_journal_head.cs f).toArray 56) = h2 at *
  have z2 := W.size
  obtain ⟨b1, eb1⟩ : ∃ y, y = h.size := ⟨_, rfl⟩
  rw [← eb1] at P W pl z2 H ⊢
  have o1 := o.e; have o2 := o.p; have o3 := o.q; have o4 := o.s; have o5 := o.n
  refine ⟨_, by rw [P.cell]; rfl, _, by rw [add_mk, P.cell]; rfl, Put_ok (l := []) rfl ⟨fun _ => rfl, fun a ha => by cases ha⟩ (by simp) (by omega) (by omega) o1 fun s5 h5 R5 X5 => ?_⟩
  have z5 := X5.size
  have P5 := P.ext X5 (by omega)
  refine ⟨by rw [add_mk, P5.cell]; rfl, ?_⟩
  refine Put_ok (Row.pb R5) R5.slc (by simp only [List.length_append, formL_length, List.length_nil]; omega) (by omega) (by omega) o5 fun s8 h8 R8 X8 => ?_
  have z8 := X8.size
  have P8 := P5.ext X8 (by omega)
  refine ⟨_, by rw [add_mk, P8.cell]; rfl, _, by rw [add_mk, P8.cell]; rfl, ?_⟩
  rw [wrapU64 (x := f.f_part) (by omega) (by omega)]
  refine Put_ok (Row.pb R8) R8.slc (by simp only [List.length_append, formL_length, List.length_nil]; omega) (by omega) (by omega) o2.1 fun s11 h11 R11 X11 => ?_
  have z11 := X11.size
  have P11 := P8.ext X11 (by omega)
  refine ⟨by rw [add_mk, P11.cell]; rfl, ?_⟩
  rw [wrapU64 (x := f.f_parts) (by omega) (by omega)]
  refine Put_ok (Row.pb R11) R11.slc (by simp only [List.length_append, formL_length, List.length_nil]; omega) (by omega) (by omega) o3.1 fun s14 h14 R14 X14 => ?_
  have z14 := X14.size
  have P14 := P11.ext X14 (by omega)
  refine ⟨_, by rw [add_mk, P14.cell]; rfl, ?_⟩
  rw [wrapU64 (x := f.f_size) (by omega) (by omega)]
  refine Put_ok (Row.pb R14) R14.slc (by simp only [List.length_append, formL_length, List.length_nil]; omega) (by omega) (by omega) o4.1 fun s17 h17 R17 X17 => ?_
  refine H s17 h17 ?_ ((((W.trans (X5.mono (by omega))).trans (X8.mono (by omega))).trans (X11.mono (by omega))).trans ((X14.mono (by omega)).trans (X17.mono (by omega))))
  unfold jhbD
  exact R17.mono (by omega)
/-! ### is a record there -/
variable {B c : Nat} {h h' : Heap} {d rn rs pr sr : Nat} {X : DK}
def rh (X : DK) (p : Int) : S_journal_head := jhdD (readD X p).1
def wantD (X : DK) (e n p i : Int) : S_journal_head := ⟨e, n, i, (rh X p).f_parts, (rh X p).f_size⟩
def ROk (X : DK) (e n p : Int) (i : Nat) : Prop := (readD X (p + i)).2 = 0 ∧ jhdD (readD X (p + i)).1 = wantD X e n p i
def RecW (X : DK) (e n p : Int) : Prop := ROk X e n p 0 ∧ (rh X p).f_parts = jprtD (rh X p).f_size ∧ ∀ i : Nat, (i : Int) < (rh X p).f_parts → ROk X e n p i
def catR (X : DK) (p : Int) (n : Nat) : List Int := ((List.range n).map fun i : Nat => (readD X (p + i)).1.drop 20).flatten
theorem catR_succ (X : DK) (p : Int) (n : Nat) : catR X p (n + 1) = catR X p n ++ (readD X (p + n)).1.drop 20 := by
  unfold catR
  rw [List.range_succ, List.map_append, List.flatten_append]
  simp
theorem catR_len {p : Int} : ∀ n : Nat, (∀ i : Nat, i < n → (readD X (p + i)).2 = 0) → (catR X p n).length = 108 * n
  | 0, _ => rfl
  | n + 1, hh => by
    rw [catR_succ, List.length_append, catR_len n fun i hi => hh i (by omega), List.length_drop, read_len (hh n (by omega))]; omega
def outR (X : DK) (p : Int) : List Int := (catR X p (rh X p).f_parts.toNat).take (rh X p).f_size.toNat
theorem rh_bd (g : GoodX X) (p : Int) : 0 ≤ (rh X p).f_size ∧ (rh X p).f_size < 4294967296 ∧ 0 ≤ (rh X p).f_parts ∧ (rh X p).f_parts < 65536 := by
  have a := fld4 (read_B g p) 16
  have b := fld2 (read_B g p) 14
  exact ⟨a.1, a.2, b.1, b.2⟩
theorem jh_eq {a b : S_journal_head} : ((a.f_epoch == b.f_epoch) && (a.f_number == b.f_number) && (a.f_part == b.f_part) && (a.f_parts == b.f_parts) && (a.f_size == b.f_size)) = true ↔ a = b := by
  cases a; cases b; simp [and_assoc]
/-- a store -/
abbrev scs (d pr : Nat) (fresh : Bool) (e n p : Int) : List Value := S_journal_Store.cs ⟨some ⟨d, 0, none⟩, some ⟨pr, 0, none⟩, fresh, e, n, p⟩
def StAt (h : Heap) (sr d pr : Nat) (fresh : Bool) (e n p : Int) : Prop := Blk h sr (scs d pr fresh e n p) 50
/-- where the walk of a record stands -/
structure RI (b1 : Nat) (h0 h : Heap) (X : DK) (e n p : Int) (s : Slc) (i : Int) (f0 : S_journal_head) : Prop where
  i0 : 0 ≤ i
  i1 : i ≤ 65535
  E : Ext b1 h0 h
  z : b1 + 1 ≤ h.size
  P : Blk h b1 (S_journal_head.cs f0) 56
  R : Row (b1 + 1) h 5 1 s (b8 (catR X p i.toNat))
  f : (i = 0 ∧ f0 = ⟨e, n, 0, 1, 0⟩) ∨ (0 < i ∧ (∃ pt, f0 = wantD X e n p pt) ∧ (rh X p).f_parts = jprtD (rh X p).f_size ∧ i ≤ (rh X p).f_parts)
  ok : ∀ j : Nat, (j : Int) < i → ROk X e n p j
theorem RI.ext {b1 : Nat} {h0 h h' : Heap} {e n p i : Int} {s : Slc} {f0 : S_journal_head} (w : RI b1 h0 h X e n p s i f0) (E : Ext h.size h h') : RI b1 h0 h' X e n p s i f0 :=
  { w with E := w.E.trans (E.mono (by have := w.z; omega)), z := Nat.le_trans w.z E.size, P := w.P.ext E w.P.lt, R := w.R.ext E fun g hg => (w.R.bd hg).2 }
theorem jp_bd {n : Int} (n0 : 0 ≤ n) : 1 ≤ jprtD n ∧ n ≤ 108 * jprtD n := by unfold jprtD; split <;> omega
theorem Rec_ok {fresh : Bool} {e' n' p' e n p : Int} {k : Slc × Bool → Heap → Prop} (D : DAt B c h d rn rs X) (S : StAt h sr d pr fresh e' n' p') (g : GoodX X) (p0 : 0 ≤ p ∧ p ≤ 5000)
    (H0 : ¬ RecW X e n p → ∀ h', Ext h.size h h' → k (⟨none, 0, 0⟩, false) h')
    (H1 : RecW X e n p → ∀ s h', SlcAt h' s (b8 (outR X p)) → s.len = (outR X p).length → s.len ≤ s.cap → (∀ a, s.a = some a → h.size ≤ a.block ∧ a.block < h'.size) → Ext h.size h h' → k (s, true) h') :
    journal_Store_record (some ⟨sr, 0, none⟩) e n p k h := by
  unfold journal_Store_record
  refine ⟨_, _, rfl, rfl, ?_⟩
  have P1 := Blk.push h (S_journal_head.cs ⟨0, 0, 0, 0, 0⟩) 56
  have W1 := Ext.push h (.cells (S_journal_head.cs ⟨0, 0, 0, 0, 0⟩).toArray 56) (Nat.le_refl _)
  generalize h.push (.cells (S_journal_head.cs ⟨0, 0, 0, 0, 0⟩).toArray 56) = h2 at *
  refine ⟨_, WrsAt.of_blk P1 (by show 5 ≤ 5; omega), rfl, ?_⟩
  have P2 := P1.sets_all (vs := S_journal_head.cs ⟨e, n, 0, 1, 0⟩) rfl
  have X2 : Ext h.size h (setsH h2 ⟨h.size, 0, none⟩ 0 (S_journal_head.cs ⟨e, n, 0, 1, 0⟩)) := W1.trans (Ext.sets _ _ _ (Nat.le_refl _))
  generalize setsH h2 ⟨h.size, 0, none⟩ 0 (S_journal_head.cs ⟨e, n, 0, 1, 0⟩) = h3 at *
  have pl := P2.lt
  obtain ⟨b1, eb1⟩ : ∃ y, y = h.size := ⟨_, rfl⟩
  rw [← eb1] at P2 X2 pl H0 H1 ⊢
  have hdp := rh_bd g p
  have jpb := jp_bd hdp.1
  have Sl := S.lt
  clear P1 W1
  unfold journal_Store_record_l1
  refine ⟨fun q h' => ∃ f0, RI b1 h h' X e n p q.1 q.2 f0, fun q _ => (70000 - q.2).toNat, ⟨_, by dsimp only; omega, by dsimp only; omega, X2, by omega, P2, Row.nil _ _ _ _, .inl ⟨rfl, rfl⟩, fun j hj => by dsimp only at hj; omega⟩, ?_⟩
  rintro s i h4 ⟨f0, w⟩
  dsimp only at w
  have i0 := w.i0
  have i1 := w.i1
  have z4 := w.z
  have D4 : DAt B c h4 d rn rs X := D.ext (by rw [← eb1]; exact w.E)
  have S4 : StAt h4 sr d pr fresh e' n' p' := Blk.ext S (by rw [← eb1]; exact w.E) Sl
  have bad : ∀ {h'}, ¬ RecW X e n p → Ext b1 h h' → k (⟨none, 0, 0⟩, false) h' := fun {h'} no E => H0 no h' E
  unfold journal_Store_record_l1b
  refine ⟨f0.f_parts, by rw [add_mk, w.P.cell]; rfl, ?_⟩
  by_cases ci : i < f0.f_parts
  · rw [if_pos (by rw [decide_eq_true_eq]; exact ci)]
    have hin : RecW X e n p → ROk X e n p i.toNat := fun wc => by
      rcases w.f with ⟨z, _⟩ | ⟨_, ⟨pt, ef⟩, _⟩
      · rw [z]; exact wc.1
      · rw [ef] at ci
        exact wc.2.2 i.toNat (by have : (wantD X e n p pt).f_parts = (rh X p).f_parts := rfl; omega)
    refine ⟨⟨sr, 0, none⟩, rfl, some ⟨d, 0, none⟩, by rw [S4.cell]; rfl, ?_⟩
    rw [wrapI64 (x := p + i) (by omega) (by omega)]
    refine DRead_ok D4 fun t h9 St lt ct ft X9 => ?_
    by_cases er : (readD X (p + i)).2 = 0
    rotate_left
    · rw [if_pos (by simpa using er)]
      refine bad (fun wc => er ?_) (w.E.trans (X9.mono (by omega)))
      have := (hin wc).1
      rw [show ((i.toNat : Nat) : Int) = i from by omega] at this
      exact this
    rw [if_neg (by rw [er]; simp)]
    have lb := read_len er
    refine jheadOf_ok St lt lb (by dsimp only; omega) (read_B g _) fun h11 X11 => ?_
    have X911 := X9.trans (X11.mono X9.size)
    have w11 := w.ext X911
    refine ⟨_, _, rfl, rfl, ?_⟩
    have V := Blk.push h11 (S_journal_head.cs ⟨0, 0, 0, 0, 0⟩) 56
    have W13 := Ext.push h11 (.cells (S_journal_head.cs ⟨0, 0, 0, 0, 0⟩).toArray 56) (Nat.le_refl _)
    generalize h11.push (.cells (S_journal_head.cs ⟨0, 0, 0, 0, 0⟩).toArray 56) = h13 at *
    refine ⟨_, WrsAt.of_blk V (by show 5 ≤ 5; omega), rfl, ?_⟩
    have V14 := V.sets_all (vs := S_journal_head.cs (jhdD (readD X (p + i)).1)) rfl
    have X14 : Ext h11.size h11 (setsH h13 ⟨h11.size, 0, none⟩ 0 (S_journal_head.cs (jhdD (readD X (p + i)).1))) := W13.trans (Ext.sets _ _ _ (Nat.le_refl _))
    generalize setsH h13 ⟨h11.size, 0, none⟩ 0 (S_journal_head.cs (jhdD (readD X (p + i)).1)) = h14 at *
    have w14 := w11.ext X14
    have St14 : SlcAt h14 t (b8 (readD X (p + i)).1) := (St.ext X11).ext X14
    have bl : b1 < h11.size := by have := w11.z; omega
    obtain ⟨hd, ehd⟩ : ∃ y, y = jhdD (readD X (p + i)).1 := ⟨_, rfl⟩
    rw [← ehd] at V14
    -- the rest: what is wanted being laid
    have rest : ∀ (h15 : Heap) (q1 q2 : Int) (pt : Int), Blk h15 b1 (S_journal_head.cs ⟨e, n, pt, q1, q2⟩) 56 → Blk h15 h11.size (S_journal_head.cs hd) 56 → (∀ j, j ≠ b1 → h15[j]? = h14[j]?) → h15.size = h14.size → (RecW X e n p → hd = ⟨e, n, i, q1, q2⟩ ∧ hd.f_parts = jprtD hd.f_size) → (hd = ⟨e, n, i, q1, q2⟩ → hd.f_parts = jprtD hd.f_size → q1 = (rh X p).f_parts ∧ q2 = (rh X p).f_size ∧ i < (rh X p).f_parts) →
        journal_Store_record_j2 (some ⟨sr, 0, none⟩) p s ⟨b1, 0, none⟩ i t ⟨h11.size, 0, none⟩ k (fun s' h' => (∃ f0, RI b1 h h' X e n p s'.1 s'.2 f0) ∧ (70000 - s'.2).toNat < (70000 - i).toNat) h15 := fun h15 q1 q2 pt Pb Vb o15 s15 ok0 ok1 => by
      have X015 : Ext b1 h h15 := w14.E.trans ⟨by omega, fun j hj => o15 j (by omega)⟩
      have R15 : Row (b1 + 1) h15 5 1 s (b8 (catR X p i.toNat)) := w14.R.keep fun q hq => o15 q (by have := (w14.R.bd hq).1; omega)
      have S15 : SlcAt h15 t (b8 (readD X (p + i)).1) := ⟨St14.1, fun a ha j v hj => by
        have := St14.2 a ha j v hj
        have hb := ft a ha
        rw [cellH_of (o15 _ (by show (a.add j).block ≠ b1; have : (a.add j).block = a.block := by unfold Addr.add; split <;> rfl
                                omega))]
        exact this⟩
      have z15 : b1 + 1 ≤ h15.size := by have := w14.z; omega
      have j3t : ∀ h', journal_Store_record_j3 (some ⟨sr, 0, none⟩) p s ⟨b1, 0, none⟩ i t true k (fun s' h' => (∃ f0, RI b1 h h' X e n p s'.1 s'.2 f0) ∧ (70000 - s'.2).toNat < (70000 - i).toNat) h' = k (⟨none, 0, 0⟩, false) h' := fun h' => by
        unfold journal_Store_record_j3; rw [if_pos rfl]
      unfold journal_Store_record_j2
      refine ⟨_, by rw [add_mk]; exact Pb.wr (by show _ < 5; omega), rfl, ?_⟩
      rw [add_mk]
      have P16 : Blk (setH h15 ⟨b1, 0 + 2, none⟩ (.int .i64 i)) b1 (S_journal_head.cs ⟨e, n, i, q1, q2⟩) 56 := Pb.set
      have o16 : ∀ j, j ≠ b1 → (setH h15 ⟨b1, 0 + 2, none⟩ (.int .i64 i))[j]? = h15[j]? := fun j hj => setH_other hj
      have s16 : (setH h15 ⟨b1, 0 + 2, none⟩ (.int .i64 i)).size = h15.size := setH_size
      generalize setH h15 ⟨b1, 0 + 2, none⟩ (.int .i64 i) = h16 at *
      have V16 := Vb.old (o16 _ (by omega))
      have X016 : Ext b1 h h16 := X015.trans ⟨by omega, fun j hj => o16 j (by omega)⟩
      have R16 : Row (b1 + 1) h16 5 1 s (b8 (catR X p i.toNat)) := R15.keep fun q hq => o16 q (by have := (R15.bd hq).1; omega)
      have S16 : SlcAt h16 t (b8 (readD X (p + i)).1) := ⟨S15.1, fun a ha j v hj => by
        have := S15.2 a ha j v hj
        have hb := ft a ha
        rw [cellH_of (o16 _ (by show (a.add j).block ≠ b1; have : (a.add j).block = a.block := by unfold Addr.add; split <;> rfl
                                omega))]
        exact this⟩
      refine ⟨hd, CellsAt.of_blk V16, _, CellsAt.of_blk P16, ?_⟩
      by_cases ee : hd = ⟨e, n, i, q1, q2⟩
      · have e2 := jh_eq.2 ee
        rw [if_neg (by rw [if_neg (by decide), e2]; decide)]
        have hs0 : 0 ≤ hd.f_size ∧ hd.f_size < 4294967296 := by rw [ehd]; exact fld4 (read_B g _) 16
        refine ⟨hd.f_parts, by rw [add_mk, V16.cell]; rfl, hd.f_size, by rw [add_mk, V16.cell]; rfl, JParts_ok hs0.1 (by omega) ⟨by rw [add_mk, V16.cell]; rfl, ?_⟩⟩
        by_cases q3 : hd.f_parts = jprtD hd.f_size
        · rw [show (hd.f_parts != jprtD hd.f_size) = false from by simpa using q3]
          obtain ⟨c1, c2, c3⟩ := ok1 ee q3
          unfold journal_Store_record_j3
          rw [if_neg (by simp)]
          have tl : t.len = 128 := by rw [← lb]; exact lt
          rw [tl, wrapI64 (x := ((128 : Nat) : Int) - 108) (by omega) (by omega)]
          refine ⟨_, by omega, by omega, by omega, by omega, rfl, b8 ((readD X (p + i)).1.drop 20), ?_, ?_⟩
          · have := SlcAt.sub (w := 1) (l := (((128 : Nat) : Int) - 108).toNat) (u := (((128 : Nat) : Int)).toNat) (m := ((t.cap : Nat) : Int).toNat) S16 (by omega) (by omega)
            rw [Nat.mul_one, Nat.mul_one, ← List.map_drop, ← List.map_take, List.take_of_length_le (by rw [List.length_drop, lb]; omega)] at this
            exact this
          · have okn : ROk X e n p i.toNat := by
              unfold ROk wantD
              rw [show ((i.toNat : Nat) : Int) = i from by omega, ← ehd, ee, c1, c2]
              exact ⟨er, rfl⟩
            have ls : s.len = 108 * i.toNat := by
              have := R16.len
              rw [this, List.length_map, catR_len]
              intro j hj; exact (w.ok j (by omega)).1
            refine App.row2 R16 (by omega) rfl (by rw [List.length_map, List.length_drop, lb]; rfl) (b8_one _) (by show (s.len + (128 - 20)) * 1 ≤ _; omega) (by show s.len + (128 - 20) ≤ _; simp only [maxLen]; omega) fun s' h22 R22 _ z22 kp _ _ => ?_
            have ne : ∀ j, j ≤ b1 → s.blk ≠ some j := fun j hj e => by have := (R16.bd e).1; omega
            refine ⟨_, rfl, ?_⟩
            rw [wrapI64 (by omega) (by omega)]
            refine ⟨⟨⟨e, n, i, q1, q2⟩, ⟨by dsimp only; omega, by dsimp only; omega, X016.trans ⟨z22, fun j hj => kp j (by omega) (ne j (by omega))⟩, by omega, P16.old (kp b1 P16.lt (ne b1 (Nat.le_refl _))), ?_, .inr ⟨by dsimp only; omega, ⟨i, by rw [c1, c2]; rfl⟩, ?_, by dsimp only; omega⟩, fun j hj => ?_⟩⟩, by dsimp only; omega⟩
            · dsimp only
              rw [show (i + 1).toNat = i.toNat + 1 from by omega, catR_succ, show ((i.toNat : Nat) : Int) = i from by omega, b8, List.map_append]
              exact R22
            · rw [← c1, ← c2]
              rw [ee] at q3
              exact q3
            · dsimp only at hj
              by_cases ej : (j : Int) < i
              · exact w.ok j ej
              · rw [show j = i.toNat from by omega]; exact okn
        · rw [show (hd.f_parts != jprtD hd.f_size) = true from by simpa using q3, j3t]
          exact bad (fun wc => q3 (ok0 wc).2) X016
      · have e2 : ((hd.f_epoch == (⟨e, n, i, q1, q2⟩ : S_journal_head).f_epoch) && (hd.f_number == (⟨e, n, i, q1, q2⟩ : S_journal_head).f_number) && (hd.f_part == (⟨e, n, i, q1, q2⟩ : S_journal_head).f_part) && (hd.f_parts == (⟨e, n, i, q1, q2⟩ : S_journal_head).f_parts) && (hd.f_size == (⟨e, n, i, q1, q2⟩ : S_journal_head).f_size)) = false := by
          rw [Bool.eq_false_iff]; exact fun hh => ee (jh_eq.1 hh)
        rw [if_pos (by rw [if_neg (by decide), e2]; rfl), j3t]
        exact bad (fun wc => ee (ok0 wc).1) X016
    have inh : RecW X e n p → hd = wantD X e n p i := fun wc => by
      have := (hin wc).2
      rw [show ((i.toNat : Nat) : Int) = i from by omega, ← ehd] at this
      exact this
    by_cases iz : i = 0
    · rw [if_pos (by simpa using iz)]
      rcases w14.f with ⟨_, ef⟩ | ⟨z, _⟩
      rotate_left
      · omega
      have P14 := w14.P
      rw [ef] at P14
      have ehp : hd = rh X p := by rw [ehd, iz, Int.add_zero]; rfl
      refine ⟨hd.f_parts, by rw [add_mk, V14.cell]; rfl, hd.f_size, by rw [add_mk, V14.cell]; rfl, _, by rw [add_mk]; exact P14.wr (by show _ < 5; omega), rfl, ?_⟩
      rw [add_mk, add_mk, add_mk]
      have P15 : Blk (setH h14 ⟨b1, 0 + 3, none⟩ (.int .i64 hd.f_parts)) b1 (S_journal_head.cs ⟨e, n, 0, hd.f_parts, 0⟩) 56 := P14.set
      have o15 : ∀ j, j ≠ b1 → (setH h14 ⟨b1, 0 + 3, none⟩ (.int .i64 hd.f_parts))[j]? = h14[j]? := fun j hj => setH_other hj
      have s15 : (setH h14 ⟨b1, 0 + 3, none⟩ (.int .i64 hd.f_parts)).size = h14.size := setH_size
      generalize setH h14 ⟨b1, 0 + 3, none⟩ (.int .i64 hd.f_parts) = h15 at *
      have V15 := V14.old (o15 _ (by omega))
      refine ⟨by rw [V15.cell]; rfl, _, P15.wr (by show _ < 5; omega), rfl, ?_⟩
      have P16 : Blk (setH h15 ⟨b1, 0 + 4, none⟩ (.int .i64 hd.f_size)) b1 (S_journal_head.cs ⟨e, n, 0, hd.f_parts, hd.f_size⟩) 56 := P15.set
      have o16 : ∀ j, j ≠ b1 → (setH h15 ⟨b1, 0 + 4, none⟩ (.int .i64 hd.f_size))[j]? = h14[j]? := fun j hj => (setH_other hj).trans (o15 j hj)
      have s16 : (setH h15 ⟨b1, 0 + 4, none⟩ (.int .i64 hd.f_size)).size = h14.size := by rw [setH_size]; exact s15
      generalize setH h15 ⟨b1, 0 + 4, none⟩ (.int .i64 hd.f_size) = h16 at *
      refine rest h16 hd.f_parts hd.f_size 0 P16 (V14.old (o16 _ (by omega))) o16 s16 (fun wc => ?_) (fun e1 e2 => ?_)
      · have := inh wc
        have q := wc.2.1
        rw [← ehp] at q
        refine ⟨?_, q⟩
        rw [this]
        unfold wantD
        rw [← ehp]
      · rw [ehp] at e2 ⊢
        refine ⟨rfl, rfl, ?_⟩
        have := (jp_bd hdp.1).1
        omega
    · rw [if_neg (by simpa using iz)]
      rcases w14.f with ⟨z, _⟩ | ⟨_, ⟨pt, ef⟩, q3, il⟩
      · exact absurd z iz
      · have P14 := w14.P
        rw [ef] at P14 ci
        refine rest h14 (rh X p).f_parts (rh X p).f_size pt P14 V14 (fun _ _ => rfl) rfl (fun wc => ?_) (fun e1 e2 => ⟨rfl, rfl, ci⟩)
        have := inh wc
        exact ⟨this, by rw [this]; exact q3⟩
  · rw [if_neg (by rw [decide_eq_true_eq]; exact ci)]
    rcases w.f with ⟨z, ef⟩ | ⟨ip, ⟨pt, ef⟩, q3, il⟩
    · rw [ef] at ci
      exact absurd (by rw [z]; show (0 : Int) < 1; decide) ci
    · have ie : i = (rh X p).f_parts := by rw [ef] at ci; have : (wantD X e n p pt).f_parts = (rh X p).f_parts := rfl; omega
      have wc : RecW X e n p := ⟨w.ok 0 (by omega), q3, fun j hj => w.ok j (by omega)⟩
      have lsz := catR_len (X := X) (p := p) i.toNat fun j hj => (w.ok j (by omega)).1
      have ls : s.len = 108 * i.toNat := by have := w.R.len; rw [this, List.length_map, lsz]
      have lc := w.R.cap
      have szb : (rh X p).f_size ≤ 108 * (rh X p).f_parts := by rw [q3]; exact jpb.2
      refine ⟨(rh X p).f_size, by rw [add_mk, w.P.cell, ef]; rfl, _, by omega, by omega, by omega, by omega, rfl, ?_⟩
      have Rs := w.R
      rw [ie] at Rs lsz
      have So : SlcAt h4 (subS s 1 (0 : Int).toNat (rh X p).f_size.toNat ((s.cap : Nat) : Int).toNat) (b8 (outR X p)) := by
        have := SlcAt.sub (w := 1) (l := (0 : Int).toNat) (u := (rh X p).f_size.toNat) (m := ((s.cap : Nat) : Int).toNat) Rs.slc (by simp) (by omega)
        rw [Nat.mul_one, Nat.mul_one, ← List.map_drop, ← List.map_take] at this
        exact this
      have lo : (outR X p).length = (rh X p).f_size.toNat := by unfold outR; rw [List.length_take, lsz]; omega
      refine H1 wc _ h4 So (by rw [lo]; show (rh X p).f_size.toNat - (0 : Int).toNat = _; simp) (by show (rh X p).f_size.toNat - (0 : Int).toNat ≤ ((s.cap : Nat) : Int).toNat - (0 : Int).toNat; simp only [Int.toNat_zero, Int.toNat_natCast]; omega) (fun a ha => ?_) w.E
      have : ∃ a', s.a = some a' ∧ a'.block = a.block := by
        unfold subS at ha
        simp only at ha
        split at ha
        · exact ⟨a, ha, rfl⟩
        · cases hs : s.a with
          | none => rw [hs] at ha; cases ha
          | some a' =>
            rw [hs] at ha
            refine ⟨a', rfl, ?_⟩
            have := Option.some.inj ha
            rw [← this]
            unfold Addr.add; split <;> rfl
      obtain ⟨a', h1, h2⟩ := this
      have := w.R.bd (g := a'.block) (by simp [Slc.blk, h1])
      omega
end Go.Q.Yf
/- Journal: sectors that are written one behind the other, and a boot, plainly. -/
namespace Go.Q.Yf
def gV (g : Nat → List Int) (n : Nat) : Sec := ⟨padB (g n), false⟩
def wrUp (p : Int) (g : Nat → List Int) (X : DK) : Nat → Int × DK
  | 0 => (0, X)
  | n + 1 => if (wrUp p g X n).1 ≠ 0 then wrUp p g X n else writeD (wrUp p g X n).2 (p + n) (g n)
def wrD (p : Int) (g : Nat → List Int) (X : DK) (N : Nat) : Int × DK := if (wrUp p g X N).1 ≠ 0 then wrUp p g X N else syncD (wrUp p g X N).2
/-- m sectors are laid -/
structure LG (X Y : DK) (p : Int) (g : Nat → List Int) (m : Nat) : Prop where
  now : ∀ a, vD Y a = vD X a ∨ ∃ j : Nat, j < m ∧ a = p + j
  all : ∀ j : Nat, j < m → vD Y (p + j) = gV g j
  safe : ∀ a s, mget Y.safe a = some s → s = vD X a ∧ ∃ j : Nat, j < m ∧ a = p + j
theorem LG.put {X Y : DK} {p : Int} {g : Nat → List Int} {m : Nat} (L : LG X Y p g m) : LG X (burnD (laidD Y (p + m) (g m))).2 p g (m + 1) := by
  have en : ∀ a, vD (burnD (laidD Y (p + m) (g m))).2 a = if a = p + m then gV g m else vD Y a := fun a => by
    unfold vD
    rw [burn_now]
    show (mget (mput Y.now (p + m) ⟨padB (g m), false⟩) a).getD zSec = _
    rw [mget_put]
    split
    · rfl
    · rfl
  refine ⟨fun a => ?_, fun j hj => ?_, fun a s hs => ?_⟩
  · rw [en]
    by_cases e : a = p + m
    · exact .inr ⟨m, by omega, e⟩
    · rw [if_neg e]
      rcases L.now a with h | ⟨j, h1, h2⟩
      · exact .inl h
      · exact .inr ⟨j, by omega, h2⟩
  · rw [en]
    by_cases e : j = m
    · rw [if_pos (by rw [e]), e]
    · rw [if_neg (by omega)]; exact L.all j (by omega)
  · rw [burn_safe] at hs
    have old : mget Y.safe a = some s → s = vD X a ∧ ∃ j : Nat, j < m + 1 ∧ a = p + j := fun hs => by
      obtain ⟨h1, j, h2, h3⟩ := L.safe a s hs
      exact ⟨h1, j, by omega, h3⟩
    unfold laidD at hs
    dsimp only at hs
    split at hs
    · exact old hs
    · rw [mget_put] at hs
      by_cases e : a = p + m
      · rw [if_pos e] at hs
        cases hs
        refine ⟨?_, m, by omega, e⟩
        rw [e]
        rcases L.now (p + m) with h | ⟨j, h1, h2⟩
        · exact h
        · omega
      · rw [if_neg e] at hs
        exact old hs
theorem wrUp_mid {X : DK} {p : Int} {g : Nat → List Int} (hg : ∀ n, (g n).length ≤ 128) (hd : X.dead = false) (hs : X.safe = []) (p0 : 0 ≤ p) : ∀ n : Nat, p + n ≤ 1024 →
    ((wrUp p g X n).1 = 0 ∧ (wrUp p g X n).2.dead = false ∧ LG X (wrUp p g X n).2 p g n) ∨ ((wrUp p g X n).1 = 10 ∧ (wrUp p g X n).2.dead = true ∧ ∃ m : Nat, m ≤ n ∧ LG X (wrUp p g X n).2 p g m)
  | 0, _ => .inl ⟨rfl, hd, fun a => .inl rfl, fun j hj => by omega, fun a s h => by
      change mget X.safe a = some s at h
      rw [hs] at h; cases h⟩
  | n + 1, hn => by
    rcases wrUp_mid (g := g) hg hd hs p0 n (by omega) with ⟨e, dd, L⟩ | ⟨e, dd, m, hm, L⟩
    · have el : wrUp p g X (n + 1) = (endD (burnD (laidD (wrUp p g X n).2 (p + n) (g n))).1, (burnD (laidD (wrUp p g X n).2 (p + n) (g n))).2) := by
        rw [wrUp, if_neg (by rw [e]; simp)]
        show writeD (wrUp p g X n).2 (p + n) (g n) = _
        unfold writeD
        rw [if_neg (by rw [dd]; simp), if_neg (by omega), if_neg (by have := hg n; omega)]
      have bd := burn_dead (X := laidD (wrUp p g X n).2 (p + n) (g n)) dd
      have Lp := L.put
      rw [el]
      dsimp only
      rw [bd]
      cases hb : (burnD (laidD (wrUp p g X n).2 (p + n) (g n))).1 with
      | false => exact .inl ⟨rfl, rfl, Lp⟩
      | true => exact .inr ⟨rfl, rfl, n + 1, by omega, Lp⟩
    · have el : wrUp p g X (n + 1) = wrUp p g X n := by rw [wrUp, if_pos (by rw [e]; simp)]
      rw [el]
      exact .inr ⟨e, dd, m, by omega, L⟩
/-- after a boot every place is as it was, as it was laid, or torn -/
theorem bootG_tri {X Y : DK} {p : Int} {g : Nat → List Int} {m : Nat} (L : LG X Y p g m) (fs : List Int) (a : Int) :
    vD (bootD Y fs) a = vD X a ∨ ∃ j : Nat, j < m ∧ a = p + j ∧ (vD (bootD Y fs) a = gV g j ∨ vD (bootD Y fs) a = ⟨[], true⟩) := by
  have b := bootGo_or (fs := fs) (safe := Y.safe) (now := Y.now) (ks := keysD Y) a Y.safe.length (by rw [keysD_len]; exact Nat.le_refl _)
  have ev : vD (bootD Y fs) a = (mget (bootGo fs Y.safe (keysD Y) Y.safe.length Y.now) a).getD zSec := rfl
  rcases b with b | ⟨hk, b | b⟩
  · have e : vD (bootD Y fs) a = vD Y a := by rw [ev, b]; rfl
    rw [e]
    rcases L.now a with h | ⟨j, h1, h2⟩
    · exact .inl h
    · exact .inr ⟨j, h1, h2, .inl (by rw [h2]; exact L.all j h1)⟩
  · obtain ⟨v, hv⟩ := keys_mem hk
    left
    rw [ev, b, hv]
    exact (L.safe a v hv).1
  · obtain ⟨v, hv⟩ := keys_mem hk
    obtain ⟨_, j, h1, h2⟩ := L.safe a v hv
    exact .inr ⟨j, h1, h2, .inr (by rw [ev, b]; rfl)⟩

theorem wrD_end {X : DK} {p : Int} {g : Nat → List Int} {N : Nat} (hg : ∀ n, (g n).length ≤ 128) (hd : X.dead = false) (hs : X.safe = []) (p0 : 0 ≤ p) (pN : p + N ≤ 1024) :
    ((wrD p g X N).1 = 0 ∧ (wrD p g X N).2.dead = false ∧ (wrD p g X N).2.safe = [] ∧ LG X (wrD p g X N).2 p g N) ∨ ((wrD p g X N).1 = 10 ∧ (wrD p g X N).2.dead = true ∧ ∃ m : Nat, m ≤ N ∧ LG X (wrD p g X N).2 p g m) := by
  unfold wrD
  rcases wrUp_mid (g := g) hg hd hs p0 N pN with ⟨e, dd, L⟩ | ⟨e, dd, m, hm, L⟩
  · rw [if_neg (by rw [e]; simp)]
    have bd := burn_dead (X := (wrUp p g X N).2) dd
    have bn : ∀ a, vD (burnD (wrUp p g X N).2).2 a = vD (wrUp p g X N).2 a := fun a => by unfold vD; rw [burn_now]
    have es : syncD (wrUp p g X N).2 = if (burnD (wrUp p g X N).2).1 = true then (10, (burnD (wrUp p g X N).2).2) else (0, { (burnD (wrUp p g X N).2).2 with safe := [] }) := by
      unfold syncD
      rw [if_neg (by rw [dd]; simp)]
    rw [es]
    cases hb : (burnD (wrUp p g X N).2).1 with
    | true =>
      rw [if_pos rfl]
      refine .inr ⟨rfl, by rw [bd, hb], N, Nat.le_refl _, fun a => by rw [bn]; exact L.now a, fun j hj => by rw [bn]; exact L.all j hj, fun a s h => by rw [burn_safe] at h; exact L.safe a s h⟩
    | false =>
      rw [if_neg (by simp)]
      refine .inl ⟨rfl, by show (burnD (wrUp p g X N).2).2.dead = false; rw [bd, hb], rfl, fun a => ?_, fun j hj => ?_, fun a s h => by cases h⟩
      · show vD (burnD (wrUp p g X N).2).2 a = _ ∨ _
        rw [bn]; exact L.now a
      · show vD (burnD (wrUp p g X N).2).2 _ = _
        rw [bn]; exact L.all j hj
  · rw [if_pos (by rw [e]; simp)]
    exact .inr ⟨e, dd, m, hm, L⟩
theorem wr_free {X : DK} {p : Int} {g : Nat → List Int} (hg : ∀ n, (g n).length ≤ 128) (hd : X.dead = false) (hf : X.fuse = 0) (p0 : 0 ≤ p) : ∀ n : Nat, p + n ≤ 1024 → (wrUp p g X n).1 = 0 ∧ (wrUp p g X n).2.dead = false ∧ (wrUp p g X n).2.fuse = 0
  | 0, _ => ⟨rfl, hd, hf⟩
  | n + 1, hn => by
    obtain ⟨e, dd, ff⟩ := wr_free (g := g) hg hd hf p0 n (by omega)
    have el : wrUp p g X (n + 1) = (endD (burnD (laidD (wrUp p g X n).2 (p + n) (g n))).1, (burnD (laidD (wrUp p g X n).2 (p + n) (g n))).2) := by
      rw [wrUp, if_neg (by rw [e]; simp)]
      unfold writeD
      rw [if_neg (by rw [dd]; simp), if_neg (by omega), if_neg (by have := hg n; omega)]
    obtain ⟨b1, b2, b3⟩ := burn_free (X := laidD (wrUp p g X n).2 (p + n) (g n)) ff
    rw [el]
    dsimp only
    exact ⟨by rw [b1]; rfl, by rw [b2]; exact dd, b3⟩
theorem wrD_free {X : DK} {p : Int} {g : Nat → List Int} {N : Nat} (hg : ∀ n, (g n).length ≤ 128) (hd : X.dead = false) (hf : X.fuse = 0) (hs : X.safe = []) (p0 : 0 ≤ p) (pN : p + N ≤ 1024) :
    (wrD p g X N).1 = 0 ∧ (wrD p g X N).2.dead = false ∧ (wrD p g X N).2.fuse = 0 ∧ (wrD p g X N).2.safe = [] ∧ LG X (wrD p g X N).2 p g N := by
  obtain ⟨e, dd, ff⟩ := wr_free (g := g) hg hd hf p0 N pN
  obtain ⟨b1, b2, b3⟩ := burn_free (X := (wrUp p g X N).2) ff
  have es : syncD (wrUp p g X N).2 = (0, { (burnD (wrUp p g X N).2).2 with safe := [] }) := by
    unfold syncD
    rw [if_neg (by rw [dd]; simp), if_neg (by rw [b1]; simp)]
  have el : wrD p g X N = (0, { (burnD (wrUp p g X N).2).2 with safe := [] }) := by
    unfold wrD
    rw [if_neg (by rw [e]; simp), es]
  rcases wrD_end (g := g) (N := N) hg hd hs p0 pN with ⟨_, _, _, L⟩ | ⟨_, q, _⟩
  · exact ⟨by rw [el], by rw [el]; exact b2.trans dd, by rw [el]; exact b3, by rw [el], L⟩
  · rw [el] at q
    have : (burnD (wrUp p g X N).2).2.dead = true := q
    rw [b2, dd] at this
    cases this
theorem rdG_new {Z : DK} {a : Int} {g : Nat → List Int} {j : Nat} (hg : (g j).length ≤ 128) (ha : 0 ≤ a ∧ a < 1024) (h : vD Z a = gV g j) : readD Z a = (padB (g j), 0) := by
  unfold readD
  unfold vD at h
  rw [if_neg (by omega), h]
  show (if false = true then _ else (secB (gV g j), (0 : Int))) = _
  rw [if_neg (by simp)]
  unfold gV
  rw [secB_pad hg]
theorem gV_B {g : Nat → List Int} {j : Nat} (hg : (g j).length ≤ 128) (h : isB (g j)) : isB (secB (gV g j)) := by
  unfold gV
  rw [secB_pad hg]
  exact pad_B h
end Go.Q.Yf
/- Journal: records are appended. -/
namespace Go.Q.Yf
variable {B c : Nat} {h h' : Heap} {d rn rs pr sr : Nat} {X : DK}
/-- whatever but the disk and the store is as it was -/
structure JF (d rn rs sr : Nat) (h h' : Heap) : Prop where
  size : h.size ≤ h'.size
  block : ∀ g, g < h.size → g ≠ d → g ≠ rn → g ≠ rs → g ≠ sr → h'[g]? = h[g]?
theorem JF.of_df (F : DF d rn rs h h') : JF d rn rs sr h h' := ⟨F.size, fun g hg a b c _ => F.block g hg a b c⟩
theorem JF.of_ext (E : Ext h.size h h') : JF d rn rs sr h h' := JF.of_df (DF.of_ext E)
theorem JF.trans {h'' : Heap} (p : JF d rn rs sr h h') (q : JF d rn rs sr h' h'') : JF d rn rs sr h h'' :=
  ⟨Nat.le_trans p.size q.size, fun g hg a b c e => (q.block g (Nat.lt_of_lt_of_le hg p.size) a b c e).trans (p.block g hg a b c e)⟩
theorem JF.set {i : Nat} {v : Value} : JF d rn rs sr h (setH h ⟨sr, i, none⟩ v) := ⟨by rw [setH_size]; exact Nat.le_refl _, fun g _ _ _ _ hs => setH_other hs⟩
theorem JF.ext (F : JF d rn rs sr h h') (D : DAt B c h d rn rs X) (hs : B ≤ sr) (hB : B ≤ h.size) : Ext B h h' := ⟨F.size, fun g hg => F.block g (by omega) (by have := D.bd.1; omega) (by have := D.bd.2.1; omega) (by have := D.bd.2.2; omega) (by omega)⟩
theorem StAt.set {fresh : Bool} {e n p : Int} {i : Nat} {v : Value} {cs' : List Value} (S : StAt h sr d pr fresh e n p) (hc : (scs d pr fresh e n p).set i v = cs') : Blk (setH h ⟨sr, i, none⟩ v) sr cs' 50 := by
  have := Blk.set (i := i) (v := v) S
  rw [hc] at this
  exact this
theorem StAt.ne {fresh : Bool} {e n p : Int} (S : StAt h sr d pr fresh e n p) (D : DAt B c h d rn rs X) : sr ≠ d ∧ sr ≠ rn ∧ sr ≠ rs :=
  ⟨fun q => by subst q; have := (Blk.inj S D.P).2; omega, blk_map S D.N, blk_map S D.S⟩
theorem StAt.df {fresh : Bool} {e n p : Int} (S : StAt h sr d pr fresh e n p) (D : DAt B c h d rn rs X) (F : DF d rn rs h h') : StAt h' sr d pr fresh e n p :=
  Blk.old S (F.block sr S.lt (S.ne D).1 (S.ne D).2.1 (S.ne D).2.2)
theorem DAt.st {fresh : Bool} {e n p : Int} {i : Nat} {v : Value} (D : DAt B c h d rn rs X) (S : StAt h sr d pr fresh e n p) : DAt B c (setH h ⟨sr, i, none⟩ v) d rn rs X :=
  D.keep (setH_other fun q => (S.ne D).1 q.symm) (setH_other fun q => (S.ne D).2.1 q.symm) (setH_other fun q => (S.ne D).2.2 q.symm)
theorem PairAt.st {fresh : Bool} {e n p : Int} {i : Nat} {v : Value} {fr kk : Int} (P : PairAt h pr d fr kk) (S : StAt h sr d pr fresh e n p) : PairAt (setH h ⟨sr, i, none⟩ v) pr d fr kk :=
  Blk.old P (setH_other fun q => by subst q; have := (Blk.inj P S).2; omega)
/-- a record's sectors -/
def recH (e n : Int) (bs : List Int) (i : Nat) : S_journal_head := ⟨e, n, (i : Int), jprtD bs.length, bs.length⟩
def recS (e n : Int) (bs : List Int) (i : Nat) : List Int := jhbD (recH e n bs i) ++ (bs.drop (i * 108)).take 108
theorem recS_le (e n : Int) (bs : List Int) (i : Nat) : (recS e n bs i).length ≤ 128 := by
  unfold recS
  rw [List.length_append, jhbD_len]
  have : ((bs.drop (i * 108)).take 108).length ≤ 108 := List.length_take_le _ _
  omega
theorem wrUp_stick {p : Int} {g : Nat → List Int} {X : DK} {n : Nat} (e : (wrUp p g X n).1 ≠ 0) : ∀ m, n ≤ m → wrUp p g X m = wrUp p g X n
  | 0, hm => by rw [show n = 0 by omega]
  | m + 1, hm => by
    by_cases q : n = m + 1
    · rw [q]
    · have ih := wrUp_stick e m (by omega)
      rw [wrUp, if_pos (by rw [ih]; exact e), ih]
theorem jprt_le {n i : Int} (n0 : 0 ≤ n) (i0 : 0 ≤ i) (hi : i < jprtD n) : i * 108 ≤ n ∧ (0 < n → i * 108 < n) := by
  unfold jprtD at hi; split at hi <;> omega
/-- what an append answers -/
def appR (fresh : Bool) (e n p : Int) (bs : List Int) (X : DK) : Int × DK := wrD p (recS e n bs) X (jprtD bs.length).toNat
theorem Append_ok {e n p : Int} {s : Slc} {bs : List Int} {k : Int → Heap → Prop} (D : DAt B c h d rn rs X) (S : StAt h sr d pr true e n p) (e0 : 0 ≤ e) (n0 : 0 ≤ n ∧ n < 4294967296) (p0 : 0 ≤ p)
    (hs : ∀ h', JF d rn rs sr h h' → SlcAt h' s (b8 bs)) (sl : s.len = bs.length) (sc : s.len ≤ s.cap) (bl : bs.length ≤ 4096) (pk : p + jprtD bs.length ≤ 1024)
    (H : ∀ c' h' Y r, (r, Y) = wrD p (recS e n bs) X (jprtD bs.length).toNat → c' ≤ c + 50 → DAt B c' h' d rn rs Y → JF d rn rs sr h h' → (r = 0 → StAt h' sr d pr true e (n + 1) (p + jprtD bs.length)) → (r ≠ 0 → StAt h' sr d pr false e n p) → k r h') :
    journal_Store_Append (some ⟨sr, 0, none⟩) s k h := by
  have pp := (jp_bd (n := (bs.length : Int)) (by omega)).1
  have p40 : jprtD bs.length ≤ 40 := by unfold jprtD; split <;> omega
  obtain ⟨N, eN⟩ : ∃ N : Nat, N = (jprtD bs.length).toNat := ⟨_, rfl⟩
  unfold journal_Store_Append
  rw [if_neg (by simp)]
  refine ⟨_, rfl, true, by rw [add_mk, S.cell]; rfl, ?_⟩
  unfold journal_Store_Append_g1
  rw [if_neg (by simp), if_neg (by rw [decide_eq_true_eq]; omega), sl]
  refine ⟨_, rfl, p, by rw [add_mk, S.cell]; rfl, JParts_ok (by omega) (by omega) ⟨by rw [add_mk, S.cell]; rfl, ?_⟩⟩
  rw [wrapI64 (x := p + jprtD bs.length) (by omega) (by omega), if_neg (by rw [decide_eq_true_eq]; omega)]
  refine ⟨_, by rw [add_mk]; exact S.wr (by show _ < 6; omega), rfl, ?_⟩
  rw [add_mk]
  have S6 : StAt (setH h ⟨sr, 0 + 2, none⟩ (.bool false)) sr d pr false e n p := S.set rfl
  have D6 := D.st (i := 0 + 2) (v := .bool false) S
  have F6 : JF d rn rs sr h (setH h ⟨sr, 0 + 2, none⟩ (.bool false)) := JF.set
  generalize setH h ⟨sr, 0 + 2, none⟩ (.bool false) = h6 at *
  refine ⟨e, by rw [add_mk, S6.cell]; rfl, n, by rw [add_mk, S6.cell]; rfl, ?_⟩
  -- the loop
  have main : ∀ h7, Blk h7 h6.size (S_journal_head.cs ⟨e, n, 0, jprtD bs.length, bs.length⟩) 56 → Ext h6.size h6 h7 → journal_Store_Append_j2 (some ⟨sr, 0, none⟩) s ⟨h6.size, 0, none⟩ k h7 := fun h7 V7 X7 => by
    have S7 : StAt h7 sr d pr false e n p := Blk.ext S6 X7 S6.lt
    have D7 := D6.ext X7
    have F7 : JF d rn rs sr h h7 := F6.trans (JF.of_ext X7)
    have vne : h6.size ≠ d ∧ h6.size ≠ rn ∧ h6.size ≠ rs ∧ h6.size ≠ sr := ⟨by have := D6.P.lt; omega, by have := D6.N.lt; omega, by have := D6.S.lt; omega, by have := S6.lt; omega⟩
    obtain ⟨hb, ehb⟩ : ∃ y, y = h6.size := ⟨_, rfl⟩
    rw [← ehb] at V7 vne ⊢
    clear X7
    unfold journal_Store_Append_j2
    refine ⟨jprtD bs.length, by rw [add_mk, V7.cell]; rfl, ?_⟩
    unfold journal_Store_Append_l3
    refine ⟨fun i h' => 0 ≤ i ∧ i ≤ jprtD bs.length ∧ JF d rn rs sr h h' ∧ hb < h'.size ∧ (∃ pt, Blk h' hb (S_journal_head.cs ⟨e, n, pt, jprtD bs.length, bs.length⟩) 56) ∧ DAt B (c + i.toNat) h' d rn rs (wrUp p (recS e n bs) X i.toNat).2 ∧ StAt h' sr d pr false e n p ∧ (wrUp p (recS e n bs) X i.toNat).1 = 0, fun i _ => (jprtD bs.length - i).toNat, ⟨by omega, by omega, F7, V7.lt, ⟨0, V7⟩, D7, S7, rfl⟩, ?_⟩
    rintro i h8 ⟨i0, i1, F8, hbl, ⟨pt, V8⟩, D8, S8, e8⟩
    unfold journal_Store_Append_l3b
    by_cases ci : i < jprtD bs.length
    · rw [if_pos (by rw [decide_eq_true_eq]; exact ci)]
      obtain ⟨p1, p2⟩ := jprt_le (n := (bs.length : Int)) (by omega) i0 ci
      refine ⟨_, by rw [add_mk]; exact V8.wr (by show _ < 5; omega), rfl, ?_⟩
      rw [add_mk]
      have V9 : Blk (setH h8 ⟨hb, 0 + 2, none⟩ (.int .i64 i)) hb (S_journal_head.cs ⟨e, n, i, jprtD bs.length, bs.length⟩) 56 := V8.set
      have o9 : ∀ j, j ≠ hb → (setH h8 ⟨hb, 0 + 2, none⟩ (.int .i64 i))[j]? = h8[j]? := fun j hj => setH_other hj
      have z9 : (setH h8 ⟨hb, 0 + 2, none⟩ (.int .i64 i)).size = h8.size := setH_size
      generalize setH h8 ⟨hb, 0 + 2, none⟩ (.int .i64 i) = h9 at *
      have hge : h.size ≤ hb := by have := F6.size; omega
      have F9 : JF d rn rs sr h h9 := ⟨by have := F8.size; omega, fun g hg a b c e => (o9 g (by omega)).trans (F8.block g hg a b c e)⟩
      have D9 : DAt B (c + i.toNat) h9 d rn rs (wrUp p (recS e n bs) X i.toNat).2 := D8.keep (o9 _ (fun e => vne.1 e.symm)) (o9 _ (fun e => vne.2.1 e.symm)) (o9 _ (fun e => vne.2.2.1 e.symm))
      have S9 : StAt h9 sr d pr false e n p := Blk.old S8 (o9 _ (fun e => vne.2.2.2 e.symm))
      refine ⟨_, rfl, some ⟨d, 0, none⟩, by rw [S9.cell]; rfl, p, by rw [add_mk, S9.cell]; rfl, _, CellsAt.of_blk V9, ?_⟩
      rw [sl, wrapI64 (x := i * 108) (by omega) (by omega), wrapI64 (x := i * 108 + 108) (by omega) (by omega)]
      obtain ⟨hi, ehi⟩ : ∃ hi : Nat, (if i * 108 + 108 < ((bs.length : Nat) : Int) then i * 108 + 108 else ((bs.length : Nat) : Int)) = (hi : Int) := ⟨(if i * 108 + 108 < ((bs.length : Nat) : Int) then i * 108 + 108 else ((bs.length : Nat) : Int)).toNat, by split <;> omega⟩
      rw [ehi]
      have hb1 : i * 108 ≤ hi ∧ hi ≤ bs.length ∧ (bs.drop (i * 108).toNat).take (hi - (i * 108).toNat) = (bs.drop (i.toNat * 108)).take 108 := by
        rw [show (i * 108).toNat = i.toNat * 108 from by omega]
        by_cases q : i * 108 + 108 < ((bs.length : Nat) : Int)
        · rw [if_pos q] at ehi
          refine ⟨by omega, by omega, ?_⟩
          rw [show hi - i.toNat * 108 = 108 from by omega]
        · rw [if_neg q] at ehi
          refine ⟨by omega, by omega, ?_⟩
          rw [List.take_of_length_le (by rw [List.length_drop]; omega), List.take_of_length_le (by rw [List.length_drop]; omega)]
      refine ⟨_, by omega, hb1.1, by omega, by omega, rfl, ?_⟩
      have S2 := hs h9 F9
      have Sc := SlcAt.sub (w := 1) (l := (i * 108).toNat) (u := (hi : Int).toNat) (m := ((s.cap : Nat) : Int).toNat) S2 (by omega) (by omega)
      rw [Nat.mul_one, Nat.mul_one, ← List.map_drop, ← List.map_take, Int.toNat_natCast hi, hb1.2.2] at Sc
      have lch : (subS s 1 (i * 108).toNat ((hi : Nat) : Int).toNat ((s.cap : Nat) : Int).toNat).len = ((bs.drop (i.toNat * 108)).take 108).length := by
        rw [← hb1.2.2, List.length_take, List.length_drop]
        show ((hi : Nat) : Int).toNat - (i * 108).toNat = _
        rw [Int.toNat_natCast]; omega
      rw [Int.toNat_natCast hi] at lch ⊢
      generalize subS s 1 (i * 108).toNat hi ((s.cap : Nat) : Int).toNat = s36 at *
      have lc108 : ((bs.drop (i.toNat * 108)).take 108).length ≤ 108 := List.length_take_le _ _
      refine JHeadB_ok ⟨e0, n0.1, ⟨i0, by show i < 65536; omega⟩, ⟨by show 0 ≤ jprtD _; omega, by show jprtD _ < 65536; omega⟩, ⟨by show (0 : Int) ≤ (bs.length : Int); omega, by show (bs.length : Int) < 4294967296; omega⟩⟩ fun s37 h38 R37 X38 => ?_
      have z38 := X38.size
      have S38 : StAt h38 sr d pr false e n p := Blk.ext S9 X38 S9.lt
      refine ⟨by rw [add_mk, S38.cell]; rfl, by rw [S38.cell]; rfl, _, _, rfl, rfl, ?_⟩
      have V := Blk.push h38 [Slc.v s37, Slc.v s36] 23
      have W := Ext.push h38 (.cells ([Slc.v s37, Slc.v s36] : List Value).toArray 23) (Nat.le_refl _)
      generalize h38.push (.cells ([Slc.v s37, Slc.v s36] : List Value).toArray 23) = h42 at *
      have z42 := W.size
      have S42 : StAt h42 sr d pr false e n p := Blk.ext S38 W S38.lt
      have lhb := jhbD_len ⟨e, n, i, jprtD bs.length, bs.length⟩
      refine ⟨by rw [add_mk, S42.cell]; rfl, by rw [S42.cell]; rfl, ?_⟩
      refine Concat_ok (L := [(s37, jhbD ⟨e, n, i, jprtD bs.length, bs.length⟩), (s36, (bs.drop (i.toNat * 108)).take 108)]) (V.slc (o := 0) (n := 2) rfl) rfl (fun q hq => ?_) (by simp) (by
        have : flatS [(s37, jhbD ⟨e, n, i, jprtD bs.length, bs.length⟩), (s36, (bs.drop (i.toNat * 108)).take 108)] = jhbD ⟨e, n, i, jprtD bs.length, bs.length⟩ ++ (bs.drop (i.toNat * 108)).take 108 := by simp [flatS]
        rw [this, List.length_append, lhb]; omega) fun s43 h44 R44 X44 => ?_
      · rcases List.mem_cons.1 hq with rfl | hq
        · exact ⟨(R37.slc).ext W, Row.pb R37⟩
        · rw [List.mem_singleton] at hq; subst hq
          exact ⟨(Sc.ext X38).ext W, lch⟩
      · have ef : flatS [(s37, jhbD ⟨e, n, i, jprtD bs.length, bs.length⟩), (s36, (bs.drop (i.toNat * 108)).take 108)] = recS e n bs i.toNat := by
          unfold recS recH
          rw [show ((i.toNat : Nat) : Int) = i from by omega]
          simp [flatS]
        rw [ef] at R44
        have E := (X38.trans (W.mono z38)).trans (X44.mono (by omega))
        have S44 : StAt h44 sr d pr false e n p := Blk.ext S9 E S9.lt
        have D44 := D9.ext E
        have V44 := V9.ext E V9.lt
        have F44 := F9.trans (JF.of_ext E)
        refine ⟨by rw [add_mk, S44.cell]; rfl, by rw [S44.cell]; rfl, ?_⟩
        rw [wrapI64 (x := p + i) (by omega) (by omega)]
        refine DWrite_ok D44 R44.slc (Row.pb R44) fun h3 D3 F3 => ?_
        have V3 := V44.old (F3.block _ V44.lt vne.1 vne.2.1 vne.2.2.1)
        have S3 := S44.df D44 F3
        have F03 := F44.trans (JF.of_df F3)
        have eu : wrUp p (recS e n bs) X (i.toNat + 1) = writeD (wrUp p (recS e n bs) X i.toNat).2 (p + i) (recS e n bs i.toNat) := by
          rw [wrUp, if_neg (by rw [e8]; simp), show ((i.toNat : Nat) : Int) = i from by omega]
        rw [← eu] at D3 ⊢
        by_cases er : (wrUp p (recS e n bs) X (i.toNat + 1)).1 = 0
        · rw [if_neg (by simpa using er), wrapI64 (by omega) (by omega)]
          refine ⟨⟨by omega, by omega, F03, V3.lt, ⟨i, V3⟩, ?_, S3, ?_⟩, by dsimp only; omega⟩
          · rw [show (i + 1).toNat = i.toNat + 1 from by omega]; exact D3
          · rw [show (i + 1).toNat = i.toNat + 1 from by omega]; exact er
        · rw [if_pos (by simpa using er)]
          have st := wrUp_stick er (jprtD bs.length).toNat (by omega)
          refine H (c + i.toNat + 1) h3 _ _ ?_ (by omega) D3 F03 (fun q => absurd q er) (fun _ => S3)
          unfold wrD
          rw [if_pos (by rw [st]; exact er), st]
    · rw [if_neg (by rw [decide_eq_true_eq]; exact ci)]
      have iN : i.toNat = (jprtD bs.length).toNat := by omega
      refine ⟨_, rfl, some ⟨d, 0, none⟩, by rw [S8.cell]; rfl, ?_⟩
      refine DSync_ok D8 fun h9 D9 F9 => ?_
      have S9 := S8.df D8 F9
      have V9 := V8.old (F9.block _ V8.lt vne.1 vne.2.1 vne.2.2.1)
      have ew : wrD p (recS e n bs) X (jprtD bs.length).toNat = syncD (wrUp p (recS e n bs) X i.toNat).2 := by
        unfold wrD
        rw [← iN, if_neg (by rw [e8]; simp)]
      have F09 := F8.trans (JF.of_df F9)
      rw [← ew] at D9 ⊢
      by_cases er : (wrD p (recS e n bs) X (jprtD bs.length).toNat).1 = 0
      · rw [if_neg (by simpa using er)]
        refine ⟨n, by rw [add_mk, S9.cell]; rfl, p, by rw [add_mk, S9.cell]; rfl, jprtD bs.length, by rw [add_mk, V9.cell]; rfl, _, by rw [add_mk]; exact S9.wr (by show _ < 6; omega), rfl, ?_⟩
        rw [add_mk, add_mk, add_mk, add_mk]
        have S10 : StAt (setH h9 ⟨sr, 0 + 2, none⟩ (.bool true)) sr d pr true e n p := S9.set rfl
        have D10 := D9.st (i := 0 + 2) (v := .bool true) S9
        have V10 : Blk (setH h9 ⟨sr, 0 + 2, none⟩ (.bool true)) hb _ 56 := V9.old (setH_other vne.2.2.2)
        have F10 : JF d rn rs sr h9 (setH h9 ⟨sr, 0 + 2, none⟩ (.bool true)) := JF.set
        generalize setH h9 ⟨sr, 0 + 2, none⟩ (.bool true) = h10 at *
        refine ⟨by rw [V10.cell]; rfl, _, S10.wr (by show _ < 6; omega), rfl, ?_⟩
        rw [wrapU64 (x := n + 1) (by omega) (by omega), wrapI64 (x := p + jprtD bs.length) (by omega) (by omega)]
        have S11 : StAt (setH h10 ⟨sr, 0 + 4, none⟩ (.int .u64 (n + 1))) sr d pr true e (n + 1) p := S10.set rfl
        have D11 := D10.st (i := 0 + 4) (v := .int .u64 (n + 1)) S10
        have V11 : Blk (setH h10 ⟨sr, 0 + 4, none⟩ (.int .u64 (n + 1))) hb _ 56 := V10.old (setH_other vne.2.2.2)
        have F11 : JF d rn rs sr h10 (setH h10 ⟨sr, 0 + 4, none⟩ (.int .u64 (n + 1))) := JF.set
        generalize setH h10 ⟨sr, 0 + 4, none⟩ (.int .u64 (n + 1)) = h11 at *
        refine ⟨by rw [V11.cell]; rfl, _, S11.wr (by show _ < 6; omega), rfl, ?_⟩
        have S12 : StAt (setH h11 ⟨sr, 0 + 5, none⟩ (.int .i64 (p + jprtD bs.length))) sr d pr true e (n + 1) (p + jprtD bs.length) := S11.set rfl
        have D12 := D11.st (i := 0 + 5) (v := .int .i64 (p + jprtD bs.length)) S11
        have F12 : JF d rn rs sr h11 (setH h11 ⟨sr, 0 + 5, none⟩ (.int .i64 (p + jprtD bs.length))) := JF.set
        generalize setH h11 ⟨sr, 0 + 5, none⟩ (.int .i64 (p + jprtD bs.length)) = h12 at *
        exact H (c + i.toNat) h12 (wrD p (recS e n bs) X (jprtD bs.length).toNat).2 0 (Prod.ext er.symm rfl) (by omega) D12 (((F09.trans F10).trans F11).trans F12) (fun _ => S12) (fun q => absurd rfl q)
      · rw [if_pos (by simpa using er)]
        exact H (c + i.toNat) h9 _ _ rfl (by omega) D9 F09 (fun q => absurd q er) (fun _ => S8.df D8 F9)
  have zz := F6.size
  constructor
  · refine JParts_ok (by omega) (by omega) ⟨by rw [add_mk, S6.cell]; rfl, by rw [add_mk, S6.cell]; rfl, _, _, rfl, rfl, ?_⟩
    have V := Blk.push h6 (S_journal_head.cs ⟨0, 0, 0, 0, 0⟩) 56
    have W := Ext.push h6 (.cells (S_journal_head.cs ⟨0, 0, 0, 0, 0⟩).toArray 56) (Nat.le_refl _)
    generalize h6.push (.cells (S_journal_head.cs ⟨0, 0, 0, 0, 0⟩).toArray 56) = h7 at *
    have S7 : StAt h7 sr d pr false e n p := Blk.ext S6 W S6.lt
    refine ⟨by rw [add_mk, S7.cell]; rfl, by rw [add_mk, S7.cell]; rfl, _, WrsAt.of_blk V (by show 5 ≤ 5; omega), rfl, ?_⟩
    exact main _ (V.sets_all rfl) (W.trans (Ext.sets _ _ _ (Nat.le_refl _)))
  · refine ⟨_, _, rfl, rfl, ?_⟩
    have V := Blk.push h6 (S_journal_head.cs ⟨0, 0, 0, 0, 0⟩) 56
    have W := Ext.push h6 (.cells (S_journal_head.cs ⟨0, 0, 0, 0, 0⟩).toArray 56) (Nat.le_refl _)
    generalize h6.push (.cells (S_journal_head.cs ⟨0, 0, 0, 0, 0⟩).toArray 56) = h7 at *
    have S7 : StAt h7 sr d pr false e n p := Blk.ext S6 W S6.lt
    refine ⟨by rw [add_mk, S7.cell]; rfl, by rw [add_mk, S7.cell]; rfl, JParts_ok (by omega) (by omega) ⟨by rw [add_mk, S7.cell]; rfl, by rw [add_mk, S7.cell]; rfl, _, WrsAt.of_blk V (by show 5 ≤ 5; omega), rfl, ?_⟩⟩
    exact main _ (V.sets_all rfl) (W.trans (Ext.sets _ _ _ (Nat.le_refl _)))
theorem AppendStale_ok {e n p : Int} {s : Slc} {k : Int → Heap → Prop} (S : StAt h sr d pr false e n p) (H : k 13 h) : journal_Store_Append (some ⟨sr, 0, none⟩) s k h := by
  unfold journal_Store_Append
  rw [if_neg (by simp)]
  refine ⟨_, rfl, false, by rw [add_mk, S.cell]; rfl, ?_⟩
  unfold journal_Store_Append_g1
  rw [if_pos (by simp)]
  exact H
theorem JOpen_ok {k : Option Addr × Int → Heap → Prop} (H : ∀ pr sr h', PairAt h' pr d 0 256 → StAt h' sr d pr false 0 0 0 → Ext h.size h h' → h.size ≤ pr → h.size ≤ sr → k (some ⟨sr, 0, none⟩, 0) h') : journal_Open (some ⟨d, 0, none⟩) k h := by
  unfold journal_Open
  refine Open_ok (by omega) (by omega) (fun e => absurd e (by decide)) fun _ pr h2 P2 X2 pb => ?_
  rw [if_neg (by simp)]
  refine ⟨_, _, rfl, rfl, ?_⟩
  have V := Blk.push h2 (scs d pr false 0 0 0) 50
  have W := Ext.push h2 (.cells (scs d pr false 0 0 0).toArray 50) (Nat.le_refl _)
  have z2 := X2.size
  exact H pr h2.size _ (Blk.ext P2 W P2.lt) V (X2.trans (W.mono z2)) pb z2
theorem Begin_ok {fresh : Bool} {e n p e2 : Int} {k : Unit → Heap → Prop} (D : DAt B c h d rn rs X) (P : PairAt h pr d 0 256) (S : StAt h sr d pr fresh e n p) (H : ∀ h', DAt B c h' d rn rs X → PairAt h' pr d 0 256 → StAt h' sr d pr true e2 0 512 → JF d rn rs sr h h' → k () h') : journal_Store_begin (some ⟨sr, 0, none⟩) e2 k h := by
  unfold journal_Store_begin
  refine ⟨_, rfl, _, by rw [add_mk]; exact S.wr (by show _ < 6; omega), rfl, ?_⟩
  simp only [add_mk]
  have S1 : StAt (setH h ⟨sr, 0 + 3, none⟩ (.int .u64 e2)) sr d pr fresh e2 n p := S.set rfl
  have D1 := D.st (i := 0 + 3) (v := .int .u64 e2) S
  have P1 := P.st (i := 0 + 3) (v := .int .u64 e2) S
  have F1 : JF d rn rs sr h (setH h ⟨sr, 0 + 3, none⟩ (.int .u64 e2)) := JF.set
  generalize setH h ⟨sr, 0 + 3, none⟩ (.int .u64 e2) = h1 at *
  refine ⟨_, S1.wr (by show _ < 6; omega), rfl, ?_⟩
  have S2 : StAt (setH h1 ⟨sr, 0 + 4, none⟩ (.int .u64 0)) sr d pr fresh e2 0 p := S1.set rfl
  have D2 := D1.st (i := 0 + 4) (v := .int .u64 0) S1
  have P2 := P1.st (i := 0 + 4) (v := .int .u64 0) S1
  have F2 : JF d rn rs sr h1 (setH h1 ⟨sr, 0 + 4, none⟩ (.int .u64 0)) := JF.set
  generalize setH h1 ⟨sr, 0 + 4, none⟩ (.int .u64 0) = h2 at *
  refine ⟨_, S2.wr (by show _ < 6; omega), rfl, ?_⟩
  have S3 : StAt (setH h2 ⟨sr, 0 + 5, none⟩ (.int .i64 512)) sr d pr fresh e2 0 512 := S2.set rfl
  have D3 := D2.st (i := 0 + 5) (v := .int .i64 512) S2
  have P3 := P2.st (i := 0 + 5) (v := .int .i64 512) S2
  have F3 : JF d rn rs sr h2 (setH h2 ⟨sr, 0 + 5, none⟩ (.int .i64 512)) := JF.set
  generalize setH h2 ⟨sr, 0 + 5, none⟩ (.int .i64 512) = h3 at *
  refine ⟨_, S3.wr (by show _ < 6; omega), rfl, ?_⟩
  have S4 : StAt (setH h3 ⟨sr, 0 + 2, none⟩ (.bool true)) sr d pr true e2 0 512 := S3.set rfl
  exact H _ (D3.st S3) (P3.st S3) S4 (((F1.trans F2).trans F3).trans JF.set)
theorem JSave_ok {fresh : Bool} {e n p : Int} {s : Slc} {bs : List Int} {k : Int → Heap → Prop} (D : DAt B c h d rn rs X) (P : PairAt h pr d 0 256) (S : StAt h sr d pr fresh e n p) (r : R0 h) (g : GoodX X)
    (hs : ∀ h', JF d rn rs sr h h' → SlcAt h' s (b8 bs)) (sl : s.len = bs.length) (sc : s.len ≤ s.cap) (bl : bs.length ≤ 60000)
    (H : ∀ rr Y c' h', LayR X 0 256 bs false rr Y → c' ≤ c + 600 → DAt B c' h' d rn rs Y → PairAt h' pr d 0 256 → JF d rn rs sr h h' → (rr.2 = 0 → StAt h' sr d pr true rr.1 0 512) → (rr.2 ≠ 0 → StAt h' sr d pr false e n p) → k rr.2 h') : journal_Store_Save (some ⟨sr, 0, none⟩) s k h := by
  unfold journal_Store_Save
  rw [if_neg (by simp)]
  refine ⟨_, rfl, some ⟨pr, 0, none⟩, by rw [add_mk, S.cell]; rfl, ?_⟩
  refine Save_ok D P r g (by omega) (by omega) (fun h' F => hs h' (JF.of_df F)) sl sc bl fun rr Y c' h1 L hc D1 F1 => ?_
  have S1 := S.df D F1
  have P1 := P.df D F1
  by_cases er : rr.2 = 0
  · rw [if_neg (by simpa using er)]
    refine Begin_ok D1 P1 S1 fun h2 D2 P2 S2 F2 => ?_
    have := H rr Y c' h2 L hc D2 P2 ((JF.of_df F1).trans F2) (fun _ => S2) (fun q => absurd er q)
    rw [er] at this
    exact this
  · rw [if_pos (by simpa using er)]
    refine ⟨_, by rw [add_mk]; exact S1.wr (by show _ < 6; omega), rfl, ?_⟩
    rw [add_mk]
    exact H rr Y c' _ L hc (D1.st S1) (P1.st S1) ((JF.of_df F1).trans JF.set) (fun q => absurd q er) (fun _ => S1.set rfl)
/-- the records that stand from a place on -/
inductive Stands (X : DK) (e : Int) : Int → Int → List (List Int) → Prop where
  | nil {n p : Int} : ¬ RecW X e n p → Stands X e n p []
  | cons {n p : Int} {b : List Int} {l : List (List Int)} : RecW X e n p → outR X p = b → Stands X e (n + 1) (p + jprtD b.length) l → Stands X e n p (b :: l)
/-- rows of bytes in memory -/
structure Recs (B : Nat) (h : Heap) (s : Slc) (l : List (List Int)) (ys : List Slc) : Prop where
  n : ys.length = l.length
  r : Row B h 23 1 s (ys.map Slc.v)
  row : ∀ (i : Nat) y b, ys[i]? = some y → l[i]? = some b → SlcAt h y (b8 b) ∧ y.len = b.length ∧ ∀ a, y.a = some a → B ≤ a.block ∧ a.block < h.size ∧ s.blk ≠ some a.block
end Go.Q.Yf
/- Journal: what is recovered. -/
namespace Go.Q.Yf
variable {B c : Nat} {h h' : Heap} {d rn rs pr sr : Nat} {X : DK}
theorem rd_range {a : Int} (e : (readD X a).2 = 0) : 0 ≤ a ∧ a < 1024 := by
  unfold readD at e
  split at e
  · cases e
  · omega
theorem rec_len {e n p : Int} (g : GoodX X) (w : RecW X e n p) : (outR X p).length = (rh X p).f_size.toNat ∧ p + jprtD ((outR X p).length : Int) ≤ 1024 := by
  have hd := rh_bd g p
  have q := w.2.1
  have jb := jp_bd hd.1
  have lz := catR_len (X := X) (p := p) (rh X p).f_parts.toNat fun i hi => (w.2.2 i (by omega)).1
  have l : (outR X p).length = (rh X p).f_size.toNat := by unfold outR; rw [List.length_take, lz]; omega
  refine ⟨l, ?_⟩
  rw [l, show (((rh X p).f_size.toNat : Nat) : Int) = (rh X p).f_size from by omega, ← q]
  have := rd_range (w.2.2 ((rh X p).f_parts.toNat - 1) (by omega)).1
  omega
theorem Recs.ext {B : Nat} {h h' : Heap} {s : Slc} {l : List (List Int)} {ys : List Slc} (K : Recs B h s l ys) (X : Ext h.size h h') : Recs B h' s l ys :=
  ⟨K.n, K.r.ext X fun g hg => (K.r.bd hg).2, fun i y b hy hb => by
    obtain ⟨a1, a2, a3⟩ := K.row i y b hy hb
    exact ⟨a1.ext X, a2, fun a ha => by
      obtain ⟨q1, q2, q3⟩ := a3 a ha
      exact ⟨q1, by have := X.size; omega, q3⟩⟩⟩
theorem RecLoop_ok {fresh : Bool} {e' n' p' e : Int} {img : Slc} {l : List (List Int)} {k : Slc × Slc × Int → Heap → Prop} (D : DAt B c h d rn rs X) (S : StAt h sr d pr fresh e' n' p') (g : GoodX X) (L : Stands X e 0 512 l) (ll : l.length ≤ 1000)
    (H : ∀ s' h' ys, Recs h.size h' s' l ys → Ext h.size h h' → k (img, s', 0) h') : journal_Store_Recover_l1 (some ⟨sr, 0, none⟩) img e ⟨none, 0, 0⟩ 512 0 k h := by
  unfold journal_Store_Recover_l1
  refine ⟨fun q h' => ∃ (dn rest : List (List Int)) (ys : List Slc), Recs h.size h' q.1 dn ys ∧ Stands X e q.2.2 q.2.1 rest ∧ dn ++ rest = l ∧ 0 ≤ q.2.1 ∧ q.2.1 ≤ 1024 ∧ q.2.2 = (dn.length : Int) ∧ Ext h.size h h', fun q _ => l.length - q.2.2.toNat, ⟨[], l, [], ⟨rfl, Row.nil _ _ _ _, fun i y b hy => by simp at hy⟩, L, rfl, by dsimp only; omega, by dsimp only; omega, rfl, Ext.refl _ _⟩, ?_⟩
  rintro out p n h1 ⟨dn, rest, ys, K, St, el, p0, p1, en, X1⟩
  dsimp only at K St p0 p1 en
  have z1 := X1.size
  have D1 := D.ext X1
  have S1 : StAt h1 sr d pr fresh e' n' p' := Blk.ext S X1 S.lt
  have lds : dn.length + rest.length = l.length := by rw [← el, List.length_append]
  unfold journal_Store_Recover_l1b
  refine Rec_ok D1 S1 g ⟨p0, by omega⟩ (fun no h2 X2 => ?_) (fun w s h2 Sb lb cb fb X2 => ?_)
  · rw [if_pos (by simp)]
    cases St with
    | nil _ =>
      rw [List.append_nil] at el
      subst el
      exact H out h2 ys (K.ext X2) (X1.trans (X2.mono z1))
    | cons w _ _ => exact absurd w no
  · rw [if_neg (by simp)]
    cases St with
    | nil no => exact absurd w no
    | @cons _ _ b l' _ eb St' =>
      have z2 := X2.size
      obtain ⟨rl, rp⟩ := rec_len g w
      rw [eb] at Sb lb rp rl
      refine ⟨_, _, rfl, rfl, ?_⟩
      have W3 := Ext.push h2 (.cells ([Slc.v s] : List Value).toArray 23) (Nat.le_refl _)
      have K3 := (K.ext X2).ext W3
      have Sb3 := Sb.ext W3
      generalize h2.push (.cells ([Slc.v s] : List Value).toArray 23) = h3 at *
      have z3 := W3.size
      have lt : out.len = dn.length := by have := K3.r.len; rw [this, List.length_map, K3.n]
      have ld : dn.length < l.length := by rw [← el, List.length_append]; simp
      dsimp only
      refine App.row2 K3.r (by omega) rfl (by simp) (fun x hx => by rw [List.mem_singleton] at hx; rw [hx]; rfl) (by omega) (by simp only [maxLen]; omega) fun t' h4 R4 l4 z4 kp bl _ => ?_
      have jb := jp_bd (n := (b.length : Int)) (by omega)
      have hdb := rh_bd g p
      rw [lb]
      refine JParts_ok (by omega) (by omega) ⟨_, rfl, _, rfl, ?_⟩
      rw [wrapI64 (x := p + jprtD b.length) (by omega) (by omega), wrapU64 (x := n + 1) (by omega) (by omega)]
      -- what was there stays
      have keep : ∀ a : Addr, a.block < h3.size → out.blk ≠ some a.block → h4[a.block]? = h3[a.block]? ∧ t'.blk ≠ some a.block := fun a ha hn => by
        refine ⟨kp _ ha hn, ?_⟩
        rcases bl with ⟨q, _⟩ | q
        · rw [q]; exact hn
        · rw [q]; intro q2; have := Option.some.inj q2; omega
      have ob : ∀ g, out.blk = some g → g < h1.size := fun g hg => (K.r.bd hg).2
      have sk : ∀ {y : Slc} {b : List Int}, SlcAt h3 y (b8 b) → (∀ a, y.a = some a → a.block < h3.size ∧ out.blk ≠ some a.block) → SlcAt h4 y (b8 b) := fun {y b} Sy hy => ⟨Sy.1, fun a ha j v hj => by
        obtain ⟨q1, q2⟩ := hy a ha
        have eb : (a.add j).block = a.block := by unfold Addr.add; split <;> rfl
        have q := (keep a q1 q2).1
        rw [← eb] at q
        rw [cellH_of q]
        exact Sy.2 a ha j v hj⟩
      refine ⟨⟨dn ++ [b], l', ys ++ [s], ⟨by simp [K.n], by rw [List.map_append]; exact R4, fun i y b' hy hb' => ?_⟩, by rw [en] at St' ⊢; exact St', by rw [List.append_assoc]; exact el, by omega, by omega, by rw [List.length_append, List.length_singleton]; omega, ?_⟩, by omega⟩
      · have en' := K.n
        by_cases ci : i < ys.length
        · rw [List.getElem?_append_left ci] at hy
          rw [List.getElem?_append_left (by omega)] at hb'
          obtain ⟨a1, a2, a3⟩ := K3.row i y b' hy hb'
          exact ⟨sk a1 fun a ha => ⟨(a3 a ha).2.1, (a3 a ha).2.2⟩, a2, fun a ha => ⟨(a3 a ha).1, by have := (a3 a ha).2.1; omega, (keep a (a3 a ha).2.1 (a3 a ha).2.2).2⟩⟩
        · have ei : i = ys.length := by
            have := (List.getElem?_eq_some_iff.1 hy).1
            rw [List.length_append, List.length_singleton] at this
            omega
          rw [ei, List.getElem?_append_right (Nat.le_refl _), Nat.sub_self] at hy
          rw [ei, en', List.getElem?_append_right (Nat.le_refl _), Nat.sub_self] at hb'
          cases hy
          cases hb'
          have nw : ∀ a, s.a = some a → a.block < h3.size ∧ out.blk ≠ some a.block := fun a ha => ⟨by have := (fb a ha).2; omega, fun q => by have := ob _ q; have := (fb a ha).1; omega⟩
          exact ⟨sk Sb3 nw, lb, fun a ha => ⟨by have := (fb a ha).1; omega, by have := (nw a ha).1; omega, (keep a (nw a ha).1 (nw a ha).2).2⟩⟩
      · refine X1.trans ⟨by omega, fun g hg => ?_⟩
        exact (kp g (by omega) fun q => by have := (K3.r.bd q).1; omega).trans ((W3.block g (by omega)).trans (X2.block g (by omega)))
theorem Recover_ok {fresh : Bool} {e' n' p' : Int} {slot : Int} {l : List (List Int)} {k : Slc × Slc × Int → Heap → Prop} (D : DAt B c h d rn rs X) (P : PairAt h pr d 0 256) (S : StAt h sr d pr fresh e' n' p') (r : R0 h) (g : GoodX X) (b : BP X 0 256 slot)
    (L : 0 ≤ slot → Stands X (numW X 0 256 slot) 0 512 l) (ll : l.length ≤ 1000)
    (H0 : slot = -1 → ∀ h', Ext h.size h h' → k (⟨none, 0, 0⟩, ⟨none, 0, 0⟩, 6) h')
    (H1 : 0 ≤ slot → ∀ img s' h' ys, SlcAt h' img (b8 (outW X (0 + slot * 256))) → img.len = (outW X (0 + slot * 256)).length → Recs h.size h' s' l ys → Ext h.size h h' → k (img, s', 0) h') : journal_Store_Recover (some ⟨sr, 0, none⟩) k h := by
  unfold journal_Store_Recover
  rw [if_neg (by simp)]
  refine ⟨_, rfl, some ⟨pr, 0, none⟩, by rw [add_mk, S.cell]; rfl, ?_⟩
  refine Load_ok D P r g (by omega) (by omega) fun s sl n h1 bz X1 => ?_
  have es : s = slot := bp_uniq bz.bp b
  by_cases s0 : s < 0
  · rw [if_pos s0]
    rw [if_pos (by simp)]
    refine H0 ?_ h1 X1
    rcases bz with ⟨q, _⟩ | ⟨q, _⟩ | ⟨q, _⟩ <;> omega
  · rw [if_neg s0]
    rw [if_neg (by simp)]
    have T : ToldW h h1 X 0 256 s sl n := by
      rcases bz with ⟨q, _⟩ | ⟨q, T, _⟩ | ⟨q, T, _⟩
      · omega
      · rw [q]; exact T
      · rw [q]; exact T
    have L' := L (by omega)
    rw [← es, ← T.n] at L'
    dsimp only
    refine RecLoop_ok (D.ext X1) (Blk.ext S X1 S.lt) g L' ll fun s' h2 ys K X2 => ?_
    have z := X1.size
    refine H1 (by omega) sl s' h2 ys ?_ (by rw [← es]; exact T.l) ⟨K.n, K.r.mono z, fun i y b' hy hb' => ?_⟩ (X1.trans (X2.mono z))
    · rw [← es]; exact T.S.ext X2
    · obtain ⟨a1, a2, a3⟩ := K.row i y b' hy hb'
      exact ⟨a1, a2, fun a ha => ⟨by have := (a3 a ha).1; omega, (a3 a ha).2⟩⟩
end Go.Q.Yf
/- Journal: records and the pair, plainly. -/
namespace Go.Q.Yf
/-! ### records -/
theorem jhd_sec {e n : Int} {bs : List Int} {i : Nat} (he : 0 ≤ e ∧ e < 18446744073709551616) (hn : 0 ≤ n ∧ n < 4294967296) (hi : i < 65536) (bl : bs.length ≤ 60000) :
    jhdD (padB (recS e n bs i)) = recH e n bs i := by
  have jq : 0 ≤ jprtD bs.length ∧ jprtD bs.length < 65536 := by unfold jprtD; split <;> omega
  unfold padB recS
  generalize (bs.drop (i * 108)).take 108 = r
  generalize List.replicate (128 - (jhbD (recH e n bs i) ++ r).length) (0 : Int) = z
  have e1 : fld (jhbD (recH e n bs i) ++ r ++ z) 0 8 = e := (show numL (formL e 8) = _ from numL_form8 he.1 he.2)
  have e2 : fld (jhbD (recH e n bs i) ++ r ++ z) 8 4 = n := (show numL (formL n 4) = _ from numL_form4 hn.1 hn.2)
  have e3 : fld (jhbD (recH e n bs i) ++ r ++ z) 12 2 = (i : Int) := (show numL (formL (i : Int) 2) = _ from numL_form2 (by omega) (by omega))
  have e4 : fld (jhbD (recH e n bs i) ++ r ++ z) 14 2 = jprtD bs.length := (show numL (formL (jprtD bs.length) 2) = _ from numL_form2 jq.1 jq.2)
  have e5 : fld (jhbD (recH e n bs i) ++ r ++ z) 16 4 = (bs.length : Int) := (show numL (formL (bs.length : Int) 4) = _ from numL_form4 (by omega) (by omega))
  unfold jhdD
  rw [e1, e2, e3, e4, e5]
  rfl
theorem jdrop_sec (e n : Int) (bs : List Int) (i : Nat) : (padB (recS e n bs i)).drop 20 = (bs.drop (i * 108)).take 108 ++ List.replicate (128 - (recS e n bs i).length) 0 := by
  unfold padB
  have h : (jhbD (recH e n bs i)).length = 20 := jhbD_len _
  conv => lhs; unfold recS
  rw [List.append_assoc, List.drop_append_of_le_length (by omega), List.drop_of_length_le (by omega), List.nil_append]
  rfl
theorem recS_B {e n : Int} {bs : List Int} {i : Nat} (h : isB bs) : isB (recS e n bs i) := by
  unfold recS jhbD
  intro b hb
  rcases List.mem_append.1 hb with hb | hb
  · have : ∀ (w : Nat) (v : Int), isB (formL v w) := fun w => by
      induction w with
      | zero => intro v b hb; simp [formL] at hb
      | succ w ih =>
        intro v b hb
        simp only [formL] at hb
        rcases List.mem_cons.1 hb with q | q
        · omega
        · exact ih _ b q
    simp only [List.mem_append] at hb
    rcases hb with (((hb | hb) | hb) | hb) | hb <;> exact this _ _ b hb
  · exact h b (List.mem_of_mem_drop (List.mem_of_mem_take hb))
theorem rcat_take {Z : DK} {p e n : Int} {bs : List Int} {N : Nat} (h : ∀ j : Nat, j < N → readD Z (p + j) = (padB (recS e n bs j), 0)) : ∀ m, m ≤ N → ∀ L, L ≤ bs.length → L ≤ 108 * m → (catR Z p m).take L = bs.take L
  | 0, _, L, _, hl => by rw [show L = 0 from by omega]; rfl
  | m + 1, hn, L, hb, hl => by
    have lc := catR_len (X := Z) (p := p) m fun i hi => by rw [h i (by omega)]
    rw [catR_succ, h m (by omega)]
    by_cases q : L ≤ 108 * m
    · rw [List.take_append_of_le_length (by omega)]
      exact rcat_take h m (by omega) L hb q
    · have ih := rcat_take h m (by omega) (108 * m) (by omega) (Nat.le_refl _)
      rw [List.take_of_length_le (by omega)] at ih
      rw [List.take_append, lc, List.take_of_length_le (by omega), ih]
      dsimp only
      rw [jdrop_sec, List.take_append_of_le_length (by rw [List.length_take, List.length_drop]; omega), List.take_take, Nat.min_eq_left (by omega), Nat.mul_comm m 108, ← List.take_add]
      rw [show 108 * m + (L - 108 * m) = L from by omega]
theorem rec_whole {Z : DK} {p e n : Int} {bs : List Int} (he : 0 ≤ e ∧ e < 18446744073709551616) (hn : 0 ≤ n ∧ n < 4294967296) (bl : bs.length ≤ 60000) (h : ∀ j : Nat, (j : Int) < jprtD bs.length → readD Z (p + j) = (padB (recS e n bs j), 0)) : RecW Z e n p ∧ outR Z p = bs := by
  have jb := jp_bd (n := (bs.length : Int)) (by omega)
  have jq : jprtD bs.length < 65536 := by unfold jprtD; split <;> omega
  have hh : ∀ j : Nat, (j : Int) < jprtD bs.length → jhdD (padB (recS e n bs j)) = recH e n bs j := fun j hj => jhd_sec he hn (by omega) bl
  have h0 := h 0 (by omega)
  rw [show p + ((0 : Nat) : Int) = p from by omega] at h0
  have hf : rh Z p = recH e n bs 0 := by unfold rh; rw [h0]; exact hh 0 (by omega)
  have fp : (rh Z p).f_parts = jprtD bs.length := by rw [hf]; rfl
  have fs : (rh Z p).f_size = bs.length := by rw [hf]; rfl
  have ok : ∀ j : Nat, (j : Int) < jprtD bs.length → ROk Z e n p j := fun j hj => by
    unfold ROk wantD
    rw [h j hj, fp, fs]
    exact ⟨rfl, hh j hj⟩
  refine ⟨⟨ok 0 (by omega), by rw [fp, fs], fun i hi => ok i (by omega)⟩, ?_⟩
  unfold outR
  rw [fp, fs, Int.toNat_natCast, rcat_take (N := (jprtD bs.length).toNat) (fun j hj => h j (by omega)) _ (Nat.le_refl _) _ (Nat.le_refl _) (by omega)]
  exact List.take_length
/-- what is written of a record in part isn't a record -/
theorem rec_part {X Z : DK} {p e n : Int} {bs : List Int} (he : 0 ≤ e ∧ e < 18446744073709551616) (hn : 0 ≤ n ∧ n < 4294967296) (bl : bs.length ≤ 60000)
    (old : ∀ j : Nat, (j : Int) < jprtD bs.length → (readD X (p + j)).2 = 0 → (rh X (p + j)).f_epoch < e)
    (tri : ∀ j : Nat, (j : Int) < jprtD bs.length → readD Z (p + j) = readD X (p + j) ∨ readD Z (p + j) = (padB (recS e n bs j), 0) ∨ readD Z (p + j) = ([], 9)) (w : RecW Z e n p) : ∀ j : Nat, (j : Int) < jprtD bs.length → readD Z (p + j) = (padB (recS e n bs j), 0) := by
  have jb := jp_bd (n := (bs.length : Int)) (by omega)
  have jq : jprtD bs.length < 65536 := by unfold jprtD; split <;> omega
  have one : ∀ j : Nat, (j : Int) < jprtD bs.length → ROk Z e n p j → readD Z (p + j) = (padB (recS e n bs j), 0) := fun j hj ok => by
    rcases tri j hj with t | t | t
    · have ep := ok.2
      have er := ok.1
      rw [t] at ep er
      have := old j hj er
      have e2 : (rh X (p + j)).f_epoch = e := by unfold rh; rw [ep]; rfl
      omega
    · exact t
    · have := ok.1
      rw [t] at this
      cases this
  have h0 := one 0 (by omega) w.1
  rw [show p + ((0 : Nat) : Int) = p from by omega] at h0
  have fp : (rh Z p).f_parts = jprtD bs.length := by unfold rh; rw [h0]; dsimp only; rw [jhd_sec he hn (by omega) bl]; rfl
  exact fun j hj => one j hj (w.2.2 j (by rw [fp]; exact hj))
theorem stands_ex {X : DK} {e : Int} (g : GoodX X) : ∀ (m : Nat) (n p : Int), 0 ≤ p → p + m ≥ 1024 → ∃ l, Stands X e n p l ∧ l.length ≤ m
  | 0, n, p, p0, hm => ⟨[], .nil fun w => by have := rd_range w.1.1; omega, Nat.le_refl _⟩
  | m + 1, n, p, p0, hm => by
    rcases Classical.em (RecW X e n p) with w | w
    · have jb := jp_bd (n := ((outR X p).length : Int)) (by omega)
      obtain ⟨l, h1, h2⟩ := stands_ex (e := e) g m (n + 1) (p + jprtD (outR X p).length) (by omega) (by omega)
      exact ⟨outR X p :: l, .cons w rfl h1, by simp; omega⟩
    · exact ⟨[], .nil w, by simp⟩
theorem bp_ex (X : DK) (fr kk : Int) : ∃ s, BP X fr kk s ∧ (s = -1 ∨ s = 0 ∨ s = 1) := by
  rcases Classical.em (IsW X fr kk 0) with a | a
  · rcases Classical.em (IsW X fr kk 1) with b | b
    · by_cases q : numW X fr kk 1 ≤ numW X fr kk 0
      · exact ⟨0, .inr (.inl ⟨rfl, a, fun _ => q⟩), by simp⟩
      · exact ⟨1, .inr (.inr ⟨rfl, b, fun _ => by omega⟩), by simp⟩
    · exact ⟨0, .inr (.inl ⟨rfl, a, fun h => absurd h b⟩), by simp⟩
  · rcases Classical.em (IsW X fr kk 1) with b | b
    · exact ⟨1, .inr (.inr ⟨rfl, b, fun h => absurd h a⟩), by simp⟩
    · exact ⟨-1, .inl ⟨rfl, a, b⟩, by simp⟩
/-! ### the pair -/
theorem cut_wholeJ {X Z : DK} {p kk gr : Int} {bs : List Int} (bl : bs.length ≤ 60000) (pk : prtD bs.length ≤ kk) (g0 : 0 ≤ gr ∧ gr < 4611686018427387904)
    (hX : ∀ i : Nat, (i : Int) < kk → (readD X (p + i)).2 = 0 → (fst1 X (p + i)).f_n ≤ gr)
    (tri : ∀ i : Nat, (i : Int) < kk → readD Z (p + i) = readD X (p + i) ∨ ((i : Int) < prtD bs.length ∧ (readD Z (p + i) = (padB (laySec (headD gr bs) bs i), 0) ∨ readD Z (p + i) = ([], 9))))
    (e : (readD Z p).2 = 0) (w : WholeC Z p kk) : ((readD X p).2 = 0 ∧ WholeC X p kk ∧ outW Z p = outW X p ∧ fst1 Z p = fst1 X p) ∨ (outW Z p = bs ∧ fst1 Z p = headD gr bs) := by
  have sb := sum_bd bs
  have p1 := prt_pos bs.length
  have p2 := prt_bd (n := (bs.length : Int)) (by omega)
  have pm : prtD bs.length < 65536 := by unfold prtD; split <;> omega
  have hh : ∀ j : Nat, (j : Int) < prtD bs.length → hdD (padB (laySec (headD gr bs) bs j)) = { headD gr bs with f_part := (j : Int) } := fun j hj =>
    hd_sec (f := headD gr bs) ⟨by show 0 ≤ gr + 1; omega, by show gr + 1 < _; omega⟩ (by omega) (by show 0 ≤ prtD _ ∧ prtD _ < 65536; omega) (by show (0 : Int) ≤ (bs.length : Int) ∧ (bs.length : Int) < 4294967296; omega) sb
  have g1 := w.1.1
  have g2 := w.1.2.1
  have z0 : p + ((0 : Nat) : Int) = p := by omega
  have t0 := tri 0 (by omega)
  rw [z0] at t0
  rcases t0 with t0 | ⟨_, t0 | t0⟩
  · left
    have ef : fst1 X p = fst1 Z p := by unfold fst1; rw [t0]
    have nX : (fst1 Z p).f_n ≤ gr := by
      have := hX 0 (by omega)
      rw [z0, ← t0, ef] at this
      exact this e
    have all : ∀ i : Nat, i < (fst1 Z p).f_parts.toNat → readD X (p + i) = readD Z (p + i) := fun i hi => by
      have ok := w.2.1 i hi
      unfold OkI at ok
      rcases tri i (by omega) with t | ⟨ip, t | t⟩
      · exact t.symm
      · rw [t] at ok
        have := ok.2
        dsimp only at this
        rw [hh i ip] at this
        have := congrArg S_slot_head.f_n this
        have e9 : (headD gr bs).f_n = gr + 1 := rfl
        dsimp only at this
        omega
      · rw [t] at ok
        have := ok.1
        cases this
    obtain ⟨a, b, c, d⟩ := wh_cong w all
    exact ⟨by rw [d]; exact e, a, b.symm, c.symm⟩
  · right
    have hf : fst1 Z p = headD gr bs := by
      unfold fst1
      rw [t0]
      exact hh 0 (by omega)
    have fp : (fst1 Z p).f_parts = prtD bs.length := by rw [hf]; rfl
    refine ⟨(lay_whole (Z := Z) (p := p) (kk := kk) bl pk g0 fun j hj => ?_).2.2.2, hf⟩
    have ok := w.2.1 j (by rw [fp]; omega)
    unfold OkI at ok
    rcases tri j (by omega) with t | ⟨ip, t | t⟩
    · rw [t] at ok
      have h1 := hX j (by omega) ok.1
      have h2 := congrArg S_slot_head.f_n ok.2
      rw [hf] at h2
      have e9 : (headD gr bs).f_n = gr + 1 := rfl
      dsimp only at h2
      have e8 : (hdD (readD X (p + j)).1).f_n = (fst1 X (p + j)).f_n := rfl
      omega
    · exact t
    · rw [t] at ok
      have := ok.1
      cases this
  · rw [t0] at e
    cases e
theorem slot_tri {X Z : DK} {bs : List Int} {slot t gr : Int} (g : GoodX X) (bl : bs.length ≤ 20000) (egr : gr = grD X 0 512) (gl : gr < 4611686018427387904) (b : BP X 0 256 slot) (ht : t = if slot = 0 then 1 else 0)
    (oth : ∀ u : Int, (u = 0 ∨ u = 1) → u ≠ t → ∀ i : Nat, (i : Int) < 256 → readD Z (0 + u * 256 + i) = readD X (0 + u * 256 + i))
    (tr : ∀ i : Nat, (i : Int) < 256 → readD Z (0 + t * 256 + i) = readD X (0 + t * 256 + i) ∨ ((i : Int) < prtD bs.length ∧ (readD Z (0 + t * 256 + i) = (padB (laySec (headD gr bs) bs i), 0) ∨ readD Z (0 + t * 256 + i) = ([], 9)))) :
    grD Z 0 512 ≤ gr + 1 ∧ (∀ s, BP Z 0 256 s → (s = t ∧ outW Z (0 + s * 256) = bs ∧ numW Z 0 256 s = gr + 1) ∨ (s = slot ∧ (0 ≤ s → outW Z (0 + s * 256) = outW X (0 + s * 256) ∧ numW Z 0 256 s = numW X 0 256 s))) ∧
      ((∀ j : Nat, (j : Int) < prtD bs.length → readD Z (0 + t * 256 + j) = (padB (laySec (headD gr bs) bs j), 0)) → BP Z 0 256 t ∧ outW Z (0 + t * 256) = bs ∧ numW Z 0 256 t = gr + 1) ∧
      (0 ≤ slot → numW X 0 256 slot ≤ gr) := by
  have p1 := prt_pos bs.length
  have p6 : prtD bs.length ≤ 256 := by unfold prtD; split <;> omega
  have gn := gr_nn g 0 512
  have tt : t = 0 ∨ t = 1 := by rw [ht]; split <;> omega
  rw [← egr] at gn
  have nX : ∀ a : Int, 0 ≤ a → a < 512 → (readD X a).2 = 0 → (fst1 X a).f_n ≤ gr := fun a a0 a1 e => by
    have := gr_ge X 0 512 a.toNat (by omega)
    rw [show (0 : Int) + ((a.toNat : Nat) : Int) = a from by omega, ← egr] at this
    exact this e
  have hdn : ∀ j : Nat, (j : Int) < prtD bs.length → (hdD (padB (laySec (headD gr bs) bs j))).f_n = gr + 1 := fun j hj => by
    have := hd_sec (f := headD gr bs) (bs := bs) (i := j) ⟨by show 0 ≤ gr + 1; omega, by show gr + 1 < _; omega⟩ (by omega) (by show 0 ≤ prtD _ ∧ prtD _ < 65536; omega) (by show (0 : Int) ≤ (bs.length : Int) ∧ (bs.length : Int) < 4294967296; omega) (sum_bd bs)
    rw [this]; rfl
  have othW : ∀ u : Int, (u = 0 ∨ u = 1) → u ≠ t → (IsW Z 0 256 u ↔ IsW X 0 256 u) ∧ numW Z 0 256 u = numW X 0 256 u ∧ (IsW X 0 256 u → outW Z (0 + u * 256) = outW X (0 + u * 256)) := fun u hu ne => by
    have o := oth u hu ne
    have o0 := o 0 (by omega)
    rw [show 0 + u * 256 + ((0 : Nat) : Int) = 0 + u * 256 from by omega] at o0
    have to : IsW X 0 256 u → IsW Z 0 256 u ∧ outW Z (0 + u * 256) = outW X (0 + u * 256) := fun w => by
      have := w.2.1.2.1
      obtain ⟨a, b, c, d⟩ := wh_cong (Z := Z) w.2 fun i hi => o i (by omega)
      exact ⟨⟨by rw [d]; exact w.1, a⟩, b⟩
    refine ⟨⟨fun w => ?_, fun w => (to w).1⟩, by unfold numW fst1; rw [o0], fun w => (to w).2⟩
    have := w.2.1.2.1
    obtain ⟨a, b, c, d⟩ := wh_cong (Z := X) w.2 fun i hi => (o i (by omega)).symm
    exact ⟨by rw [d]; exact w.1, a⟩
  have numX : ∀ u : Int, (u = 0 ∨ u = 1) → IsW X 0 256 u → numW X 0 256 u ≤ gr := fun u hu w => nX (0 + u * 256) (by omega) (by omega) w.1
  have cw : IsW Z 0 256 t → (IsW X 0 256 t ∧ numW Z 0 256 t = numW X 0 256 t) ∨ (outW Z (0 + t * 256) = bs ∧ numW Z 0 256 t = gr + 1) := fun w => by
    rcases cut_wholeJ (X := X) (Z := Z) (p := 0 + t * 256) (kk := 256) (gr := gr) (bs := bs) (by omega) p6 ⟨gn, gl⟩ (fun i hi => nX _ (by omega) (by omega)) tr w.1 w.2 with ⟨a, b1, c, d⟩ | ⟨h, e⟩
    · exact .inl ⟨⟨a, b1⟩, by unfold numW; rw [d]⟩
    · exact .inr ⟨h, by unfold numW; rw [e]; rfl⟩
  refine ⟨gr_le (by omega) 512 fun i hi e => ?_, fun s bz => ?_, fun all => ?_, fun s0 => ?_⟩
  · have new : ∀ j : Nat, (j : Int) < 256 → (0 : Int) + i = 0 + t * 256 + j → (fst1 Z (0 + i)).f_n ≤ gr + 1 := fun j hj ej => by
      rcases tr j hj with h | ⟨h1, h | h⟩
      · rw [← ej] at h
        have := nX (0 + i) (by omega) (by omega) (by rw [← h]; exact e)
        have e2 : fst1 Z (0 + i) = fst1 X (0 + i) := by unfold fst1; rw [h]
        rw [e2]; omega
      · have : (fst1 Z (0 + i)).f_n = gr + 1 := by unfold fst1; rw [ej, h]; exact hdn j h1
        omega
      · rw [ej, h] at e; cases e
    have ot : ∀ (u : Int) (j : Nat), (u = 0 ∨ u = 1) → u ≠ t → (j : Int) < 256 → (0 : Int) + i = 0 + u * 256 + j → (fst1 Z (0 + i)).f_n ≤ gr + 1 := fun u j hu ne hj ej => by
      have h := oth u hu ne j hj
      rw [← ej] at h
      have := nX (0 + i) (by omega) (by omega) (by rw [← h]; exact e)
      have e2 : fst1 Z (0 + i) = fst1 X (0 + i) := by unfold fst1; rw [h]
      rw [e2]; omega
    by_cases q : i < 256
    · rcases tt with et | et
      · exact new i (by omega) (by rw [et]; omega)
      · exact ot 0 i (.inl rfl) (by omega) (by omega) (by omega)
    · rcases tt with et | et
      · exact ot 1 (i - 256) (.inr rfl) (by omega) (by omega) (by omega)
      · exact new (i - 256) (by omega) (by rw [et]; omega)
  · have o0 := othW 0 (.inl rfl)
    have o1 := othW 1 (.inr rfl)
    by_cases sl : slot = 0
    · rw [if_pos sl] at ht
      subst ht
      obtain ⟨i0, n0, u0⟩ := o0 (by omega)
      have w0 : IsW X 0 256 0 := by
        rcases b with ⟨e, _⟩ | ⟨_, w, _⟩ | ⟨e, _⟩
        · omega
        · exact w
        · omega
      have q0 : IsW X 0 256 1 → numW X 0 256 1 ≤ numW X 0 256 0 := by
        rcases b with ⟨e, _⟩ | ⟨_, _, q⟩ | ⟨e, _⟩
        · omega
        · exact q
        · omega
      rcases bz with ⟨e1, m0, m1⟩ | ⟨e1, v0, q1⟩ | ⟨e1, v1, q1⟩
      · exact absurd (i0.2 w0) m0
      · exact .inr ⟨by omega, fun _ => by rw [e1]; exact ⟨u0 w0, n0⟩⟩
      · rcases cw v1 with ⟨a, c⟩ | ⟨h1, h2⟩
        · have := q1 (i0.2 w0)
          have := q0 a
          omega
        · exact .inl ⟨e1, by rw [e1]; exact h1, by rw [e1]; exact h2⟩
    · rw [if_neg sl] at ht
      subst ht
      obtain ⟨i1, n1, u1⟩ := o1 (by omega)
      rcases bz with ⟨e1, m0, m1⟩ | ⟨e1, v0, q1⟩ | ⟨e1, v1, q1⟩
      · refine .inr ⟨?_, fun q => by omega⟩
        rcases b with ⟨e, _⟩ | ⟨e, _, _⟩ | ⟨e, w, _⟩
        · omega
        · omega
        · exact absurd (i1.2 w) m1
      · rcases cw v0 with ⟨a, c⟩ | ⟨h1, h2⟩
        · rcases b with ⟨e, w, _⟩ | ⟨e, _, _⟩ | ⟨e, w, q⟩
          · exact absurd a w
          · omega
          · have := q1 (i1.2 w)
            have := q a
            omega
        · exact .inl ⟨e1, by rw [e1]; exact h1, by rw [e1]; exact h2⟩
      · have wx := i1.1 v1
        have es : slot = 1 := by
          rcases b with ⟨e, _, w⟩ | ⟨e, _, _⟩ | ⟨e, w, q⟩
          · exact absurd wx w
          · omega
          · exact e
        exact .inr ⟨by omega, fun _ => by rw [e1]; exact ⟨u1 wx, n1⟩⟩
  · obtain ⟨a, b1, c, d⟩ := lay_whole (kk := 256) (by omega) p6 ⟨gn, gl⟩ all
    have w : IsW Z 0 256 t := ⟨a, b1⟩
    have nw : numW Z 0 256 t = gr + 1 := c
    have cmp : ∀ u : Int, (u = 0 ∨ u = 1) → u ≠ t → IsW Z 0 256 u → numW Z 0 256 u ≤ gr := fun u hu ne wu => by
      obtain ⟨h1, h2, _⟩ := othW u hu ne
      rw [h2]; exact numX u hu (h1.1 wu)
    refine ⟨?_, d, nw⟩
    rcases tt with e | e
    · subst e
      exact .inr (.inl ⟨rfl, w, fun w1 => by have := cmp 1 (.inr rfl) (by omega) w1; omega⟩)
    · subst e
      exact .inr (.inr ⟨rfl, w, fun w0 => by have := cmp 0 (.inl rfl) (by omega) w0; omega⟩)
  · rcases b with ⟨e, _⟩ | ⟨e, w, _⟩ | ⟨e, w, _⟩
    · omega
    · rw [e]; exact numX 0 (.inl rfl) w
    · rw [e]; exact numX 1 (.inr rfl) w
end Go.Q.Yf
/- Journal: records behind an image, plainly. -/
namespace Go.Q.Yf
def posL (ls : List (List Int)) : Nat → Int
  | 0 => 512
  | r + 1 => posL ls r + jprtD ((ls.getD r []).length : Int)
theorem posL_mono (ls : List (List Int)) : ∀ (m r : Nat), r ≤ m → posL ls r ≤ posL ls m
  | 0, r, h => by rw [show r = 0 from by omega]; exact Int.le_refl _
  | m + 1, r, h => by
    by_cases q : r = m + 1
    · rw [q]; exact Int.le_refl _
    · have := posL_mono ls m r (by omega)
      have j := (jp_bd (n := ((ls.getD m []).length : Int)) (by omega)).1
      rw [posL]; omega
theorem posL_bd {ls : List (List Int)} : ∀ m : Nat, (∀ r : Nat, r < m → (ls.getD r []).length ≤ 300) → 512 ≤ posL ls m ∧ posL ls m ≤ 512 + 3 * m
  | 0, _ => by rw [posL]; omega
  | m + 1, h => by
    have ih := posL_bd m fun r hr => h r (by omega)
    have hm := h m (by omega)
    have : jprtD ((ls.getD m []).length : Int) ≤ 3 ∧ 1 ≤ jprtD ((ls.getD m []).length : Int) := by unfold jprtD; split <;> omega
    rw [posL]; omega
/-- so many records stand behind the image -/
structure AS (Y : DK) (e : Int) (ls : List (List Int)) (done : Nat) (G : DK) : Prop where
  sh : ∀ r : Nat, r < done → (ls.getD r []).length ≤ 300
  low : ∀ a, a < 512 → vD G a = vD Y a
  laid : ∀ r : Nat, r < done → ∀ j : Nat, (j : Int) < jprtD (ls.getD r []).length → vD G (posL ls r + j) = gV (recS e r (ls.getD r [])) j
  rest : ∀ a, posL ls done ≤ a → vD G a = vD Y a
  any : ∀ a, 512 ≤ a → vD G a = vD Y a ∨ ∃ (r : Nat) (b : List Int) (j : Nat), r ≤ 5 ∧ isB b ∧ b.length ≤ 300 ∧ j < 3 ∧ vD G a = gV (recS e r b) j
  safe : G.safe = []
  dead : G.dead = false
theorem AS.zero {Y : DK} {e : Int} {ls : List (List Int)} (hs : Y.safe = []) (hd : Y.dead = false) : AS Y e ls 0 Y :=
  ⟨fun r hr => by omega, fun _ _ => rfl, fun r hr => by omega, fun _ _ => rfl, fun _ _ => .inl rfl, hs, hd⟩
theorem AS.good {Y G : DK} {e : Int} {ls : List (List Int)} {done : Nat} (A : AS Y e ls done G) (g : GoodX Y) : GoodX G := good_of A.safe fun a => by
  by_cases q : a < 512
  · rw [A.low a q]; exact g.1 a
  · rcases A.any a (by omega) with h | ⟨r, b, j, _, hb, _, _, h⟩
    · rw [h]; exact g.1 a
    · rw [h]; exact gV_B (recS_le _ _ _ _) (recS_B hb)
theorem jp3 {n : Nat} (h : n ≤ 300) : jprtD (n : Int) ≤ 3 ∧ 1 ≤ jprtD (n : Int) := by unfold jprtD; split <;> omega
theorem AS.step {Y G G' : DK} {e : Int} {ls : List (List Int)} {done : Nat} (A : AS Y e ls done G) (d5 : done ≤ 5) (hB : isB (ls.getD done [])) (l3 : (ls.getD done []).length ≤ 300) (hs : G'.safe = []) (hd : G'.dead = false)
    (L : LG G G' (posL ls done) (recS e done (ls.getD done [])) (jprtD (ls.getD done []).length).toNat) : AS Y e ls (done + 1) G' := by
  have pb := posL_bd done A.sh
  have j3 := jp3 l3
  refine ⟨fun r hr => ?_, fun a ha => ?_, fun r hr j hj => ?_, fun a ha => ?_, fun a ha => ?_, hs, hd⟩
  · by_cases q : r = done
    · rw [q]; exact l3
    · exact A.sh r (by omega)
  · rcases L.now a with h | ⟨j, h1, h2⟩
    · rw [h]; exact A.low a ha
    · omega
  · by_cases q : r = done
    · subst q
      exact L.all j (by omega)
    · have m := posL_mono ls done (r + 1) (by omega)
      rw [posL] at m
      rcases L.now (posL ls r + j) with h | ⟨j', h1, h2⟩
      · rw [h]; exact A.laid r (by omega) j hj
      · omega
  · rw [posL] at ha
    rcases L.now a with h | ⟨j, h1, h2⟩
    · rw [h]; exact A.rest a (by omega)
    · omega
  · rcases L.now a with h | ⟨j, h1, h2⟩
    · rw [h]; exact A.any a ha
    · refine .inr ⟨done, _, j, d5, hB, l3, by omega, ?_⟩
      rw [h2]; exact L.all j h1
theorem keeps_fin {Y Z G : DK} {e : Int} {ls : List (List Int)} {done : Nat} (A : AS Y e ls done G) (dl : done ≤ ls.length) (l5 : ls.length ≤ 5) (he : 0 ≤ e ∧ e < 18446744073709551616)
    (old : ∀ a, 512 ≤ a → (readD Y a).2 = 0 → (rh Y a).f_epoch < e)
    (Zt : ∀ a, vD Z a = vD G a ∨ (done < ls.length ∧ (ls.getD done []).length ≤ 300 ∧ ∃ j : Nat, (j : Int) < jprtD (ls.getD done []).length ∧ a = posL ls done + j ∧ (vD Z a = gV (recS e done (ls.getD done [])) j ∨ vD Z a = ⟨[], true⟩))) :
    (∃ m : Nat, done ≤ m ∧ m ≤ done + 1 ∧ m ≤ ls.length ∧ Stands Z e 0 512 (ls.take m)) ∧ (∀ a, 512 ≤ a → a < 1024 → (readD Z a).2 = 0 → (rh Z a).f_epoch ≤ e) := by
  have pb := posL_bd done A.sh
  have rdL : ∀ r : Nat, r < done → ∀ j : Nat, (j : Int) < jprtD (ls.getD r []).length → readD Z (posL ls r + j) = (padB (recS e r (ls.getD r []) j), 0) := fun r hr j hj => by
    have m := posL_mono ls done (r + 1) (by omega)
    rw [posL] at m
    have b := posL_bd r fun q hq => A.sh q (by omega)
    have ev : vD Z (posL ls r + j) = gV (recS e r (ls.getD r [])) j := by
      rcases Zt (posL ls r + j) with h | ⟨_, _, j', _, h2, _⟩
      · rw [h]; exact A.laid r hr j hj
      · omega
    exact rdG_new (recS_le _ _ _ _) (by omega) ev
  have up : ∀ r : Nat, r ≤ done → ∀ tail, Stands Z e r (posL ls r) tail → Stands Z e 0 512 (ls.take r ++ tail) := fun r => by
    induction r with
    | zero => intro _ tail h; simpa [posL] using h
    | succ r ih =>
      intro hr tail h
      have hl : r < ls.length := by omega
      have eg : ls.getD r [] = ls[r] := by simp [hl]
      have sh := A.sh r (by omega)
      obtain ⟨w, o⟩ := rec_whole (n := (r : Int)) he (by omega) (by omega) (rdL r (by omega))
      have := ih (by omega) (ls.getD r [] :: tail) (.cons w o (by rw [posL] at h; exact h))
      rw [List.take_add_one, List.getElem?_eq_getElem hl, Option.toList_some, List.append_assoc]
      rw [eg] at this
      exact this
  -- sectors behind what stands are old
  have nrec : ∀ (n p : Int), 512 ≤ p → vD Z p = vD Y p → ¬ RecW Z e n p := fun n p p0 ev w => by
    have er := w.1.1
    have eh := w.1.2
    rw [show p + ((0 : Nat) : Int) = p from by omega] at er eh
    have ec := rd_cong ev
    rw [ec] at er eh
    have := old p p0 er
    have e2 : (rh Y p).f_epoch = e := by unfold rh; rw [eh]; rfl
    omega
  refine ⟨?_, fun a a0 a1 er => ?_⟩
  · rcases Classical.em (RecW Z e done (posL ls done)) with w | w
    · rcases Classical.em (∀ a, vD Z a = vD G a) with q | q
      · exact absurd w (nrec _ _ pb.1 ((q _).trans (A.rest _ (Int.le_refl _))))
      · obtain ⟨a, qa⟩ := Classical.not_forall.1 q
        obtain ⟨q1, q2, -⟩ : done < ls.length ∧ (ls.getD done []).length ≤ 300 ∧ True := by
          rcases Zt a with h | ⟨h1, h2, _⟩
          · exact absurd h qa
          · exact ⟨h1, h2, trivial⟩
        have j3 := jp3 q2
        have tri : ∀ j : Nat, (j : Int) < jprtD (ls.getD done []).length → readD Z (posL ls done + j) = readD Y (posL ls done + j) ∨ readD Z (posL ls done + j) = (padB (recS e done (ls.getD done []) j), 0) ∨ readD Z (posL ls done + j) = ([], 9) := fun j hj => by
          rcases Zt (posL ls done + j) with h | ⟨_, _, j', h1, h2, h3⟩
          · exact .inl (rd_cong (h.trans (A.rest _ (by omega))))
          · have ej : j' = j := by omega
            rw [ej] at h3
            rcases h3 with h3 | h3
            · exact .inr (.inl (rdG_new (recS_le _ _ _ _) (by omega) h3))
            · exact .inr (.inr (rd_torn (by omega) h3))
        have all := rec_part (X := Y) he (by omega) (by omega) (fun j hj er => old _ (by omega) er) tri w
        obtain ⟨w2, o2⟩ := rec_whole he (by omega) (by omega) all
        refine ⟨done + 1, by omega, Nat.le_refl _, by omega, ?_⟩
        have nx : vD Z (posL ls (done + 1)) = vD Y (posL ls (done + 1)) := by
          rw [posL]
          rcases Zt (posL ls done + jprtD (ls.getD done []).length) with h | ⟨_, _, j', h1, h2, _⟩
          · exact h.trans (A.rest _ (by omega))
          · omega
        have := up done (Nat.le_refl _) [ls.getD done []] (.cons w2 o2 (.nil (nrec _ _ (by omega) (by rw [posL] at nx; exact nx))))
        rw [List.take_add_one, List.getElem?_eq_getElem q1, Option.toList_some]
        rw [show ls.getD done [] = ls[done] from by simp [q1]] at this
        exact this
    · refine ⟨done, Nat.le_refl _, by omega, dl, ?_⟩
      have := up done (Nat.le_refl _) [] (.nil w)
      rw [List.append_nil] at this
      exact this
  · have new : ∀ (r : Nat) (b : List Int) (j : Nat), r ≤ 5 → b.length ≤ 300 → j < 3 → vD Z a = gV (recS e r b) j → (rh Z a).f_epoch ≤ e := fun r b j h1 h2 h3 h4 => by
      have := rdG_new (recS_le _ _ _ _) (by omega) h4
      have e2 : (rh Z a).f_epoch = e := by unfold rh; rw [this]; dsimp only; rw [jhd_sec he (by omega) (by omega) (by omega)]; rfl
      omega
    rcases Zt a with h | ⟨h1, h2, j, h3, h4, h5 | h5⟩
    · rcases A.any a a0 with q | ⟨r, b, j, q1, q2, q3, q4, q5⟩
      · have ec := rd_cong (h.trans q)
        have := old a a0 (by rw [← ec]; exact er)
        have e2 : (rh Z a).f_epoch = (rh Y a).f_epoch := by unfold rh; rw [ec]
        omega
      · exact new r b j q1 q3 q4 (h.trans q5)
    · have := jp3 h2
      exact new done _ j (by omega) h2 (by omega) h5
    · rw [rd_torn (by omega) h5] at er
      cases er
end Go.Q.Yf
/- Journal: a saving that nothing cuts; rows of bytes; the example. -/
namespace Go.Q.Yf
structure WSJ (X : DK) (bs : List Int) (t : Int) (N : Nat) (r : Int × Int) (Y : DK) : Prop where
  r : r = (grD X 0 512 + 1, 0)
  good : GoodX Y
  safe : Y.safe = []
  fuse : Y.fuse = 0
  dead : Y.dead = false
  gr : grD Y 0 512 = grD X 0 512 + 1
  bp : BP Y 0 256 t
  new : ∀ j : Nat, j < N → readD Y (t * 256 + j) = (padB (newS (headD (grD X 0 512) bs) bs j), 0)
  hi : ∀ a, 512 ≤ a → vD Y a = vD X a
  out : outW Y (0 + t * 256) = bs
  num : numW Y 0 256 t = grD X 0 512 + 1
  old : ∀ u : Int, (u = 0 ∨ u = 1) → u ≠ t → ∀ i : Nat, i < 256 → readD Y (u * 256 + i) = readD X (u * 256 + i)
theorem wsJ_ok {X : DK} {bs : List Int} {slot t : Int} {r : Int × Int} {Y : DK} {N : Nat} (g : GoodX X) (hs : X.safe = []) (hd : X.dead = false) (hf : X.fuse = 0) (hB : isB bs) (bl : bs.length ≤ 20000) (gl : grD X 0 512 < 4611686018427387904)
    (b : BP X 0 256 slot) (ht : t = if slot = 0 then 1 else 0) (hN : (prtD bs.length).toNat ≤ N) (N6 : N ≤ 256) (hr : (r, Y) = layD (0 + t * 256) (headD (grD X 0 512) bs) bs X N) : WSJ X bs t N r Y := by
  have p1 := prt_pos bs.length
  have p6 : prtD bs.length ≤ 256 := by unfold prtD; split <;> omega
  have gn := gr_nn g 0 512
  have tt : t = 0 ∨ t = 1 := by rw [ht]; split <;> omega
  obtain ⟨gr, egr⟩ : ∃ gr, gr = grD X 0 512 := ⟨_, rfl⟩
  rw [← egr] at gl hr gn
  have er : r = (layD (0 + t * 256) (headD gr bs) bs X N).1 := congrArg (·.1) hr
  have eY : Y = (layD (0 + t * 256) (headD gr bs) bs X N).2 := congrArg (·.2) hr
  obtain ⟨q1, q2, q3, q4, L⟩ := layD_free (f := headD gr bs) (bs := bs) (N := N) (p := 0 + t * 256) hd hf hs (by omega) (by omega)
  rw [← er] at q1
  rw [← eY] at q2 q3 q4 L
  have rdn : ∀ j : Nat, j < N → readD Y (t * 256 + j) = (padB (newS (headD gr bs) bs j), 0) := fun j hj => by
    have := L.all j hj
    rw [show 0 + t * 256 + (j : Int) = t * 256 + j from by omega] at this
    exact rd_new (by omega) this
  have tri : ∀ a, readD Y a = readD X a ∨ ∃ j : Nat, j < N ∧ a = t * 256 + j := fun a => by
    rcases L.now a with h | ⟨j, h1, h2⟩
    · exact .inl (rd_cong h)
    · exact .inr ⟨j, h1, by omega⟩
  have gY : GoodX Y := good_of q4 fun a => by
    rcases L.now a with h | ⟨j, h1, h2⟩
    · rw [h]; exact g.1 a
    · rw [h2, L.all j h1]; exact newV_B hB
  have hdn : ∀ j : Nat, j < N → ((j : Int) < prtD bs.length → (hdD (padB (newS (headD gr bs) bs j))).f_n = gr + 1) ∧ (hdD (padB (newS (headD gr bs) bs j))).f_n ≤ gr + 1 := fun j hj => by
    unfold newS
    by_cases c : (j : Int) < (headD gr bs).f_parts
    · rw [if_pos c]
      have := hd_sec (f := headD gr bs) (bs := bs) (i := j) ⟨by show 0 ≤ gr + 1; omega, by show gr + 1 < _; omega⟩ (by omega) (by show 0 ≤ prtD _ ∧ prtD _ < 65536; omega) (by show (0 : Int) ≤ (bs.length : Int) ∧ (bs.length : Int) < 4294967296; omega) (sum_bd bs)
      rw [this]
      exact ⟨fun _ => rfl, Int.le_refl _⟩
    · rw [if_neg c, pad_zero, fn_zero]
      exact ⟨fun h => absurd h c, by omega⟩
  have nX : ∀ a : Int, 0 ≤ a → a < 512 → (readD X a).2 = 0 → (fst1 X a).f_n ≤ gr := fun a a0 a1 e => by
    have := gr_ge X 0 512 a.toNat (by omega)
    rw [show (0 : Int) + ((a.toNat : Nat) : Int) = a from by omega, ← egr] at this
    exact this e
  have oth : ∀ u : Int, (u = 0 ∨ u = 1) → u ≠ t → ∀ i : Nat, i < 256 → readD Y (u * 256 + i) = readD X (u * 256 + i) := fun u hu ne i hi => by
    rcases tri (u * 256 + i) with h | ⟨j, h1, h2⟩
    · exact h
    · omega
  have rd : ∀ j : Nat, (j : Int) < prtD bs.length → readD Y (0 + t * 256 + j) = (padB (laySec (headD gr bs) bs j), 0) := fun j hj => by
    rw [show 0 + t * 256 + (j : Int) = t * 256 + j from by omega, rdn j (by omega)]
    unfold newS
    rw [if_pos (show (j : Int) < (headD gr bs).f_parts from hj)]
  obtain ⟨a, b1, c, d⟩ := lay_whole (kk := 256) (by omega) p6 ⟨gn, gl⟩ rd
  have w : IsW Y 0 256 t := ⟨a, b1⟩
  have nw : numW Y 0 256 t = gr + 1 := c
  have cmp : ∀ u : Int, (u = 0 ∨ u = 1) → u ≠ t → IsW Y 0 256 u → numW Y 0 256 u ≤ gr := fun u hu ne wu => by
    have o0 := oth u hu ne 0 (by omega)
    rw [show u * 256 + ((0 : Nat) : Int) = 0 + u * 256 from by omega] at o0
    have e : numW Y 0 256 u = (fst1 X (0 + u * 256)).f_n := by unfold numW fst1; rw [o0]
    rw [e]
    exact nX (0 + u * 256) (by omega) (by omega) (by rw [← o0]; exact wu.1)
  refine ⟨by rw [q1, ← egr]; rfl, gY, q4, q3, q2, ?_, ?_, by rw [← egr]; exact rdn, fun a ha => ?_, d, by rw [← egr]; exact nw, oth⟩
  · rw [← egr]
    refine Int.le_antisymm (gr_le (by omega) 512 fun i hi e => ?_) ?_
    · rcases tri (0 + i) with h | ⟨j, h1, h2⟩
      · have := nX (0 + i) (by omega) (by omega) (by rw [← h]; exact e)
        have e2 : fst1 Y (0 + i) = fst1 X (0 + i) := by unfold fst1; rw [h]
        rw [e2]; omega
      · have e3 := rdn j h1
        rw [← h2] at e3
        have : fst1 Y (0 + i) = hdD (padB (newS (headD gr bs) bs j)) := by unfold fst1; rw [e3]
        rw [this]; exact (hdn j h1).2
    · have e3 := rdn 0 (by omega)
      have := gr_ge Y 0 512 (t * 256).toNat (by omega)
      rw [show (0 : Int) + (((t * 256).toNat : Nat) : Int) = t * 256 + ((0 : Nat) : Int) from by omega, e3] at this
      have e4 : fst1 Y (t * 256 + ((0 : Nat) : Int)) = hdD (padB (newS (headD gr bs) bs 0)) := by unfold fst1; rw [e3]
      rw [e4, (hdn 0 (by omega)).1 (by omega)] at this
      exact this rfl
  · rcases tt with e | e
    · subst e
      exact .inr (.inl ⟨rfl, w, fun w1 => by have := cmp 1 (.inr rfl) (by omega) w1; omega⟩)
    · subst e
      exact .inr (.inr ⟨rfl, w, fun w0 => by have := cmp 0 (.inl rfl) (by omega) w0; omega⟩)
  · rcases L.now a with h | ⟨j, h1, h2⟩
    · exact h
    · omega
theorem Addr.add_zero' (a : Addr) : a.add 0 = a := by unfold Addr.add; split <;> simp_all
/-- rows of bytes that came in -/
structure Rws (h : Heap) (s : Slc) (bss : List (List Int)) (ys : List Slc) : Prop where
  ly : s.len = ys.length
  lb : ys.length = bss.length
  at' : ∀ (i : Nat) y, ys[i]? = some y → ∃ a, s.a = some a ∧ cellH h (a.add (i * 1)) = some (Slc.v y)
  row : ∀ (i : Nat) y bs, ys[i]? = some y → bss[i]? = some bs → SlcAt h y (b8 bs) ∧ y.len = bs.length ∧ y.len ≤ y.cap ∧ isB bs
theorem isB_wf {zs : List Int} (h : ∀ n ∈ zs, (Lit.int .u8 n).wf = true) : isB zs := fun b hb => wf_u8 (h b hb)
theorem Rws.get {h : Heap} {s : Slc} {bss : List (List Int)} {ys : List Slc} (R : Rws h s bss ys) {i : Int} (i0 : 0 ≤ i) (i1 : i < s.len) : ∃ y bs a, ys[i.toNat]? = some y ∧ bss[i.toNat]? = some bs ∧ s.a = some a ∧ cellH h (a.add (i.toNat * 1)) = some (Slc.v y) ∧ SlcAt h y (b8 bs) ∧ y.len = bs.length ∧ y.len ≤ y.cap ∧ isB bs := by
  have := R.ly; have := R.lb
  have h1 : i.toNat < ys.length := by omega
  have h2 : i.toNat < bss.length := by omega
  have e1 := List.getElem?_eq_getElem h1
  have e2 := List.getElem?_eq_getElem h2
  obtain ⟨a, ha, hc⟩ := R.at' _ _ e1
  exact ⟨_, _, a, e1, e2, ha, hc, R.row _ _ _ e1 e2⟩
theorem SameRows_ok {B : Nat} {p0 p1 : Slc} {l : List (List Int)} {ys zs : List Slc} {k : Bool → Heap → Prop} {h : Heap} (K : Recs B h p0 l ys) (lp : p1.len = l.length) (hz : l.length ≤ zs.length) (bd : ∀ b ∈ l, b.length ≤ 4294967296) (ll : l.length ≤ 1000)
    (Z : ∀ (i : Nat) z, zs[i]? = some z → ∃ a, p1.a = some a ∧ cellH h (a.add (i * 1)) = some (Slc.v z)) (row : ∀ (i : Nat) z b, zs[i]? = some z → l[i]? = some b → SlcAt h z (b8 b) ∧ z.len = b.length) (H : k true h) : ref11_SameRows p0 p1 k h := by
  have l0 : p0.len = l.length := by have := K.r.len; rw [this, List.length_map, K.n]
  have hn := K.n
  unfold ref11_SameRows
  rw [if_neg (by simp [l0, lp])]
  unfold ref11_SameRows_l1
  refine ⟨fun i h' => h' = h ∧ 0 ≤ i ∧ i ≤ l.length, fun i _ => (l.length - i).toNat, ⟨rfl, by omega, by omega⟩, ?_⟩
  rintro i h' ⟨rfl, i0, i1⟩
  unfold ref11_SameRows_l1b
  by_cases ci : i < l.length
  · rw [if_pos (by rw [decide_eq_true_eq]; omega)]
    have e1 : ys[i.toNat]? = some (ys[i.toNat]'(by omega)) := List.getElem?_eq_getElem (by omega)
    have e2 : zs[i.toNat]? = some (zs[i.toNat]'(by omega)) := List.getElem?_eq_getElem (by omega)
    have e3 : l[i.toNat]? = some (l[i.toNat]'(by omega)) := List.getElem?_eq_getElem (by omega)
    have hb := bd _ (List.getElem_mem (l := l) (n := i.toNat) (by omega))
    obtain ⟨a, ha, hc⟩ := K.r.at (j := i.toNat) (by omega)
    rw [List.getElem?_map, e1] at hc
    obtain ⟨a2, ha2, hc2⟩ := Z _ _ e2
    obtain ⟨q1, q2, _⟩ := K.row _ _ _ e1 e3
    obtain ⟨q3, q4⟩ := row _ _ _ e2 e3
    refine ⟨a, ha, i0, by omega, _, by rw [Nat.mul_one]; exact hc, a2, ha2, i0, by omega, _, hc2, DSame_ok q1 q2 q3 q4 (by omega) ?_⟩
    rw [if_neg (by simp), wrapI64 (by omega) (by omega)]
    exact ⟨_, rfl, ⟨rfl, by omega, by omega⟩, by dsimp only; omega⟩
  · rw [if_neg (by rw [decide_eq_true_eq]; omega)]
    exact H
end Go.Q.Yf
/- Journal: the document's example, walked. -/
namespace Go.Q.Yf
variable {B c : Nat} {h h' : Heap} {d rn rs pr sr : Nat} {X : DK}
theorem bp_loc {X Z : DK} {s : Int} (h : ∀ p, 0 ≤ p → p < 512 → readD Z p = readD X p) (b : BP X 0 256 s) : BP Z 0 256 s ∧ (0 ≤ s → outW Z (0 + s * 256) = outW X (0 + s * 256) ∧ numW Z 0 256 s = numW X 0 256 s) ∧ grD Z 0 512 = grD X 0 512 := by
  have one : ∀ u : Int, (u = 0 ∨ u = 1) → (IsW Z 0 256 u ↔ IsW X 0 256 u) ∧ numW Z 0 256 u = numW X 0 256 u ∧ (IsW X 0 256 u → outW Z (0 + u * 256) = outW X (0 + u * 256)) := fun u hu => by
    have o : ∀ i : Nat, (i : Int) < 256 → readD Z (0 + u * 256 + i) = readD X (0 + u * 256 + i) := fun i hi => h _ (by omega) (by omega)
    have o0 := o 0 (by omega)
    rw [show 0 + u * 256 + ((0 : Nat) : Int) = 0 + u * 256 from by omega] at o0
    have to : IsW X 0 256 u → IsW Z 0 256 u ∧ outW Z (0 + u * 256) = outW X (0 + u * 256) := fun w => by
      have := w.2.1.2.1
      obtain ⟨a, b, c, d⟩ := wh_cong (Z := Z) w.2 fun i hi => o i (by omega)
      exact ⟨⟨by rw [d]; exact w.1, a⟩, b⟩
    refine ⟨⟨fun w => ?_, fun w => (to w).1⟩, by unfold numW fst1; rw [o0], fun w => (to w).2⟩
    have := w.2.1.2.1
    obtain ⟨a, b, c, d⟩ := wh_cong (Z := X) w.2 fun i hi => (o i (by omega)).symm
    exact ⟨by rw [d]; exact w.1, a⟩
  obtain ⟨a0, n0, u0⟩ := one 0 (.inl rfl)
  obtain ⟨a1, n1, u1⟩ := one 1 (.inr rfl)
  have gg : ∀ n : Nat, n ≤ 512 → grD Z 0 n = grD X 0 n := fun n => by
    induction n with
    | zero => intro _; rfl
    | succ n ih =>
      intro hn
      have hh := h (0 + n) (by omega) (by omega)
      rw [grD, grD, hh, ih (by omega)]
      have : fst1 Z (0 + n) = fst1 X (0 + n) := by unfold fst1; rw [hh]
      rw [this]
  refine ⟨?_, ?_, gg 512 (Nat.le_refl _)⟩
  · rcases b with ⟨e, q0, q1⟩ | ⟨e, w, q⟩ | ⟨e, w, q⟩
    · exact .inl ⟨e, fun x => q0 (a0.1 x), fun x => q1 (a1.1 x)⟩
    · exact .inr (.inl ⟨e, a0.2 w, fun x => by rw [n0, n1]; exact q (a1.1 x)⟩)
    · exact .inr (.inr ⟨e, a1.2 w, fun x => by rw [n0, n1]; exact q (a0.1 x)⟩)
  · intro s0
    rcases b with ⟨e, q0, q1⟩ | ⟨e, w, q⟩ | ⟨e, w, q⟩
    · omega
    · rw [e]; exact ⟨u0 w, n0⟩
    · rw [e]; exact ⟨u1 w, n1⟩
theorem Row.jf {E : Nat} {s : Slc} {xs : List Value} {fresh : Bool} {e n p : Int} (R : Row B h E 1 s xs) (hE : E ≠ 44 ∧ E ≠ 50) (D : DAt B c h d rn rs X) (S : StAt h sr d pr fresh e n p) (F : JF d rn rs sr h h') : Row B h' E 1 s xs := by
  have nm : ∀ {r : Nat} {dd : TypeDesc} {l : List (Value × Value)}, MapH dd h r l → s.blk ≠ some r := fun {r dd l} M q => by
    rcases R.2.2 with ⟨a, _⟩ | ⟨g, cur, a1, a2, a3, _⟩
    · unfold Slc.blk at q; rw [a] at q; cases q
    · unfold Slc.blk at q
      rw [a1] at q
      have := Option.some.inj q
      dsimp only at this
      subst this
      exact blk_map a3 M rfl
  refine R.keep fun g hg => F.block g (R.bd hg).2 (fun q => ?_) (fun q => ?_) (fun q => ?_) (fun q => ?_)
  · subst q; exact Row.unlike R D.P hE.1 hg
  · subst q; exact nm D.N hg
  · subst q; exact nm D.S hg
  · subst q; exact Row.unlike R S hE.2 hg
theorem PairAt.jf {fr kk : Int} {fresh : Bool} {e n p : Int} (P : PairAt h pr d fr kk) (D : DAt B c h d rn rs X) (S : StAt h sr d pr fresh e n p) (F : JF d rn rs sr h h') : PairAt h' pr d fr kk :=
  Blk.old P (F.block pr P.lt (fun q => by subst q; exact Blk.unlike P D.P (by decide) rfl) (blk_map P D.N) (blk_map P D.S) (fun q => by subst q; exact Blk.unlike P S (by decide) rfl))
abbrev J0 : DK := ⟨[], [], 0, false, 0⟩
theorem gJ0 : GoodX J0 := ⟨fun a => zero_B, fun a => zero_B⟩
theorem rdJ0 {a : Int} (ha : 0 ≤ a ∧ a < 1024) : readD J0 a = (nrm 128 [], 0) := rdZ ha rfl
theorem bpJ0 : BP J0 0 256 (-1) := by
  have nw : ∀ u : Int, (u = 0 ∨ u = 1) → ¬ IsW J0 0 256 u := fun u hu => not_whole (.inr (by rw [rdJ0 (by omega)]))
  exact .inl ⟨rfl, nw 0 (.inl rfl), nw 1 (.inr rfl)⟩
theorem grJ0 : grD J0 0 512 = 0 := Int.le_antisymm (gr_le (Int.le_refl _) 512 fun i hi e => by
    have : fst1 J0 (0 + i) = hdD (nrm 128 []) := by unfold fst1; rw [rdJ0 (by omega)]
    rw [this, fn_zero]; omega) (gr_nn gJ0 0 512)
theorem rhJ0 {a : Int} (ha : 0 ≤ a ∧ a < 1024) : (rh J0 a).f_epoch = 0 := by
  unfold rh; rw [rdJ0 ha]; decide
theorem good_boot {G : DK} {fs : List Int} (hs : G.safe = []) (g : GoodX G) : GoodX (bootD G fs) := good_of rfl fun a => by rw [boot_nil hs]; exact g.1 a
set_option maxHeartbeats 1000000 in
theorem awake11_ok {k : Bool → Heap → Prop} {h : Heap} (r : R0 h) (H : ∀ h', Ext h.size h h' → k true h') : law11_awake k h := by
  have r0 := r.pos
  unfold law11_awake
  refine DNew_ok (B := h.size) (Nat.le_refl _) fun d rn rs h2 D2 X2 => ?_
  have z2 := X2.size
  refine JOpen_ok fun pr sr h4 P4 S4 X4 pB sB => ?_
  have z4 := X4.size
  have D4 := D2.ext X4
  have X04 := X2.trans (X4.mono z2)
  have dl := D4.P.lt
  have nl := D4.N.lt
  have sl := D4.S.lt
  have rl := S4.lt
  have sb : h.size ≤ sr := by omega
  refine ⟨_, _, rfl, rfl, _, rfl, ?_⟩
  have A := Blk.pushM h4 [.int .u8 105] 5 (lo := 1) (hi := 2) (by simp)
  have W7 := Ext.push h4 (.cells ([.int .u8 105] : List Value).toArray 5 (1, 2)) (Nat.le_refl _)
  generalize h4.push (.cells ([.int .u8 105] : List Value).toArray 5 (1, 2)) = h7 at *
  have D7 := D4.ext W7
  have P7 : PairAt h7 pr d 0 256 := Blk.ext P4 W7 P4.lt
  have S7 : StAt h7 sr d pr false 0 0 0 := Blk.ext S4 W7 S4.lt
  have X07 := X04.trans (W7.mono X04.size)
  refine JSave_ok (bs := [105]) D7 P7 S7 (r.ext X07 r0) gJ0 (fun h' F' => (A.old (F'.block _ A.lt (by omega) (by omega) (by omega) (by omega))).slc (o := 0) (n := 1) rfl) rfl (Nat.le_refl _) (by simp) fun rr Y c1 h9 L c1l D9 P9 F9 S9 _ => ?_
  rcases L with ⟨q, _⟩ | ⟨_, q, _⟩ | ⟨_, _, s', t, bp, et, el⟩
  · exact absurd q (by decide)
  · exfalso; rw [show ((2 : Int) * 256).toNat = 512 from rfl, grJ0] at q; omega
  rw [show ((2 : Int) * 256).toNat = 512 from rfl, show toN 256 [105] false = 1 from rfl] at el
  have w := wsJ_ok (bs := [105]) gJ0 rfl rfl rfl (fun b hb => by rw [List.mem_singleton] at hb; omega) (by decide) (by rw [grJ0]; omega) bp et (by decide) (by omega) el
  have er : rr = (1, 0) := by have := w.r; rw [grJ0] at this; exact this
  subst er
  have S9' := S9 rfl
  dsimp only at S9' ⊢
  have X09 := X07.trans (F9.ext D7 sb X07.size)
  -- a record more
  have app : ∀ (ls : List (List Int)) (done : Nat) (G : DK) (c0 : Nat) (hh : Heap) (b : Int) (K : Int → Heap → Prop), ls.length = 2 → done < 2 → ls.getD done [] = [b] → (0 ≤ b ∧ b < 256) → AS Y 1 ls done G → G.fuse = 0 → DAt h.size c0 hh d rn rs G → PairAt hh pr d 0 256 → StAt hh sr d pr true 1 done (posL ls done) → Ext h.size h hh →
      (∀ G' c' h', AS Y 1 ls (done + 1) G' → G'.fuse = 0 → DAt h.size c' h' d rn rs G' → PairAt h' pr d 0 256 → StAt h' sr d pr true 1 (done + 1 : Nat) (posL ls (done + 1)) → Ext h.size h h' → c' ≤ c0 + 50 → K 0 h') →
      ∃ (b10 : Nat) (h11 : Heap), b10 = hh.size ∧ h11 = hh.push (.cells ([.int .u8 b] : List Value).toArray 5) ∧ (∃ h12 : Heap, h12 = hh.push (.cells ([.int .u8 b] : List Value).toArray 5 (1, 2)) ∧ (journal_Store_Append (some ⟨sr, 0, none⟩) (⟨some ⟨b10, 0, none⟩, 1, 1⟩ : Slc) K h12)) := fun ls done G c0 hh b K l2 d2 eb bb A5 fu D5 P5 S5 X5 F => by
    refine ⟨_, _, rfl, rfl, _, rfl, ?_⟩
    have A := Blk.pushM hh [.int .u8 b] 5 (lo := 1) (hi := 2) (by simp)
    have W := Ext.push hh (.cells ([.int .u8 b] : List Value).toArray 5 (1, 2)) (Nat.le_refl _)
    have dl := D5.P.lt
    have nl := D5.N.lt
    have sl := D5.S.lt
    have rl := S5.lt
    generalize hh.push (.cells ([.int .u8 b] : List Value).toArray 5 (1, 2)) = h7 at *
    have D7 := D5.ext W
    have P7 : PairAt h7 pr d 0 256 := Blk.ext P5 W P5.lt
    have S7 : StAt h7 sr d pr true 1 done (posL ls done) := Blk.ext S5 W S5.lt
    have X7 := X5.trans (W.mono X5.size)
    have pb := posL_bd done A5.sh
    have jp : jprtD (([b] : List Int).length : Int) = 1 := by show jprtD 1 = 1; decide
    refine Append_ok (bs := [b]) D7 S7 (by omega) (by omega) (by omega) (fun h' F' => (A.old (F'.block _ A.lt (by omega) (by omega) (by omega) (by omega))).slc (o := 0) (n := 1) rfl) rfl (Nat.le_refl _) (by simp) (by rw [jp]; omega) fun c' h8 Y' r' e8 c8 D8 F8 S8 _ => ?_
    rw [jp, show (1 : Int).toNat = 1 from rfl] at e8
    obtain ⟨q1, q2, q3, q4, q5⟩ := wrD_free (g := recS 1 done [b]) (N := 1) (p := posL ls done) (fun n => recS_le _ _ _ _) A5.dead fu A5.safe (by omega) (by omega)
    rw [← e8] at q1 q2 q3 q4 q5
    dsimp only at q1 q2 q3 q4 q5
    subst q1
    have S8' := S8 rfl
    rw [jp] at S8'
    have step := A5.step (by omega) (by rw [eb]; intro x hx; rw [List.mem_singleton] at hx; omega) (by rw [eb]; simp) q4 q2 (by rw [eb, jp]; exact q5)
    have ep : posL ls (done + 1) = posL ls done + 1 := by rw [posL, eb, jp]
    refine F Y' c' h8 step q3 D8 (P7.jf D7 S7 F8) ?_ (X7.trans (F8.ext D7 sb X7.size)) c8
    rw [ep]
    exact S8'
  have A0 : AS Y 1 [[97], [98]] 0 Y := AS.zero w.safe w.dead
  refine app [[97], [98]] 0 Y c1 h9 97 _ rfl (by omega) rfl (by omega) A0 w.fuse D9 P9 S9' X09 fun G1 c2 h14 A1 f1 D14 P14 S14 X14 c2l => ?_
  refine app [[97], [98]] 1 G1 c2 h14 98 _ rfl (by omega) rfl (by omega) A1 f1 D14 P14 S14 X14 fun G2 c3 h19 A2 f2 D19 P19 S19 X19 c3l => ?_
  refine DBoot_ok (fs := []) D19 ⟨fun _ => rfl, fun a ha => by cases ha⟩ rfl (fun h' _ => ⟨fun _ => rfl, fun a ha => by cases ha⟩) (by omega) fun h21 D21 F21 => ?_
  have X21 := X19.trans (F21.ext D19 X19.size)
  refine JOpen_ok fun pr2 sr2 h23 P23 S23 X23 _ _ => ?_
  have X023 := X21.trans (X23.mono X21.size)
  have D23 := D21.ext X23
  have gG := A2.good w.good
  have gZ : GoodX (bootD G2 []) := good_boot A2.safe gG
  have tt : t = 0 ∨ t = 1 := by rw [et]; split <;> omega
  have old : ∀ a, 512 ≤ a → (readD Y a).2 = 0 → (rh Y a).f_epoch < 1 := fun a ha er => by
    have ec := rd_cong (w.hi a ha)
    rw [ec] at er
    have := rd_range er
    have e2 : (rh Y a).f_epoch = (rh J0 a).f_epoch := by unfold rh; rw [ec]
    rw [e2, rhJ0 (by omega)]; omega
  obtain ⟨⟨m, m1, m2, m3, St⟩, _⟩ := keeps_fin (Z := bootD G2 []) A2 (by simp) (by simp) (by omega) old fun a => .inl (boot_nil A2.safe [] a)
  have em : m = 2 := by simp at m3; omega
  subst em
  obtain ⟨b1, b2, b3⟩ := bp_loc (Z := bootD G2 []) (X := Y) (fun p p0 p1 => rd_cong ((boot_nil A2.safe [] p).trans (A2.low p p1))) w.bp
  obtain ⟨b4, b5⟩ := b2 (by omega)
  have en : numW (bootD G2 []) 0 256 t = 1 := by rw [b5, w.num, grJ0]; rfl
  refine Recover_ok (slot := t) (l := [[97], [98]]) D23 P23 S23 (r.ext X023 r0) gZ b1 (fun _ => by rw [en]; exact St) (by simp) (fun q => by omega) fun _ img s3 h25 ys Si li K X25 => ?_
  rw [b4, w.out] at Si li
  have X025 := X023.trans (X25.mono X023.size)
  have S25 : StAt h25 sr2 d pr2 false 0 0 0 := Blk.ext S23 X25 S23.lt
  rw [if_pos (by simp)]
  refine ⟨[105], li.symm, Si, ?_⟩
  have l3 : s3.len = 2 := by have := K.r.len; rw [this, List.length_map, K.n]; rfl
  have hn := K.n
  obtain ⟨y0, y1, ey⟩ : ∃ y0 y1, ys = [y0, y1] := by
    match ys, hn with
    | [a, b], _ => exact ⟨a, b, rfl⟩
  subst ey
  obtain ⟨q1, q2, _⟩ := K.row 0 y0 [97] rfl rfl
  obtain ⟨q3, q4, _⟩ := K.row 1 y1 [98] rfl rfl
  obtain ⟨a0, ha0, hc0⟩ := K.r.at (j := 0) (by omega)
  obtain ⟨a1, ha1, hc1⟩ := K.r.at (j := 1) (by omega)
  unfold law11_awake_g1
  rw [show bsOf [105] = (⟨#[105]⟩ : ByteArray) from by decide, if_pos (by rw [l3]; simp)]
  refine ⟨a0, ha0, by decide, by rw [l3]; decide, y0, hc0, [97], q2.symm, q1, ?_⟩
  unfold law11_awake_g2
  rw [show bsOf [97] = (⟨#[97]⟩ : ByteArray) from by decide, if_pos (by simp)]
  refine ⟨a1, ha1, by decide, by rw [l3]; decide, y1, hc1, [98], q4.symm, q3, ?_⟩
  unfold law11_awake_g3
  rw [show bsOf [98] = (⟨#[98]⟩ : ByteArray) from by decide, if_pos (by simp)]
  refine AppendStale_ok S25 ?_
  unfold law11_awake_g4
  exact H h25 X025
end Go.Q.Yf
/- Journal: a turn of JournalKeeps, plainly. -/
namespace Go.Q.Yf
def bn (X : DK) (s : Int) : Int := if s < 0 then 0 else numW X 0 256 s
/-- what holds of the disk between two turns -/
structure KX (X : DK) (i : Int) (slot : Int) (had : List Int) : Prop where
  g : GoodX X
  sf : X.safe = []
  dd : X.dead = false
  gr : grD X 0 512 ≤ i
  b : BP X 0 256 slot
  sl : slot = -1 ∨ slot = 0 ∨ slot = 1
  ep : ∀ a, 512 ≤ a → a < 1024 → (readD X a).2 = 0 → (rh X a).f_epoch ≤ bn X slot
  out : 0 ≤ slot → outW X (0 + slot * 256) = had
/-- what is there behind a turn -/
structure FinX (Z : DK) (i : Int) (bs had : List Int) (ls : List (List Int)) (f : Int) (done : Nat) (slot s : Int) : Prop where
  g : GoodX Z
  sf : Z.safe = []
  fu : Z.fuse = 0
  dd : Z.dead = false
  gr : grD Z 0 512 ≤ i + 1
  b : BP Z 0 256 s
  sl : s = -1 ∨ s = 0 ∨ s = 1
  ep : ∀ a, 512 ≤ a → a < 1024 → (readD Z a).2 = 0 → (rh Z a).f_epoch ≤ bn Z s
  res : (0 ≤ s ∧ outW Z (0 + s * 256) = bs ∧ ∃ m : Nat, done ≤ m ∧ m ≤ done + 1 ∧ m ≤ ls.length ∧ Stands Z (numW Z 0 256 s) 0 512 (ls.take m)) ∨ (f ≠ 0 ∧ s = slot ∧ (0 ≤ s → outW Z (0 + s * 256) = had))
theorem sl_of {X : DK} {s : Int} (b : BP X 0 256 s) : s = -1 ∨ s = 0 ∨ s = 1 := by
  rcases b with ⟨e, _⟩ | ⟨e, _⟩ | ⟨e, _⟩
  · exact .inl e
  · exact .inr (.inl e)
  · exact .inr (.inr e)
/-- a saving was cut -/
theorem fin_cut {X Y : DK} {i slot t : Int} {had bs : List Int} {ls : List (List Int)} {f : Int} {fs : List Int} {m N : Nat} (K : KX X i slot had) (i1 : i < 100) (bl : bs.length ≤ 20000) (hB : isB bs) (ht : t = if slot = 0 then 1 else 0) (hf : f ≠ 0)
    (hN : N = (prtD bs.length).toNat) (hm : m ≤ N) (L : LU X Y (0 + t * 256) (headD (grD X 0 512) bs) bs m) : ∃ s, FinX (bootD Y fs) i bs had ls f 0 slot s := by
  have p1 := prt_pos bs.length
  have p6 : prtD bs.length ≤ 256 := by unfold prtD; split <;> omega
  have gn := gr_nn K.g 0 512
  have tt : t = 0 ∨ t = 1 := by rw [ht]; split <;> omega
  have tv := boot_tri L fs
  obtain ⟨gr, egr⟩ : ∃ gr, gr = grD X 0 512 := ⟨_, rfl⟩
  rw [← egr] at tv gn L
  have grl := K.gr
  have ns : ∀ j : Nat, j < m → newS (headD gr bs) bs j = laySec (headD gr bs) bs j := fun j hj => by
    unfold newS
    rw [if_pos (by show (j : Int) < prtD bs.length; omega)]
  have tri : ∀ a, readD (bootD Y fs) a = readD X a ∨ ∃ j : Nat, j < m ∧ a = 0 + t * 256 + j ∧ (readD (bootD Y fs) a = (padB (laySec (headD gr bs) bs j), 0) ∨ readD (bootD Y fs) a = ([], 9)) := fun a => by
    rcases tv a with h | ⟨j, h1, h2, h | h⟩
    · exact .inl (rd_cong h)
    · exact .inr ⟨j, h1, h2, .inl (by rw [rd_new (by omega) h, ns j h1])⟩
    · exact .inr ⟨j, h1, h2, .inr (rd_torn (by omega) h)⟩
  have gZ : GoodX (bootD Y fs) := good_of rfl fun a => by
    rcases tv a with h | ⟨j, _, _, h | h⟩
    · rw [h]; exact K.g.1 a
    · rw [h]; exact newV_B hB
    · rw [h]; exact zero_B
  obtain ⟨st1, st2, st3, st4⟩ := slot_tri (Z := bootD Y fs) K.g bl egr (by omega) K.b ht (fun u hu ne j hj => by
      rcases tri (0 + u * 256 + j) with h | ⟨j', h1, h2, _⟩
      · exact h
      · omega) fun j hj => by
      rcases tri (0 + t * 256 + j) with h | ⟨j', h1, h2, h⟩
      · exact .inl h
      · have e : j' = j := by omega
        rw [e] at h
        exact .inr ⟨by omega, h⟩
  obtain ⟨s, bz, ss⟩ := bp_ex (bootD Y fs) 0 256
  have hi : ∀ a, 512 ≤ a → a < 1024 → readD (bootD Y fs) a = readD X a := fun a a0 a1 => by
    rcases tri a with h | ⟨j, h1, h2, _⟩
    · exact h
    · omega
  have bnX : bn X slot ≤ gr := by
    unfold bn
    split
    · omega
    · exact st4 (by omega)
  have recZ : ∀ a, 512 ≤ a → a < 1024 → (readD (bootD Y fs) a).2 = 0 → (rh (bootD Y fs) a).f_epoch ≤ bn X slot := fun a a0 a1 er => by
    have h := hi a a0 a1
    have e2 : (rh (bootD Y fs) a).f_epoch = (rh X a).f_epoch := by unfold rh; rw [h]
    rw [e2]
    exact K.ep a a0 a1 (by rw [← h]; exact er)
  refine ⟨s, gZ, rfl, rfl, rfl, by omega, bz, ss, fun a a0 a1 er => ?_, ?_⟩
  · have := recZ a a0 a1 er
    rcases st2 s bz with ⟨q1, q2, q3⟩ | ⟨q1, q2⟩
    · unfold bn
      rw [if_neg (by omega), q3]; omega
    · unfold bn at this ⊢
      rw [q1] at q2 ⊢
      by_cases q : slot < 0
      · rw [if_pos q] at this ⊢; exact this
      · rw [if_neg q] at this ⊢; rw [(q2 (by omega)).2]; exact this
  · rcases st2 s bz with ⟨q1, q2, q3⟩ | ⟨q1, q2⟩
    · refine .inl ⟨by omega, q2, 0, Nat.le_refl _, by omega, Nat.zero_le _, ?_⟩
      rw [List.take_zero, q3]
      refine .nil fun w => ?_
      have er := w.1.1
      have eh := w.1.2
      rw [show (512 : Int) + ((0 : Nat) : Int) = 512 from by omega] at er eh
      have := recZ 512 (by omega) (by omega) er
      have e2 : (rh (bootD Y fs) 512).f_epoch = gr + 1 := by unfold rh; rw [eh]; rfl
      omega
    · refine .inr ⟨hf, q1, fun s0 => ?_⟩
      rw [(q2 s0).1, q1]
      exact K.out (by omega)
/-- a saving was done -/
structure SavedX (X Y : DK) (i : Int) (t : Int) (bs : List Int) : Prop where
  g : GoodX Y
  sf : Y.safe = []
  dd : Y.dead = false
  gr : grD Y 0 512 ≤ i + 1
  b : BP Y 0 256 t
  tt : t = 0 ∨ t = 1
  out : outW Y (0 + t * 256) = bs
  e0 : 1 ≤ numW Y 0 256 t ∧ numW Y 0 256 t ≤ i + 1
  old : ∀ a, 512 ≤ a → (readD Y a).2 = 0 → (rh Y a).f_epoch < numW Y 0 256 t
theorem saved_ok {X Y : DK} {i slot t : Int} {had bs : List Int} {N : Nat} (K : KX X i slot had) (i1 : i < 100) (bl : bs.length ≤ 20000) (hB : isB bs) (ht : t = if slot = 0 then 1 else 0)
    (hN : N = (prtD bs.length).toNat) (L : LU X Y (0 + t * 256) (headD (grD X 0 512) bs) bs N) (sf : Y.safe = []) (dd : Y.dead = false) : SavedX X Y i t bs ∧ numW Y 0 256 t = grD X 0 512 + 1 := by
  have p1 := prt_pos bs.length
  have p6 : prtD bs.length ≤ 256 := by unfold prtD; split <;> omega
  have gn := gr_nn K.g 0 512
  have tt : t = 0 ∨ t = 1 := by rw [ht]; split <;> omega
  obtain ⟨gr, egr⟩ : ∃ gr, gr = grD X 0 512 := ⟨_, rfl⟩
  rw [← egr] at gn L
  have grl := K.gr
  have ns : ∀ j : Nat, j < N → newS (headD gr bs) bs j = laySec (headD gr bs) bs j := fun j hj => by
    unfold newS
    rw [if_pos (by show (j : Int) < prtD bs.length; omega)]
  have tri : ∀ a, readD Y a = readD X a ∨ ∃ j : Nat, j < N ∧ a = 0 + t * 256 + j ∧ readD Y a = (padB (laySec (headD gr bs) bs j), 0) := fun a => by
    rcases L.now a with h | ⟨j, h1, h2⟩
    · exact .inl (rd_cong h)
    · exact .inr ⟨j, h1, h2, by rw [h2, rd_new (by omega) (L.all j h1), ns j h1]⟩
  have gY : GoodX Y := good_of sf fun a => by
    rcases L.now a with h | ⟨j, h1, h2⟩
    · rw [h]; exact K.g.1 a
    · rw [h2, L.all j h1]; exact newV_B hB
  obtain ⟨st1, st2, st3, st4⟩ := slot_tri (Z := Y) K.g bl egr (by omega) K.b ht (fun u hu ne j hj => by
      rcases tri (0 + u * 256 + j) with h | ⟨j', h1, h2, _⟩
      · exact h
      · omega) fun j hj => by
      rcases tri (0 + t * 256 + j) with h | ⟨j', h1, h2, h⟩
      · exact .inl h
      · have e : j' = j := by omega
        rw [e] at h
        exact .inr ⟨by omega, .inl h⟩
  obtain ⟨s1, s2, s3⟩ := st3 fun j hj => by
    rw [rd_new (by omega) (L.all j (by omega)), ns j (by omega)]
  refine ⟨⟨gY, sf, dd, by omega, s1, tt, s2, by omega, fun a a0 er => ?_⟩, by rw [s3, egr]⟩
  have a1 := rd_range er
  have h : readD Y a = readD X a := by
    rcases tri a with h | ⟨j, h1, h2, _⟩
    · exact h
    · omega
  have e2 : (rh Y a).f_epoch = (rh X a).f_epoch := by unfold rh; rw [h]
  have := K.ep a a0 (by omega) (by rw [← h]; exact er)
  have bnX : bn X slot ≤ gr := by
    unfold bn
    split
    · omega
    · exact st4 (by omega)
  rw [e2, s3]; omega
/-- the end of a turn whose image was saved -/
theorem fin_ok {X Y G F : DK} {i slot t : Int} {had bs : List Int} {ls : List (List Int)} {f : Int} {fs : List Int} {done : Nat} (V : SavedX X Y i t bs) (i1 : i < 100) (A : AS Y (numW Y 0 256 t) ls done G) (dl : done ≤ ls.length) (l5 : ls.length ≤ 5) (hB : ∀ r : Nat, isB (ls.getD r []))
    (hF : F = G ∨ (done < ls.length ∧ (ls.getD done []).length ≤ 300 ∧ ∃ m : Nat, (m : Int) ≤ jprtD (ls.getD done []).length ∧ LG G F (posL ls done) (recS (numW Y 0 256 t) done (ls.getD done [])) m)) : ∃ s, FinX (bootD F fs) i bs had ls f done slot s := by
  have e0 := V.e0
  have pb := posL_bd done A.sh
  have gG := A.good V.g
  have tt := V.tt
  have Zt : ∀ a, vD (bootD F fs) a = vD G a ∨ (done < ls.length ∧ (ls.getD done []).length ≤ 300 ∧ ∃ j : Nat, (j : Int) < jprtD (ls.getD done []).length ∧ a = posL ls done + j ∧ (vD (bootD F fs) a = gV (recS (numW Y 0 256 t) done (ls.getD done [])) j ∨ vD (bootD F fs) a = ⟨[], true⟩)) := fun a => by
    rcases hF with rfl | ⟨q1, q2, m, q3, L⟩
    · exact .inl (boot_nil A.safe fs a)
    · rcases bootG_tri L fs a with h | ⟨j, h1, h2, h3⟩
      · exact .inl h
      · exact .inr ⟨q1, q2, j, by omega, h2, h3⟩
  have gZ : GoodX (bootD F fs) := good_of rfl fun a => by
    rcases Zt a with h | ⟨q1, q2, j, _, _, h | h⟩
    · rw [h]; exact gG.1 a
    · rw [h]; exact gV_B (recS_le _ _ _ _) (recS_B (hB done))
    · rw [h]; exact zero_B
  obtain ⟨⟨m, m1, m2, m3, St⟩, re⟩ := keeps_fin (Z := bootD F fs) A dl l5 (by omega) V.old Zt
  obtain ⟨b1, b2, b3⟩ := bp_loc (Z := bootD F fs) (X := Y) (fun p p0 p1 => rd_cong (by
    rcases Zt p with h | ⟨_, _, j, _, h2, _⟩
    · exact h.trans (A.low p p1)
    · omega)) V.b
  obtain ⟨b4, b5⟩ := b2 (by omega)
  refine ⟨t, gZ, rfl, rfl, rfl, by rw [b3]; exact V.gr, b1, .inr tt, fun a a0 a1 er => ?_, .inl ⟨by omega, by rw [b4]; exact V.out, m, m1, m2, m3, by rw [b5]; exact St⟩⟩
  unfold bn
  rw [if_neg (by omega), b5]
  exact re a a0 a1 er
end Go.Q.Yf
/- Journal: JournalKeeps walked. -/
namespace Go.Q.Yf
/-- what lives through a turn -/
structure LV (hb : Heap) (c : Nat) (h : Heap) (d rn rs pr sr : Nat) (F : DK) (img hd : Slc) (bs had : List Int) : Prop where
  E : Ext hb.size hb h
  D : DAt hb.size c h d rn rs F
  P : PairAt h pr d 0 256
  img : Row hb.size h 5 1 img (b8 bs)
  hd : Row hb.size h 5 1 hd (b8 had)
  sb : hb.size ≤ sr
section
variable {hb h h' : Heap} {c c' d rn rs pr sr : Nat} {F F' : DK} {img hd : Slc} {bs had : List Int}
theorem LV.jf {fresh : Bool} {e n p : Int} (L : LV hb c h d rn rs pr sr F img hd bs had) (S : StAt h sr d pr fresh e n p) (J : JF d rn rs sr h h') (D : DAt hb.size c' h' d rn rs F') : LV hb c' h' d rn rs pr sr F' img hd bs had :=
  ⟨L.E.trans (J.ext L.D L.sb L.E.size), D, L.P.jf L.D S J, Row.jf L.img (by decide) L.D S J, Row.jf L.hd (by decide) L.D S J, L.sb⟩
end
/-- rows of rows of bytes that came in -/
structure Rws3 (h : Heap) (s : Slc) (T : List (List (List Int))) : Prop where
  l : s.len = T.length
  get : ∀ (i : Nat) ls, T[i]? = some ls → ∃ a y zs, s.a = some a ∧ cellH h (a.add (i * 1)) = some (Slc.v y) ∧ y.len ≤ y.cap ∧ Rws h y ls zs
theorem Rws.len {h : Heap} {s : Slc} {ls : List (List Int)} {zs : List Slc} (R : Rws h s ls zs) : s.len = ls.length := R.ly.trans R.lb
theorem rws_B {h : Heap} {s : Slc} {ls : List (List Int)} {zs : List Slc} (R : Rws h s ls zs) (r : Nat) : isB (ls.getD r []) := by
  by_cases q : r < ls.length
  · have e1 : ls[r]? = some ls[r] := List.getElem?_eq_getElem q
    have := R.lb
    have e2 : zs[r]? = some (zs[r]'(by omega)) := List.getElem?_eq_getElem (by omega)
    rw [show ls.getD r [] = ls[r] from by simp [q]]
    exact (R.row r _ _ e2 e1).2.2.2
  · rw [show ls.getD r [] = [] from by simp [q]]
    intro b hb; cases hb
theorem out_leJ {X : DK} (g : GoodX X) (p : Int) : (outW X p).length ≤ 4294967296 := by
  have := (hd_bd g p).2.1
  unfold outW; rw [List.length_take]; omega
/-- what is kept between two turns -/
structure KS (hb : Heap) (d rn rs : Nat) (i : Int) (hd : Slc) (so : Bool) (h : Heap) (X : DK) (c : Nat) (slot : Int) (had : List Int) : Prop where
  E : Ext hb.size hb h
  D : DAt hb.size c h d rn rs X
  cb : (c : Int) ≤ 1000 * i
  fu : X.fuse = 0
  x : KX X i slot had
  so : (slot = -1 ∧ so = false) ∨ (0 ≤ slot ∧ so = true)
  hd : Row hb.size h 5 1 hd (b8 had)
  hl : had = [] ∨ ∃ x y, had = [x, y] ∧ 0 ≤ x ∧ x < i
theorem stands_len {X : DK} {e n p : Int} {l : List (List Int)} (g : GoodX X) (St : Stands X e n p l) : ∀ b ∈ l, b.length ≤ 4294967296 := by
  induction St with
  | nil _ => intro b hb; cases hb
  | @cons n p b l w o _ ih =>
    intro b' hb
    rcases List.mem_cons.1 hb with q | q
    · rw [q, ← o]
      have := rh_bd g p
      unfold outR
      rw [List.length_take]; omega
    · exact ih b' q
theorem j4_ok {hb h : Heap} {c d rn rs pr sr : Nat} {p0 p1 p2 img hd yt : Slc} {F : DK} {i f slot : Int} {so : Bool} {ft had bs : List Int} {ls : List (List Int)} {zs : List Slc} {done : Nat} {k : Bool → Heap → Prop} {nx1 : (Slc × Bool × Int) → Heap → Prop}
    (r : R0 hb) (F2 : SlcAt hb p2 (b8 ft)) (l2 : p2.len = ft.length) (L : LV hb c h d rn rs pr sr F img hd bs had) (cb : (c : Int) ≤ 1000 * (i + 1)) (i0 : 0 ≤ i ∧ i < 6) (R : Rws hb yt ls zs) (yc : yt.len ≤ yt.cap) (l5 : ls.length ≤ 5) (dl : done ≤ ls.length)
    (d1 : f ≠ 0 → F.dead = true) (d2 : f = 0 → done < ls.length → F.dead = true) (hs : (slot = -1 ∧ so = false) ∨ (0 ≤ slot ∧ so = true))
    (nb : had ≠ bs) (hbs : ∃ y, bs = [i, y]) (fin : ∃ s, FinX (bootD F ft) i bs had ls f done slot s) (hl : had = [] ∨ ∃ x y, had = [x, y] ∧ 0 ≤ x ∧ x < i)
    (H : ∀ hd' so' h' X' c' slot' had', KS hb d rn rs (i + 1) hd' so' h' X' c' slot' had' → nx1 (hd', so', i + 1) h') :
    law11_JournalKeeps_j4 p0 p1 p2 (some ⟨d, 0, none⟩) hd so i yt 0 img f (done : Int) k nx1 h := by
  have r0 := r.pos
  have rl := R.len
  have lim : bs.length = 2 := by obtain ⟨y, e⟩ := hbs; rw [e]; rfl
  have lhd : had.length ≤ 2 := by
    rcases hl with e | ⟨x, y, e, _⟩ <;> rw [e] <;> simp
  -- a turn ends
  have g6 : law11_JournalKeeps_g6 p0 p1 p2 (some ⟨d, 0, none⟩) hd so i yt img f (done : Int) false k nx1 h := by
    unfold law11_JournalKeeps_g6
    rw [if_neg (by simp)]
    refine DBoot_ok (fs := ft) L.D (F2.ext L.E) l2 (fun h' F' => F2.ext (L.E.trans (F'.ext L.D L.E.size))) (by omega) fun h1 D1 F1 => ?_
    have E1 := L.E.trans (F1.ext L.D L.E.size)
    -- rows of bytes stay
    have row1 : ∀ {s : Slc} {xs : List Value}, Row hb.size h 5 1 s xs → Row hb.size h1 5 1 s xs := fun {s xs} Rs => by
      have nm : ∀ {r : Nat} {dd : TypeDesc} {l : List (Value × Value)}, MapH dd h r l → s.blk ≠ some r := fun {r dd l} M q => by
        rcases Rs.2.2 with ⟨a, _⟩ | ⟨g, cur, a1, a2, a3, _⟩
        · unfold Slc.blk at q; rw [a] at q; cases q
        · unfold Slc.blk at q
          rw [a1] at q
          have := Option.some.inj q
          dsimp only at this
          subst this
          exact blk_map a3 M rfl
      refine Rs.keep fun g hg => F1.block g (Rs.bd hg).2 (fun q => ?_) (fun q => ?_) (fun q => ?_)
      · subst q; exact Row.unlike Rs L.D.P (by decide) hg
      · subst q; exact nm L.D.N hg
      · subst q; exact nm L.D.S hg
    have img1 := row1 L.img
    have hd1 := row1 L.hd
    refine JOpen_ok fun pr2 sr2 h2 P2 S2 X2 pb sb => ?_
    have E2 := E1.trans (X2.mono E1.size)
    have D2 := D1.ext X2
    have img2 := img1.ext X2 fun g hg => (img1.bd hg).2
    have hd2 := hd1.ext X2 fun g hg => (hd1.bd hg).2
    obtain ⟨s, K⟩ := fin
    have kx : ∀ had', (0 ≤ s → outW (bootD F ft) (0 + s * 256) = had') → KX (bootD F ft) (i + 1) s had' := fun had' o => ⟨K.g, K.sf, K.dd, K.gr, K.b, K.sl, K.ep, o⟩
    have ll : ∀ l : List (List Int), (0 ≤ s → Stands (bootD F ft) (numW (bootD F ft) 0 256 s) 0 512 l) → l.length ≤ 1000 →
        (s = -1 → ∀ h', Ext h2.size h2 h' → (fun (r24 : Slc × Slc × Int) h25 => if (r24.2.2 == 0) then (ref01_Same r24.1 img (fun (r31 : Bool) h32 => law11_JournalKeeps_g7 p0 p1 p2 (some ⟨d, 0, none⟩) hd so i yt img f (done : Int) r24.1 r24.2.1 r24.2.2 r31 k nx1 h32) h25) else (law11_JournalKeeps_g7 p0 p1 p2 (some ⟨d, 0, none⟩) hd so i yt img f (done : Int) r24.1 r24.2.1 r24.2.2 false k nx1 h25)) ((⟨none, 0, 0⟩ : Slc), (⟨none, 0, 0⟩ : Slc), 6) h') →
        (0 ≤ s → ∀ g s' h' ys, SlcAt h' g (b8 (outW (bootD F ft) (0 + s * 256))) → g.len = (outW (bootD F ft) (0 + s * 256)).length → Recs h2.size h' s' l ys → Ext h2.size h2 h' → law11_JournalKeeps_g7 p0 p1 p2 (some ⟨d, 0, none⟩) hd so i yt img f (done : Int) g s' 0 (decide (outW (bootD F ft) (0 + s * 256) = bs)) k nx1 h') →
        journal_Store_Recover (some ⟨sr2, 0, none⟩) (fun (r24 : Slc × Slc × Int) h25 => if (r24.2.2 == 0) then (ref01_Same r24.1 img (fun (r31 : Bool) h32 => law11_JournalKeeps_g7 p0 p1 p2 (some ⟨d, 0, none⟩) hd so i yt img f (done : Int) r24.1 r24.2.1 r24.2.2 r31 k nx1 h32) h25) else (law11_JournalKeeps_g7 p0 p1 p2 (some ⟨d, 0, none⟩) hd so i yt img f (done : Int) r24.1 r24.2.1 r24.2.2 false k nx1 h25)) h2 := fun l Sl ll H0 H1 => by
      refine Recover_ok (slot := s) (l := l) D2 P2 S2 (r.ext E2 r0) K.g K.b Sl ll H0 fun s0 g s' h3 ys Sg lg Kr X3 => ?_
      rw [if_pos (by simp)]
      have img3 := img2.ext X3 fun g hg => (img2.bd hg).2
      have := out_leJ K.g (0 + s * 256)
      exact DSame_ok Sg lg img3.slc (Row.pb img3) (by omega) (H1 s0 g s' h3 ys Sg lg Kr X3)
    rcases K.res with ⟨s0, o, m, m1, m2, m3, St⟩ | ⟨fz, es, o⟩
    · -- the new image
      refine ll (ls.take m) (fun _ => St) (by rw [List.length_take]; omega) (fun q => by omega) fun _ g s' h3 ys Sg lg Kr X3 => ?_
      have E3 := E2.trans (X3.mono E2.size)
      have img3 := img2.ext X3 fun g hg => (img2.bd hg).2
      rw [o, decide_eq_true rfl]
      have ltm : (ls.take m).length = m := by rw [List.length_take]; omega
      have ls' : s'.len = m := by have := Kr.r.len; rw [this, List.length_map, Kr.n, ltm]
      unfold law11_JournalKeeps_g7
      rw [if_pos rfl, wrapI64 (x := (done : Int) + 1) (by omega) (by omega)]
      rw [if_neg (by simp only [Bool.or_eq_true, decide_eq_true_eq, not_or]; omega)]
      refine ⟨_, by omega, by omega, by omega, by omega, rfl, ?_⟩
      refine SameRows_ok (zs := zs) Kr (by show (s'.len : Int).toNat - (0 : Int).toNat = _; rw [ltm]; simp; omega) (by have := R.lb; omega) (stands_len K.g St) (by omega) (fun j z hz => ?_) (fun j z b hz hb' => ?_) ?_
      · obtain ⟨a, ha, hc⟩ := R.at' j z hz
        have hc3 := E3.cellAt hc
        unfold subS
        simp only
        split
        · exact ⟨a, ha, hc3⟩
        · refine ⟨a.add 0, by rw [ha]; simp, ?_⟩
          rw [Addr.add_zero']
          exact hc3
      · have hb2 : ls[j]? = some b := by
          have := (List.getElem?_eq_some_iff.1 hb').1
          rw [List.getElem?_take] at hb'
          split at hb'
          · exact hb'
          · cases hb'
        obtain ⟨q1, q2, _⟩ := R.row j z b hz hb2
        exact ⟨q1.ext E3, q2⟩
      · unfold law11_JournalKeeps_g8
        rw [if_neg (by simp)]
        unfold law11_JournalKeeps_j2
        rw [wrapI64 (by omega) (by omega)]
        refine ⟨_, rfl, H img true h3 _ c s bs ⟨E3, D2.ext X3, cb, K.fu, kx bs (fun _ => o), .inr ⟨s0, rfl⟩, img3, ?_⟩⟩
        obtain ⟨y, e⟩ := hbs
        exact .inr ⟨i, y, e, i0.1, by omega⟩
    · -- the old one
      have hl' : had = [] ∨ ∃ x y, had = [x, y] ∧ 0 ≤ x ∧ x < i + 1 := by
        rcases hl with e | ⟨x, y, e, x0, x1⟩
        · exact .inl e
        · exact .inr ⟨x, y, e, x0, by omega⟩
      obtain ⟨l, St, lle⟩ := stands_ex (e := numW (bootD F ft) 0 256 s) K.g 600 0 512 (by omega) (by omega)
      refine ll l (fun _ => St) (by omega) (fun sm h3 X3 => ?_) fun s0 g s' h3 ys Sg lg Kr X3 => ?_
      · have E3 := E2.trans (X3.mono E2.size)
        have hd3 := hd2.ext X3 fun g hg => (hd2.bd hg).2
        dsimp only
        rw [if_neg (by simp)]
        have sf : so = false := by
          rcases hs with ⟨_, h⟩ | ⟨h, _⟩
          · exact h
          · omega
        subst sf
        unfold law11_JournalKeeps_g7
        rw [if_neg (by simp), if_neg (by simp [fz]), if_neg (by simp)]
        unfold law11_JournalKeeps_g10 law11_JournalKeeps_g9
        rw [if_neg (by simp)]
        unfold law11_JournalKeeps_j2
        rw [wrapI64 (by omega) (by omega)]
        exact ⟨_, rfl, H hd false h3 _ c s had ⟨E3, D2.ext X3, cb, K.fu, kx had o, .inl ⟨sm, rfl⟩, hd3, hl'⟩⟩
      · have E3 := E2.trans (X3.mono E2.size)
        have hd3 := hd2.ext X3 fun g hg => (hd2.bd hg).2
        have oh := o s0
        rw [oh] at Sg lg ⊢
        rw [decide_eq_false nb]
        have st : so = true := by
          rcases hs with ⟨h, _⟩ | ⟨_, h⟩
          · omega
          · exact h
        subst st
        unfold law11_JournalKeeps_g7
        rw [if_neg (by simp), if_neg (by simp [fz]), if_pos rfl, if_neg (by simp)]
        refine DSame_ok Sg lg hd3.slc (Row.pb hd3) (by omega) ?_
        rw [decide_eq_true rfl]
        unfold law11_JournalKeeps_g11 law11_JournalKeeps_g10 law11_JournalKeeps_g9
        rw [if_neg (by simp)]
        unfold law11_JournalKeeps_j2
        rw [wrapI64 (by omega) (by omega)]
        exact ⟨_, rfl, H hd true h3 _ c s had ⟨E3, D2.ext X3, cb, K.fu, kx had o, .inr ⟨s0, rfl⟩, hd3, hl'⟩⟩
  have g5 : law11_JournalKeeps_g5 p0 p1 p2 (some ⟨d, 0, none⟩) hd so i yt img f (done : Int) false k nx1 h := by
    unfold law11_JournalKeeps_g5
    rw [if_neg (by simp)]
    by_cases q : f = 0 ∧ done < ls.length
    · rw [if_pos (by simp only [Bool.and_eq_true, beq_iff_eq, decide_eq_true_eq]; omega)]
      refine DDead_ok L.D ?_
      unfold law11_JournalKeeps_g12
      rw [d2 q.1 q.2]
      exact g6
    · rw [if_neg (by simp only [Bool.and_eq_true, beq_iff_eq, decide_eq_true_eq]; omega)]
      unfold law11_JournalKeeps_g12
      exact g6
  unfold law11_JournalKeeps_j4
  rw [if_neg (by simp)]
  by_cases q : f = 0
  · rw [if_neg (by simpa using q)]
    unfold law11_JournalKeeps_g13
    exact g5
  · rw [if_pos (by simpa using q)]
    refine DDead_ok L.D ?_
    unfold law11_JournalKeeps_g13
    rw [d1 q]
    exact g5
end Go.Q.Yf
/- Journal: JournalKeeps walked, whole. -/
namespace Go.Q.Yf
theorem KX.fuse {X X' : DK} {i slot : Int} {had : List Int} (K : KX X i slot had) (hn : X'.now = X.now) (hs : X'.safe = X.safe) (hd : X'.dead = X.dead) : KX X' i slot had := by
  have rd : ∀ p, readD X' p = readD X p := fun p => by unfold readD; rw [hn]
  obtain ⟨b1, b2, b3⟩ := bp_loc (Z := X') (X := X) (fun p _ _ => rd p) K.b
  refine ⟨by have := K.g; unfold GoodX at *; rw [hn, hs]; exact this, by rw [hs]; exact K.sf, by rw [hd]; exact K.dd, by rw [b3]; exact K.gr, b1, K.sl, fun a a0 a1 er => ?_, fun s0 => by rw [(b2 s0).1]; exact K.out s0⟩
  rw [rd] at er
  have := K.ep a a0 a1 er
  have e2 : (rh X' a).f_epoch = (rh X a).f_epoch := by unfold rh; rw [rd]
  rw [e2]
  unfold bn at this ⊢
  by_cases q : slot < 0
  · rw [if_pos q] at this ⊢; exact this
  · rw [if_neg q] at this ⊢; rw [(b2 (by omega)).2]; exact this
theorem j3_ok {hb h : Heap} {c d rn rs pr sr : Nat} {p0 p1 p2 img hd yt : Slc} {X : DK} {i slot : Int} {so : Bool} {ft had bs : List Int} {ls : List (List Int)} {zs : List Slc} {k : Bool → Heap → Prop} {nx1 : (Slc × Bool × Int) → Heap → Prop}
    (r : R0 hb) (F2 : SlcAt hb p2 (b8 ft)) (l2 : p2.len = ft.length) (L : LV hb c h d rn rs pr sr X img hd bs had) (S : StAt h sr d pr false 0 0 0) (cb : (c : Int) ≤ 1000 * i) (i0 : 0 ≤ i ∧ i < 6) (R : Rws hb yt ls zs) (yc : yt.len ≤ yt.cap) (l5 : ls.length ≤ 5)
    (K : KX X i slot had) (hs : (slot = -1 ∧ so = false) ∨ (0 ≤ slot ∧ so = true)) (hbs : ∃ y, bs = [i, y]) (bB : isB bs) (hl : had = [] ∨ ∃ x y, had = [x, y] ∧ 0 ≤ x ∧ x < i)
    (aw : ∀ h', Ext hb.size hb h' → k true h')
    (H : ∀ hd' so' h' X' c' slot' had', KS hb d rn rs (i + 1) hd' so' h' X' c' slot' had' → nx1 (hd', so', i + 1) h') :
    law11_JournalKeeps_j3 p0 p1 p2 (some ⟨d, 0, none⟩) hd so i yt (some ⟨sr, 0, none⟩) 0 img k nx1 h := by
  have r0 := r.pos
  have rl := R.len
  have bl : bs.length = 2 := by obtain ⟨y, e⟩ := hbs; rw [e]; rfl
  have nb : had ≠ bs := fun e => by
    obtain ⟨y, eb⟩ := hbs
    rcases hl with q | ⟨x, y', q, x0, x1⟩
    · rw [q, eb] at e; cases e
    · rw [q, eb] at e
      have := (List.cons.inj e).1
      omega
  have pp : prtD (bs.length : Int) = 1 := by rw [bl]; decide
  have gn := gr_nn K.g 0 512
  have grl := K.gr
  unfold law11_JournalKeeps_j3
  refine JSave_ok (bs := bs) L.D L.P S (r.ext L.E r0) K.g (fun h' J => (Row.jf L.img (by decide) L.D S J).slc) (Row.pb L.img) L.img.cap (by omega) fun rr Y c1 h1 LR c1l D1 P1 J1 S1 S1' => ?_
  have L1 := L.jf S J1 D1
  rcases LR with ⟨q, _⟩ | ⟨_, q, _⟩ | ⟨_, _, s', t, bp, et, el⟩
  · exfalso; omega
  · exfalso; rw [show ((2 : Int) * 256).toNat = 512 from rfl] at q; omega
  rw [show ((2 : Int) * 256).toNat = 512 from rfl, show toN 256 bs false = (prtD bs.length).toNat from by unfold toN; rw [if_neg (by simp)]] at el
  rw [bp_uniq bp K.b] at et
  have tt : t = 0 ∨ t = 1 := by rw [et]; split <;> omega
  have er : rr = (layD (0 + t * 256) (headD (grD X 0 512) bs) bs X (prtD bs.length).toNat).1 := congrArg (·.1) el
  have eY : Y = (layD (0 + t * 256) (headD (grD X 0 512) bs) bs X (prtD bs.length).toNat).2 := congrArg (·.2) el
  unfold law11_JournalKeeps_l14
  rcases layD_end (f := headD (grD X 0 512) bs) (bs := bs) (N := (prtD bs.length).toNat) (p := 0 + t * 256) K.dd K.sf (by omega) (by omega) with ⟨q1, q2, q3, q4, LL⟩ | ⟨q1, q2, m, hm, LL⟩
  · -- the image is saved
    rw [← er] at q1 q2
    rw [← eY] at q3 q4 LL
    obtain ⟨V, en⟩ := saved_ok K (by omega) (by omega) bB et rfl LL q4 q3
    have e0 := V.e0
    have S2 := S1 q1
    have e1 : rr.1 = numW Y 0 256 t := by rw [en, q2]; rfl
    rw [e1] at S2
    rw [q1]
    refine ⟨fun q h' => q.1 = q.2 ∧ ∃ (n : Nat) (G : DK) (c2 : Nat), q.2 = (n : Int) ∧ n ≤ ls.length ∧ AS Y (numW Y 0 256 t) ls n G ∧ LV hb c2 h' d rn rs pr sr G img hd bs had ∧ StAt h' sr d pr true (numW Y 0 256 t) n (posL ls n) ∧ (c2 : Int) ≤ 1000 * i + 600 + 50 * n, fun q _ => (yt.len - q.2).toNat, ⟨rfl, 0, Y, c1, rfl, Nat.zero_le _, AS.zero q4 q3, L1, S2, by omega⟩, ?_⟩
    rintro n' n'' h2 ⟨en', n, G, c2, en2, nl, A, L2, S3, cb2⟩
    dsimp only at en' en2
    subst en' en2
    have pb := posL_bd n A.sh
    unfold law11_JournalKeeps_l14b
    by_cases cn : n < ls.length
    · rw [if_pos (by simp; omega)]
      obtain ⟨y, b, a, ey, eb, ha, hc, Sy, yl, yc', bB'⟩ := R.get (i := (n : Int)) (by omega) (by omega)
      rw [Int.toNat_natCast] at ey eb
      have eg : ls.getD n [] = b := by rw [List.getD_eq_getElem?_getD, eb]; rfl
      refine ⟨a, ha, by omega, by omega, y, L2.E.cellAt hc, ?_⟩
      by_cases q : (y.len : Int) > 300
      · rw [if_pos (by rw [decide_eq_true_eq]; exact q)]
        exact awake11_ok (r.ext L2.E r0) fun h3 X3 => aw h3 (L2.E.trans (X3.mono L2.E.size))
      rw [if_neg (by rw [decide_eq_true_eq]; exact q)]
      refine ⟨a, ha, by omega, by omega, y, L2.E.cellAt hc, ?_⟩
      have j3 := jp3 (n := b.length) (by omega)
      refine Append_ok (bs := b) L2.D S3 (by omega) (by omega) (by omega) (fun h' J => Sy.ext (L2.E.trans (J.ext L2.D L2.sb L2.E.size))) yl yc' (by omega) (by omega) fun c3 h3 G' r' e3 c3l D3 J3 S4 S4' => ?_
      have L3 := L2.jf S3 J3 D3
      rcases wrD_end (g := recS (numW Y 0 256 t) n b) (N := (jprtD b.length).toNat) (p := posL ls n) (X := G) (fun _ => recS_le _ _ _ _) A.dead A.safe (by omega) (by omega) with ⟨w1, w2, w3, w4⟩ | ⟨w1, w2, m, hm, w4⟩
      · rw [← e3] at w1 w2 w3 w4
        dsimp only at w1 w2 w3 w4
        rw [if_neg (by simp [w1]), wrapI64 (x := (n : Int) + 1) (by omega) (by omega)]
        have step := A.step (by omega) (by rw [eg]; exact bB') (by rw [eg]; omega) w3 w2 (by rw [eg]; exact w4)
        refine ⟨_, rfl, _, rfl, ⟨rfl, n + 1, G', c3, by omega, by omega, step, L3, ?_, by omega⟩, by dsimp only; omega⟩
        have := S4 w1
        rw [show posL ls (n + 1) = posL ls n + jprtD b.length from by rw [posL, eg], show ((n + 1 : Nat) : Int) = (n : Int) + 1 from by omega]
        exact this
      · rw [← e3] at w1 w2 w4
        dsimp only at w1 w2 w4
        rw [if_pos (by simp [w1])]
        exact j4_ok (slot := slot) r F2 l2 L3 (by omega) i0 R yc l5 nl (fun _ => w2) (fun _ _ => w2) hs nb hbs (fin_ok V (by omega) A nl l5 (rws_B R) (.inr ⟨cn, by rw [eg]; omega, m, by rw [eg]; omega, by rw [eg]; exact w4⟩)) hl H
    · rw [if_neg (by simp; omega)]
      exact j4_ok (slot := slot) r F2 l2 L2 (by omega) i0 R yc l5 nl (fun q => absurd rfl q) (fun _ q => absurd q cn) hs nb hbs (fin_ok V (by omega) A nl l5 (rws_B R) (.inl rfl)) hl H
  · -- it was cut
    rw [← er] at q1
    rw [← eY] at q2 LL
    refine ⟨fun q h' => q = (0, 0) ∧ h' = h1, fun q _ => 0, ⟨rfl, rfl⟩, ?_⟩
    rintro n' n'' h2 ⟨e, rfl⟩
    obtain ⟨rfl, rfl⟩ := Prod.mk.injEq _ _ _ _ ▸ e
    unfold law11_JournalKeeps_l14b
    rw [if_neg (by simp [q1])]
    exact j4_ok (done := 0) (slot := slot) r F2 l2 L1 (by omega) i0 R yc l5 (Nat.zero_le _) (fun _ => q2) (fun q => by omega) hs nb hbs (fin_cut K (by omega) (by omega) bB et (by omega) rfl hm LL) hl H
theorem KeepsL_ok {hb : Heap} {p0 p1 p2 : Slc} {T : List (List (List Int))} {fl ft : List Int} {k : Bool → Heap → Prop} (r : R0 hb) (R : Rws3 hb p0 T) (F1 : SlcAt hb p1 (b8 fl)) (l1 : p1.len = fl.length) (b1 : isB fl) (F2 : SlcAt hb p2 (b8 ft)) (l2 : p2.len = ft.length)
    (H : ∀ h', Ext hb.size hb h' → k true h') : law11_JournalKeeps p0 p1 p2 k hb := by
  have r0 := r.pos
  have aw : ∀ h', Ext hb.size hb h' → law11_awake (fun r5 h6 => k r5 h6) h' := fun h' X => awake11_ok (r.ext X r0) fun h2 X2 => H h2 (X.trans (X2.mono X.size))
  unfold law11_JournalKeeps
  by_cases sz : p0.len ≤ 6 ∧ p1.len ≤ 8 ∧ p2.len ≤ 20
  rotate_left
  · rw [if_pos (by simp only [Bool.or_eq_true, decide_eq_true_eq]; omega)]
    exact aw hb (Ext.refl _ _)
  rw [if_neg (by simp only [Bool.or_eq_true, decide_eq_true_eq]; omega)]
  refine DNew_ok (B := hb.size) (Nat.le_refl _) fun d rn rs h2 D2 X2 => ?_
  unfold law11_JournalKeeps_l1
  have kx0 : KX J0 0 (-1) [] := ⟨gJ0, rfl, rfl, by rw [grJ0]; omega, bpJ0, .inl rfl, fun a a0 a1 er => by rw [rhJ0 (by omega)]; unfold bn; rw [if_pos (by omega)]; omega, fun q => by omega⟩
  refine ⟨fun q h' => 0 ≤ q.2.2 ∧ q.2.2 ≤ p0.len ∧ ∃ X c slot had, KS hb d rn rs q.2.2 q.1 q.2.1 h' X c slot had, fun q _ => ((p0.len : Int) - q.2.2).toNat, ⟨by dsimp only; omega, by dsimp only; omega, J0, 0, -1, [], X2, D2, by dsimp only; omega, rfl, kx0, .inl ⟨rfl, rfl⟩, Row.nil _ _ _ _, .inl rfl⟩, ?_⟩
  rintro hd so i h ⟨i0, i1, X, c, slot, had, K⟩
  dsimp only at i0 i1 K
  unfold law11_JournalKeeps_l1b
  by_cases ci : i < p0.len
  rotate_left
  · rw [if_neg (by rw [decide_eq_true_eq]; exact ci)]
    exact aw h K.E
  rw [if_pos (by rw [decide_eq_true_eq]; exact ci)]
  have hT := R.l
  have eT : T[i.toNat]? = some (T[i.toNat]'(by omega)) := List.getElem?_eq_getElem (by omega)
  obtain ⟨a, y, zs, ha, hc, yc, Ry⟩ := R.get _ _ eT
  generalize T[i.toNat]'(by omega) = ls at *
  refine ⟨a, ha, i0, ci, y, K.E.cellAt hc, ?_⟩
  have yl := Ry.len
  by_cases q : (y.len : Int) > 5
  · rw [if_pos (by rw [decide_eq_true_eq]; exact q)]
    exact aw h K.E
  rw [if_neg (by rw [decide_eq_true_eq]; exact q)]
  refine JOpen_ok fun pr sr h3 P3 S3 X3 pb sb => ?_
  have z := K.E.size
  have z3 := X3.size
  refine ⟨_, _, rfl, rfl, _, _, rfl, rfl, ?_⟩
  have lhd : hd.len = had.length := Row.pb K.hd
  have lh2 : had.length ≤ 2 := by
    rcases K.hl with e | ⟨x, y, e, _⟩ <;> rw [e] <;> simp
  have ei : IntKind.u8.wrap i = i := by rw [wU8]; omega
  have eh : IntKind.u8.wrap (hd.len : Int) = (had.length : Int) := by rw [wU8]; omega
  rw [ei, eh]
  have B4 := Blk.push h3 (b8 [i]) 5
  have W4 := Ext.push h3 (.cells (b8 [i]).toArray 5) (Nat.le_refl _)
  change App 5 1 1 [.int .u8 0] ((h3.push (.cells (b8 [i]).toArray 5)).push (.cells (b8 [(had.length : Int)]).toArray 5)) ⟨some ⟨h3.size, 0, none⟩, 1, 1⟩ 1 (b8 [(had.length : Int)]) _
  generalize h3.push (.cells (b8 [i]).toArray 5) = h4 at *
  have W5 := Ext.push h4 (.cells (b8 [(had.length : Int)]).toArray 5) (Nat.le_refl _)
  generalize h4.push (.cells (b8 [(had.length : Int)]).toArray 5) = h5 at *
  have z4 := W4.size
  have z5 := W5.size
  have R5 : Row h3.size h5 5 1 ⟨some ⟨h3.size, 0, none⟩, 1, 1⟩ (b8 [i]) := Row.of_blk (xs := b8 [i]) (zs := []) (by simpa using B4.ext W5 B4.lt) (Nat.le_refl _) rfl rfl (by simp [maxLen])
  refine AppB (m := [(had.length : Int)]) R5 (by omega) rfl (by simp) fun img h6 R6 X6 => ?_
  have z6 := X6.size
  have X36 : Ext h3.size h3 h6 := W4.trans ((W5.mono z4).trans X6)
  have X06 : Ext h.size h h6 := X3.trans (X36.mono z3)
  have L6 : LV hb c h6 d rn rs pr sr X img hd [i, (had.length : Int)] had :=
    ⟨K.E.trans (X06.mono z), K.D.ext X06, Blk.ext P3 X36 P3.lt, R6.mono (by omega), K.hd.ext X06 fun g hg => (K.hd.bd hg).2, by omega⟩
  have S6 : StAt h6 sr d pr false 0 0 0 := Blk.ext S3 X36 S3.lt
  have bB : isB [i, (had.length : Int)] := fun b hb => by
    simp only [List.mem_cons, List.not_mem_nil, or_false] at hb
    rcases hb with rfl | rfl <;> omega
  have Hn : ∀ hd' so' h' X' c' slot' had', KS hb d rn rs (i + 1) hd' so' h' X' c' slot' had' → (0 ≤ i + 1 ∧ i + 1 ≤ (p0.len : Int) ∧ ∃ X c slot had, KS hb d rn rs (i + 1) hd' so' h' X c slot had) ∧ ((p0.len : Int) - (i + 1)).toNat < ((p0.len : Int) - i).toNat := fun hd' so' h' X' c' slot' had' K' =>
    ⟨⟨by omega, by omega, X', c', slot', had', K'⟩, by omega⟩
  by_cases cf : i < p1.len
  · rw [if_pos (by rw [decide_eq_true_eq]; exact cf)]
    have hv : fl[i.toNat]? = some (fl.getD i.toNat 0) := by
      rw [List.getD_eq_getElem?_getD, List.getElem?_eq_getElem (by omega)]; rfl
    obtain ⟨a1, ha1, hc1⟩ := slc_get F1 (i := i.toNat) (v := .int .u8 (fl.getD i.toNat 0)) (by rw [List.getElem?_map, hv]; rfl)
    refine ⟨a1, ha1, i0, cf, _, by rw [Nat.mul_one]; exact L6.E.cellAt hc1, ?_⟩
    refine DFuse_ok L6.D fun h7 D7 F7 => ?_
    have ef : ∀ n, fuseD X n = (0, { X with fuse := if 0 > n then 0 else n }) := fun n => by unfold fuseD; rw [if_neg (by rw [K.x.dd]; simp)]
    rw [ef] at D7
    generalize (if 0 > IntKind.i64.wrap (Int.tmod (fl.getD i.toNat 0) 24) then (0 : Int) else IntKind.i64.wrap (Int.tmod (fl.getD i.toNat 0) 24)) = nf at D7
    exact j3_ok (zs := zs) r F2 l2 (L6.jf S6 (JF.of_df F7) D7) (S6.df L6.D F7) K.cb ⟨i0, by omega⟩ Ry yc (by omega) (K.x.fuse rfl rfl rfl) K.so ⟨_, rfl⟩ bB K.hl H Hn
  · rw [if_neg (by rw [decide_eq_true_eq]; exact cf)]
    exact j3_ok (zs := zs) r F2 l2 L6 S6 K.cb ⟨i0, by omega⟩ Ry yc (by omega) K.x K.so ⟨_, rfl⟩ bB K.hl H Hn
end Go.Q.Yf
/- All that JournalKeeps's card needs. -/
namespace Go.Q.Yf
theorem Rws.of {h : Heap} {s : Slc} {ys : List Slc} (L : LsAt (fun s : Slc => [Slc.v s]) 1 h s ys) (o : ∀ y ∈ ys, y.len ≤ y.cap ∧ y.cap ≤ maxLen ∧ ∃ zs, SlI .u8 h y zs) : ∃ bss, Rws h s bss ys := by
  have : ∀ (l : List Slc), (∀ y ∈ l, y.len ≤ y.cap ∧ y.cap ≤ maxLen ∧ ∃ zs, SlI .u8 h y zs) → ∃ bss : List (List Int), l.length = bss.length ∧ ∀ (i : Nat) y bs, l[i]? = some y → bss[i]? = some bs → SlcAt h y (b8 bs) ∧ y.len = bs.length ∧ y.len ≤ y.cap ∧ isB bs := fun l => by
    induction l with
    | nil => exact fun _ => ⟨[], rfl, fun i y bs hi => by simp at hi⟩
    | cons y r ih =>
      intro o
      obtain ⟨bss, e, k⟩ := ih fun y hy => o y (List.mem_cons_of_mem _ hy)
      obtain ⟨q1, q2, zs, z1, z2, z3⟩ := o y (by simp)
      refine ⟨zs :: bss, by simp [e], fun i y' bs hi hb => ?_⟩
      cases i with
      | zero => simp at hi hb; subst hi; subst hb; exact ⟨z2, z1, q1, isB_wf z3⟩
      | succ i => exact k i y' bs (by simpa using hi) (by simpa using hb)
  obtain ⟨bss, e, k⟩ := this ys o
  refine ⟨bss, L.l, e, fun i y hy => ?_, k⟩
  obtain ⟨a, ha, hc⟩ := L.at' i y hy
  refine ⟨a, ha, ?_⟩
  have := hc 0 _ rfl
  rw [Addr.add_zero'] at this
  exact this
theorem Rws3.of {h : Heap} {s : Slc} {ys : List Slc} (L : LsAt (fun s : Slc => [Slc.v s]) 1 h s ys) (o : ∀ y ∈ ys, y.len ≤ y.cap ∧ y.cap ≤ maxLen ∧ ∃ ts, LsAt (fun s : Slc => [Slc.v s]) 1 h y ts ∧ ∀ t ∈ ts, t.len ≤ t.cap ∧ t.cap ≤ maxLen ∧ ∃ zs, SlI .u8 h t zs) : ∃ T, Rws3 h s T := by
  have : ∀ (l : List Slc), (∀ y ∈ l, y.len ≤ y.cap ∧ y.cap ≤ maxLen ∧ ∃ ts, LsAt (fun s : Slc => [Slc.v s]) 1 h y ts ∧ ∀ t ∈ ts, t.len ≤ t.cap ∧ t.cap ≤ maxLen ∧ ∃ zs, SlI .u8 h t zs) → ∃ T : List (List (List Int)), l.length = T.length ∧ ∀ (i : Nat) y ls, l[i]? = some y → T[i]? = some ls → y.len ≤ y.cap ∧ ∃ zs, Rws h y ls zs := fun l => by
    induction l with
    | nil => exact fun _ => ⟨[], rfl, fun i y bs hi => by simp at hi⟩
    | cons y r ih =>
      intro o
      obtain ⟨T, e, k⟩ := ih fun y hy => o y (List.mem_cons_of_mem _ hy)
      obtain ⟨q1, q2, ts, z1, z2⟩ := o y (by simp)
      obtain ⟨bss, R⟩ := Rws.of z1 z2
      refine ⟨bss :: T, by simp [e], fun i y' ls hi hb => ?_⟩
      cases i with
      | zero => simp at hi hb; subst hi; subst hb; exact ⟨q1, ts, R⟩
      | succ i => exact k i y' ls (by simpa using hi) (by simpa using hb)
  obtain ⟨T, e, k⟩ := this ys o
  refine ⟨T, by rw [L.l, e], fun i ls hls => ?_⟩
  have hi := (List.getElem?_eq_some_iff.1 hls).1
  have ey : ys[i]? = some (ys[i]'(by omega)) := List.getElem?_eq_getElem (by omega)
  obtain ⟨a, ha, hc⟩ := L.at' i _ ey
  obtain ⟨q1, zs, R⟩ := k i _ ls ey hls
  refine ⟨a, _, zs, ha, ?_, q1, R⟩
  have := hc 0 _ rfl
  rw [Addr.add_zero'] at this
  exact this
end Go.Q.Yf
/- Journal: all sectors' bytes; a scrub. -/
namespace Go.Q.Yf
/-! ### all sectors' bytes -/
def seg (l : List Int) (a : Nat) : List Int := (l.drop (a * 128)).take 128
def segPut (l : List Int) (a : Nat) (v : List Int) : List Int := l.take (a * 128) ++ v ++ l.drop (a * 128 + 128)
theorem seg_get (l : List Int) (a i : Nat) : (seg l a)[i]? = if i < 128 then l[a * 128 + i]? else none := by
  unfold seg
  rw [List.getElem?_take]
  split
  · rw [List.getElem?_drop]
  · rfl
theorem segPut_get {l v : List Int} {a : Nat} (hv : v.length = 128) (hl : a * 128 + 128 ≤ l.length) (j : Nat) : (segPut l a v)[j]? = if j < a * 128 then l[j]? else if j < a * 128 + 128 then v[j - a * 128]? else l[j]? := by
  have ht : (l.take (a * 128)).length = a * 128 := by rw [List.length_take]; omega
  unfold segPut
  by_cases h1 : j < a * 128
  · rw [if_pos h1, List.append_assoc, List.getElem?_append_left (by omega), List.getElem?_take, if_pos h1]
  · rw [if_neg h1]
    by_cases h2 : j < a * 128 + 128
    · rw [if_pos h2, List.append_assoc, List.getElem?_append_right (by omega), ht, List.getElem?_append_left (by omega)]
    · rw [if_neg h2, List.getElem?_append_right (by rw [List.length_append]; omega), List.length_append, ht, hv, List.getElem?_drop]
      rw [show a * 128 + 128 + (j - (a * 128 + 128)) = j from by omega]
theorem segPut_len {l v : List Int} {a : Nat} (hv : v.length = 128) (hl : a * 128 + 128 ≤ l.length) : (segPut l a v).length = l.length := by
  unfold segPut
  rw [List.length_append, List.length_append, List.length_take, List.length_drop]; omega
theorem seg_put {l v : List Int} {a b : Nat} (hv : v.length = 128) (hl : a * 128 + 128 ≤ l.length) : seg (segPut l a v) b = if b = a then v else seg l b := by
  apply List.ext_getElem?
  intro i
  rw [seg_get]
  by_cases hb : b = a
  · rw [if_pos hb, hb]
    by_cases hi : i < 128
    · rw [if_pos hi, segPut_get hv hl, if_neg (by omega), if_pos (by omega), show a * 128 + i - a * 128 = i from by omega]
    · rw [if_neg hi, List.getElem?_eq_none (by omega)]
  · rw [if_neg hb, seg_get]
    by_cases hi : i < 128
    · rw [if_pos hi, if_pos hi, segPut_get hv hl]
      rcases Nat.lt_or_gt_of_ne hb with h | h
      · rw [if_pos (by omega)]
      · rw [if_neg (by omega), if_neg (by omega)]
    · rw [if_neg hi, if_neg hi]
theorem zrow_one (v : Value) : ∀ n, zrow [v] n = List.replicate n v
  | 0 => rfl
  | n + 1 => by
    have := zrow_one v n
    unfold zrow at this ⊢
    rw [List.replicate_succ, List.flatten_cons, this, List.replicate_succ]; rfl
theorem mget_of {K V : Type} [DecidableEq K] {l : List (K × V)} (nd : (l.map (·.1)).Nodup) {k : K} {v : V} (h : (k, v) ∈ l) : mget l k = some v := by
  obtain ⟨j, hj⟩ := List.getElem?_of_mem h
  exact (mget_at hj nd).1
theorem of_mget {K V : Type} [DecidableEq K] {k : K} {v : V} : ∀ {l : List (K × V)}, mget l k = some v → (k, v) ∈ l
  | [], h => by cases h
  | p :: r, h => by
    unfold mget at h
    split at h
    · rename_i hp
      cases h
      rw [← hp]; simp
    · exact List.mem_cons_of_mem _ (of_mget h)
def KN (X : DK) : Prop := ∀ p ∈ X.now, 0 ≤ p.1 ∧ p.1 < 1024
section
variable {B c : Nat} {h : Heap} {d rn rs : Nat} {X : DK}
theorem DAt.ndN (D : DAt B c h d rn rs X) : (X.now.map (·.1)).Nodup := by
  obtain ⟨es, ck, _, hs, _, hl⟩ := D.N
  have h1 := hs.2.2
  have e : es.toList.map (·.key) = (X.now.map (·.1)).map (Value.int .i64) := by
    have := congrArg (List.map (·.1)) hl
    rw [List.map_map, List.map_map] at this
    rw [List.map_map]; exact this
  rw [e] at h1
  have h2 := List.nodup_iff_pairwise_ne.1 h1
  rw [List.pairwise_map] at h2
  exact List.nodup_iff_pairwise_ne.2 (h2.imp fun h e => h (congrArg _ e))
def muR (b : Nat) (es : Array MapEntry) (h : Heap) : Nat := match h[b]? with
  | some (.mapIter _ _ seen _) => (leftOf es seen).size
  | _ => 0
theorem nxH_at {b r since ck last : Nat} {seen : Array Nat} {x : MapEntry} {o : Obj} (hb : h[b]? = some o) : (nxH h b r since seen x ck)[b]? = some (.mapIter (some r) since (seen.push x.born) ck) := by
  unfold nxH
  rw [Array.getElem?_setIfInBounds_self_of_lt (Array.getElem?_eq_some_iff.1 hb).1]
theorem nxH_other {b r since ck g : Nat} {seen : Array Nat} {x : MapEntry} (hg : g ≠ b) : (nxH h b r since seen x ck)[g]? = h[g]? := by
  unfold nxH
  rw [Array.getElem?_setIfInBounds_ne (fun e => hg e.symm)]
theorem nxH_size {b r since ck : Nat} {seen : Array Nat} {x : MapEntry} : (nxH h b r since seen x ck).size = h.size := by unfold nxH; simp
theorem DRaw_ok {k : Slc → Heap → Prop} (D : DAt B c h d rn rs X) (kn : KN X) (H : ∀ s h' l, s.len = 131072 → s.cap = 131072 → SlcAt h' s (b8 l) → l.length = 131072 → (∀ a x, mget X.now a = some x → seg l a.toNat = secB x) → (∀ b : Nat, b < 1024 → mget X.now (b : Int) = none → seg l b = List.replicate 128 0) → Ext h.size h h' → k s h') : disk_Disk_Raw (some ⟨d, 0, none⟩) k h := by
  unfold disk_Disk_Raw
  rw [if_neg (by simp)]
  refine ⟨_, _, by omega, by omega, by omega, by omega, rfl, rfl, ?_⟩
  rw [show ((131072 : Int)).toNat = 131072 from rfl]
  generalize hN : (131072 : Nat) = N
  rw [zrow_one]
  have ez : List.replicate N (Value.int .u8 0) = b8 (List.replicate N 0) := by rw [b8, List.map_replicate]
  rw [ez]
  have P1 := Blk.push h (b8 (List.replicate N 0)) 5
  have W1 := Ext.push h (.cells (b8 (List.replicate N 0)).toArray 5) (Nat.le_refl _)
  have z1 : (h.push (.cells (b8 (List.replicate N 0)).toArray 5)).size = h.size + 1 := by simp
  generalize h.push (.cells (b8 (List.replicate N 0)).toArray 5) = h1 at *
  have D1 := D.ext W1
  have nd := D.ndN
  obtain ⟨es, ck, m1, ms, mk, ml⟩ := D1.N
  refine ⟨_, rfl, some rn, D1.cell0, rn, es, ck, _, _, rfl, m1, rfl, rfl, ?_⟩
  obtain ⟨st1, st2, st3⟩ := (Go.MapKept.stamped_iff es ck).1 ms
  have W2 := Ext.push h1 (.mapIter (some rn) ck #[] ck) (Nat.le_refl _)
  have I2 : (h1.push (.mapIter (some rn) ck #[] ck))[h1.size]? = some (.mapIter (some rn) ck #[] ck) := by simp
  generalize h1.push (.mapIter (some rn) ck #[] ck) = h2 at *
  have z2 := W2.size
  have P2 := P1.ext W2 (by omega)
  have rl := D.N.lt
  have m2 : h2[rn]? = some (.map es ck) := (W2.block rn (by omega)).trans m1
  -- what an entry is
  have ent : ∀ x ∈ es.toList, ∃ a v, x.key = .int .i64 a ∧ x.val = .agg (S_disk_sector.cs v).toArray ∧ mget X.now a = some v ∧ 0 ≤ a ∧ a < 1024 := fun x hx => by
    have : (x.key, x.val) ∈ X.now.map fun p => ((Value.int .i64 p.1 : Value), (Value.agg (S_disk_sector.cs p.2).toArray : Value)) := by rw [← ml]; exact List.mem_map.2 ⟨x, hx, rfl⟩
    obtain ⟨p, hp, e⟩ := List.mem_map.1 this
    rw [Prod.mk.injEq] at e
    exact ⟨p.1, p.2, e.1.symm, e.2.symm, mget_of nd hp, kn p hp⟩
  have ent2 : ∀ a v, mget X.now a = some v → ∃ x ∈ es.toList, x.key = .int .i64 a := fun a v hm => by
    have : ((Value.int .i64 a : Value), (Value.agg (S_disk_sector.cs v).toArray : Value)) ∈ es.toList.map fun e => (e.key, e.val) := by rw [ml]; exact List.mem_map.2 ⟨(a, v), of_mget hm, rfl⟩
    obtain ⟨x, hx, e⟩ := List.mem_map.1 this
    rw [Prod.mk.injEq] at e
    exact ⟨x, hx, e.1⟩
  have X2 : Ext h.size h h2 := W1.trans (W2.mono (by omega))
  refine ⟨fun _ h' => ∃ seen last l, h'[h1.size]? = some (.mapIter (some rn) ck seen last) ∧ ck ≤ last ∧ h'[rn]? = some (.map es ck) ∧ Blk h' h.size (b8 l) 5 ∧ (l.length = N ∧ ∀ b : Nat, b < 1024 → mget X.now (b : Int) = none → seg l b = List.replicate 128 0) ∧
      (∀ x ∈ es.toList, seen.contains x.born = true → ∃ a v, x.key = .int .i64 a ∧ mget X.now a = some v ∧ seg l a.toNat = secB v) ∧ Ext h.size h h' ∧ h2.size ≤ h'.size, fun _ h' => muR h1.size es h',
    ⟨#[], ck, List.replicate N 0, I2, Nat.le_refl _, m2, P2, ⟨by simp, fun b hb _ => by unfold seg; rw [List.drop_replicate, List.take_replicate]; congr 1; omega⟩, fun x hx hc => by simp at hc, X2, Nat.le_refl _⟩, ?_⟩
  rintro h3 ⟨seen, last, l, i3, hl3, m3, P3, ⟨ln, zn⟩, hs3, X3, z3⟩
  unfold disk_Disk_Raw_l1b
  have hmu : muR h1.size es h3 = (leftOf es seen).size := by unfold muR; rw [i3]
  refine ⟨h1.size, rn, ck, ck, last, es, seen, rfl, i3, m3, st1, hl3, fun hall => ?_, fun x hx hn h4 e4 => ?_⟩
  · rw [if_neg (by simp)]
    refine H _ h3 l (by simp only; omega) (by simp only; omega) (P3.slc (n := N) (o := 0) (by rw [List.drop_zero, List.take_of_length_le (by rw [List.length_map]; omega)])) (by omega) (fun a v hm => ?_) zn X3
    obtain ⟨x, hx, hk⟩ := ent2 a v hm
    obtain ⟨a', v', k1, k2, k3⟩ := hs3 x hx (hall x hx)
    rw [hk] at k1
    cases k1
    rw [hm] at k2; cases k2
    exact k3
  · rw [if_pos rfl]
    have i4 : h4[h1.size]? = some (.mapIter (some rn) ck (seen.push x.born) ck) := by rw [e4]; exact nxH_at (last := last) i3
    have o4 : ∀ g, g ≠ h1.size → h4[g]? = h3[g]? := fun g hg => by rw [e4]; exact nxH_other hg
    have s4 : h4.size = h3.size := by rw [e4]; exact nxH_size
    have lt1 := (Array.getElem?_eq_some_iff.1 I2).1
    obtain ⟨a, v, k1, k2, k3, a0, a1⟩ := ent x hx
    have m4 : h4[rn]? = some (.map es ck) := (o4 rn (by omega)).trans m3
    have P4 : Blk h4 h.size (b8 l) 5 := P3.old (o4 _ (by omega))
    refine ⟨h1.size, rn, ck, ck, es, seen, x, a, v, rfl, i4, m4, hx, st2, k1, k2, _, _, rfl, rfl, ?_⟩
    have T := Blk.push h4 (S_disk_sector.cs zSec) 67
    have T2 := T.sets_all (vs := S_disk_sector.cs v) (by rw [sec_len, sec_len])
    have W5 := (Ext.push h4 (.cells (S_disk_sector.cs zSec).toArray 67) (Nat.le_refl _)).trans (Ext.sets _ (a := ⟨h4.size, 0, none⟩) 0 (S_disk_sector.cs v) (Nat.le_refl _))
    refine ⟨_, WrsAt.of_blk T (by rw [sec_len]; omega), rfl, ?_⟩
    generalize setsH (h4.push (.cells (S_disk_sector.cs zSec).toArray 67)) ⟨h4.size, 0, none⟩ 0 (S_disk_sector.cs v) = h5 at *
    have z5 := W5.size
    have P5 := P4.ext W5 P4.lt
    rw [wrapI64 (by omega) (by omega)]
    refine ⟨_, by omega, by simp only; omega, by simp only; omega, by simp only; omega, rfl, _, by omega, by omega, by omega, rfl, b8 (secB v), ?_⟩
    have hoff : (a * 128).toNat = a.toNat * 128 := by omega
    have ed : subS ⟨some (⟨h.size, 0, none⟩ : Addr), N, N⟩ 1 (a * 128).toNat ((N : Nat) : Int).toNat ((N : Nat) : Int).toNat = ⟨some ⟨h.size, a.toNat * 128, none⟩, N - a.toNat * 128, N - a.toNat * 128⟩ := by
      unfold subS
      rw [hoff, show ((N : Nat) : Int).toNat = N from rfl, if_neg (by omega)]
      simp only [Option.map_some, Nat.mul_one, add_mk, Nat.zero_add]
    have es' : subS ⟨some (⟨h4.size, 0, none⟩ : Addr), 128, 128⟩ 1 (0 : Int).toNat (128 : Int).toNat 128 = ⟨some ⟨h4.size, 0, none⟩, 128, 128⟩ := by
      unfold subS; simp [Addr.add]
    rw [ed, es']
    have vl : (secB v).length = 128 := nrm_len _ _
    have hseg : a.toNat * 128 + 128 ≤ l.length := by omega
    refine ⟨⟨b8 (secB v), T2.slc (n := 128) (o := 0) (by rw [List.drop_zero, sec_cs, List.take_append_of_le_length (by rw [List.length_map, vl]; exact Nat.le_refl _), List.take_of_length_le (by rw [List.length_map, vl]; exact Nat.le_refl _)]), by rw [List.length_map, vl]; rfl, (List.take_of_length_le (by rw [List.length_map, vl, Nat.mul_one]; show 128 ≤ min 128 (N - a.toNat * 128); omega)).symm⟩, b8_one _, fun hn => (by cases hn), fun b hb => by
      cases hb
      intro j hj
      rw [List.length_map, vl] at hj
      rw [add_mk]; exact P5.wr (by rw [List.length_map]; omega), ?_⟩
    dsimp only
    have P6 : Blk (setsH h5 ⟨h.size, a.toNat * 128, none⟩ 0 (b8 (secB v))) h.size (b8 (segPut l a.toNat (secB v))) 5 := by
      have := P5.sets (b8 (secB v)) (a.toNat * 128) 0 (by rw [List.length_map, List.length_map, vl]; omega)
      have e : b8 (segPut l a.toNat (secB v)) = (b8 l).take (a.toNat * 128) ++ b8 (secB v) ++ (b8 l).drop (a.toNat * 128 + 128) := by
        unfold segPut; simp only [List.map_append, List.map_take, List.map_drop]
      rw [List.length_map, vl, Nat.add_zero] at this
      rw [e]
      exact this
    have o6 : ∀ g, g ≠ h.size → (setsH h5 ⟨h.size, a.toNat * 128, none⟩ 0 (b8 (secB v)))[g]? = h5[g]? := fun g hg => setsH_other _ _ hg
    have s6 : (setsH h5 ⟨h.size, a.toNat * 128, none⟩ 0 (b8 (secB v))).size = h5.size := setsH_size _ _
    generalize setsH h5 ⟨h.size, a.toNat * 128, none⟩ 0 (b8 (secB v)) = h6 at *
    have i6 : h6[h1.size]? = some (.mapIter (some rn) ck (seen.push x.born) ck) := (o6 _ (by omega)).trans ((W5.block _ (by omega)).trans i4)
    refine ⟨⟨seen.push x.born, ck, segPut l a.toNat (secB v), i6, Nat.le_refl _, (o6 _ (by omega)).trans ((W5.block _ (by omega)).trans m4), P6, ⟨by rw [segPut_len vl hseg]; exact ln, fun b hb hm => by
      rw [seg_put vl hseg, if_neg]
      · exact zn b hb hm
      · intro e
        rw [e, show ((a.toNat : Nat) : Int) = a from by omega, k3] at hm
        cases hm⟩, fun y hy hc => ?_, ⟨by have := X3.size; omega, fun g hg => by rw [o6 g (by omega), W5.block g (by have := X3.size; omega), o4 g (by omega), X3.block g hg]⟩, by omega⟩, ?_⟩
    · by_cases hyx : y.born = x.born
      · have e : y = x := born_inj st2 hy hx hyx
        subst e
        exact ⟨a, v, k1, k3, by rw [seg_put vl hseg, if_pos rfl]⟩
      · have hc2 : seen.contains y.born = true := by
          rw [contains_push] at hc
          simpa [hyx] using hc
        obtain ⟨a', v', q1, q2, q3⟩ := hs3 y hy hc2
        refine ⟨a', v', q1, q2, ?_⟩
        rw [seg_put vl hseg, if_neg]
        · exact q3
        · intro e
          obtain ⟨a2, v2, p1, _, p3, p4, p5⟩ := ent y hy
          rw [q1] at p1
          cases p1
          have : a' = a := by omega
          subst this
          exact hyx (congrArg MapEntry.born (entry_eq_of_key st3 hy hx (q1.trans k1.symm)))
    · rw [hmu]
      have : muR h1.size es h6 = (leftOf es (seen.push x.born)).size := by unfold muR; rw [i6]
      rw [this]
      refine left_shrinks es seen x ?_
      unfold leftOf
      rw [Array.mem_toList_iff, Array.mem_filter]
      exact ⟨Array.mem_toList_iff.1 hx, by rw [hn]; rfl⟩
end
/-! ### writes that nothing cuts -/
theorem KN.burn {X : DK} (K : KN X) : KN (burnD X).2 := by unfold burnD; split <;> exact K
theorem KN.write {X : DK} (K : KN X) (a : Int) (bs : List Int) : KN (writeD X a bs).2 := by
  unfold writeD
  split
  · exact K
  · split
    · exact K
    · split
      · exact K
      · refine KN.burn fun p hp => ?_
        rcases mput_in hp with rfl | hp
        · omega
        · exact K p hp
theorem KN.sync {X : DK} (K : KN X) : KN (syncD X).2 := by
  unfold syncD
  split
  · exact K
  · split
    · exact K.burn
    · exact K.burn
theorem KN.layUp {X : DK} (K : KN X) (p : Int) (f : S_slot_head) (bs : List Int) : ∀ n, KN (layUp p f bs X n).2
  | 0 => K
  | n + 1 => by
    have ih := KN.layUp K p f bs n
    rw [Go.Q.Yf.layUp]
    split
    · exact ih
    · exact ih.write _ _
theorem KN.layD {X : DK} (K : KN X) (p : Int) (f : S_slot_head) (bs : List Int) (n : Nat) : KN (layD p f bs X n).2 := by
  unfold Go.Q.Yf.layD
  split
  · exact K.layUp p f bs n
  · split
    · exact (K.layUp p f bs n).sync
    · exact (K.layUp p f bs n).sync
theorem KN.wrUp {X : DK} (K : KN X) (p : Int) (g : Nat → List Int) : ∀ n, KN (wrUp p g X n).2
  | 0 => K
  | n + 1 => by
    have ih := KN.wrUp K p g n
    rw [Go.Q.Yf.wrUp]
    split
    · exact ih
    · exact ih.write _ _
theorem KN.wrD {X : DK} (K : KN X) (p : Int) (g : Nat → List Int) (n : Nat) : KN (wrD p g X n).2 := by
  unfold Go.Q.Yf.wrD
  split
  · exact K.wrUp p g n
  · exact (K.wrUp p g n).sync
theorem write_free {X : DK} {a : Int} {bs : List Int} (hd : X.dead = false) (hf : X.fuse = 0) (ha : 0 ≤ a ∧ a < 1024) (l : bs.length ≤ 128) :
    (writeD X a bs).1 = 0 ∧ (writeD X a bs).2.dead = false ∧ (writeD X a bs).2.fuse = 0 ∧ ∀ b, vD (writeD X a bs).2 b = if b = a then ⟨padB bs, false⟩ else vD X b := by
  obtain ⟨b1, b2, b3⟩ := burn_free (X := laidD X a bs) hf
  have e : writeD X a bs = (0, (burnD (laidD X a bs)).2) := by
    unfold writeD
    rw [if_neg (by rw [hd]; simp), if_neg (by omega), if_neg (by omega), b1]; rfl
  rw [e]
  refine ⟨rfl, b2.trans hd, b3, fun b => ?_⟩
  unfold vD
  dsimp only
  rw [burn_now]
  show (mget (mput X.now a ⟨padB bs, false⟩) b).getD zSec = _
  rw [mget_put]
  split <;> rfl
theorem sync_free {X : DK} (hd : X.dead = false) (hf : X.fuse = 0) : (syncD X).1 = 0 ∧ (syncD X).2.dead = false ∧ (syncD X).2.fuse = 0 ∧ (syncD X).2.safe = [] ∧ ∀ b, vD (syncD X).2 b = vD X b := by
  obtain ⟨b1, b2, b3⟩ := burn_free (X := X) hf
  have es : syncD X = (0, { (burnD X).2 with safe := [] }) := by
    unfold syncD
    rw [if_neg (by rw [hd]; simp), if_neg (by rw [b1]; simp)]
  rw [es]
  refine ⟨rfl, b2.trans hd, b3, rfl, fun b => ?_⟩
  unfold vD
  dsimp only
  rw [burn_now]
/-! ### are bytes all 00 -/
theorem empty_ok {s : Slc} {l : List Int} {k : Bool → Heap → Prop} {h : Heap} (S : SlcAt h s (b8 l)) (sl : s.len = l.length) (lm : l.length ≤ 100000) (H : ∀ b : Bool, (b = true → ∀ x ∈ l, x = 0) → k b h) : journal_empty s k h := by
  unfold journal_empty slices_ContainsFunc_byte_byte__journal_empty_1 slices_IndexFunc_byte_byte__journal_empty_1 slices_IndexFunc_byte_byte__journal_empty_1_l1
  refine ⟨fun i h' => h' = h ∧ 0 ≤ i ∧ i ≤ l.length ∧ ∀ j : Nat, (j : Int) < i → ∀ x, l[j]? = some x → x = 0, fun i _ => (l.length - i).toNat, ⟨rfl, by omega, by omega, fun j hj => by omega⟩, ?_⟩
  rintro i h' ⟨rfl, i0, i1, hz⟩
  unfold slices_IndexFunc_byte_byte__journal_empty_1_l1b
  by_cases ci : i < l.length
  · rw [if_pos (by rw [decide_eq_true_eq]; omega)]
    have e := List.getElem?_eq_getElem (l := l) (i := i.toNat) (by omega)
    obtain ⟨a, ha, hc⟩ := slc_get S (i := i.toNat) (v := .int .u8 (l[i.toNat]'(by omega))) (by rw [List.getElem?_map, e]; rfl)
    refine ⟨a, ha, i0, by omega, _, by rw [Nat.mul_one]; exact hc, ?_⟩
    unfold journal_empty_1
    dsimp only
    by_cases q : l[i.toNat]'(by omega) = 0
    · rw [if_neg (by simp [q]), wrapI64 (by omega) (by omega)]
      refine ⟨⟨rfl, by omega, by omega, fun j hj x hx => ?_⟩, by omega⟩
      by_cases c : (j : Int) < i
      · exact hz j c x hx
      · rw [show j = i.toNat from by omega, e] at hx
        cases hx
        exact q
    · rw [if_pos (by simp [q])]
      refine H _ fun e => ?_
      simp at e
      omega
  · rw [if_neg (by rw [decide_eq_true_eq]; omega)]
    refine ⟨_, rfl, H _ fun _ x hx => ?_⟩
    obtain ⟨j, hj⟩ := List.getElem?_of_mem hx
    exact hz j (by have := (List.getElem?_eq_some_iff.1 hj).1; omega) x hj
/-! ### a scrub -/
def zS : List Int := List.replicate 128 0
theorem pad_z : padB [] = zS := by decide
theorem all_z {l : List Int} (h : ∀ x ∈ l, x = 0) (ll : l.length = 128) : l = zS := by
  rw [List.eq_replicate_of_mem h, ll]; rfl
/-- what a scrub leaves -/
structure ScX (Y : DK) (gr : Int) (t1 t2 : Int) (bs : List Int) : Prop where
  g : GoodX Y
  sf : Y.safe = []
  fu : Y.fuse = 0
  dd : Y.dead = false
  kn : KN Y
  t : (t1 = 0 ∧ t2 = 1) ∨ (t1 = 1 ∧ t2 = 0)
  one : ∀ j : Nat, j < 256 → readD Y (t1 * 256 + j) = (padB (newS (headD gr bs) bs j), 0)
  two : ∀ j : Nat, j < 256 → readD Y (t2 * 256 + j) = (padB (newS (headD (gr + 1) bs) bs j), 0)
  hi : ∀ a, 512 ≤ a → a < 1024 → readD Y a = (zS, 0)
variable {B c : Nat} {h h' : Heap} {d rn rs pr sr : Nat} {X : DK}
theorem Scrub_ok {fresh : Bool} {e n p : Int} {s : Slc} {bs : List Int} {slot : Int} {k : Int → Heap → Prop} (D : DAt B c h d rn rs X) (P : PairAt h pr d 0 256) (S : StAt h sr d pr fresh e n p) (r : R0 h) (g : GoodX X)
    (hd : X.dead = false) (hf : X.fuse = 0) (sf : X.safe = []) (kn : KN X) (b : BP X 0 256 slot) (gl : grD X 0 512 ≤ 1000) (bB : isB bs)
    (hs : ∀ h', JF d rn rs sr h h' → SlcAt h' s (b8 bs)) (sl : s.len = bs.length) (sc : s.len ≤ s.cap) (bl : bs.length ≤ 20000) (sb : 0 < h.size ∧ B ≤ sr ∧ B ≤ h.size ∧ 0 < B)
    (H : ∀ Y c' h' t1 t2, ScX Y (grD X 0 512) t1 t2 bs → DAt B c' h' d rn rs Y → PairAt h' pr d 0 256 → JF d rn rs sr h h' → StAt h' sr d pr true (grD X 0 512 + 2) 0 512 → k 0 h') : journal_Store_Scrub (some ⟨sr, 0, none⟩) s k h := by
  have gn := gr_nn g 0 512
  have p6 : prtD bs.length ≤ 256 := by unfold prtD; split <;> omega
  unfold journal_Store_Scrub
  rw [if_neg (by simp)]
  refine ⟨_, rfl, _, by rw [add_mk]; exact S.wr (by show _ < 6; omega), rfl, ?_⟩
  rw [add_mk]
  have S1 : StAt (setH h ⟨sr, 0 + 2, none⟩ (.bool false)) sr d pr false e n p := S.set rfl
  have D1 := D.st (i := 0 + 2) (v := .bool false) S
  have P1 := P.st (i := 0 + 2) (v := .bool false) S
  have F1 : JF d rn rs sr h (setH h ⟨sr, 0 + 2, none⟩ (.bool false)) := JF.set
  generalize setH h ⟨sr, 0 + 2, none⟩ (.bool false) = h1 at *
  have R0B : ∀ {h'}, JF d rn rs sr h h' → R0 h' := fun {h'} F => fun j v hj => by
    have X := F.ext D sb.2.1 sb.2.2.1
    have := r j v hj
    rw [X.cell (a := (⟨0, 0, none⟩ : Addr).add j) (by rw [add_mk]; exact sb.2.2.2)]
    exact this
  refine ⟨some ⟨pr, 0, none⟩, by rw [add_mk, S1.cell]; rfl, ?_⟩
  unfold slot_Pair_Wipe
  rw [if_neg (by simp)]
  refine Lay_ok (bs := bs) D1 P1 (R0B F1) g (by omega) (by omega) (fun h' F' => hs h' (F1.trans (JF.of_df F'))) sl sc (by omega) fun rr Y c1 h2 L c1l D2 F2 => ?_
  have F02 : JF d rn rs sr h h2 := F1.trans (JF.of_df F2)
  have P2 := P1.df D1 F2
  have S2 := S1.df D1 F2
  rcases L with ⟨q, _⟩ | ⟨_, q, _⟩ | ⟨_, _, s', t, bp, et, el⟩
  · exfalso; omega
  · exfalso; rw [show ((2 : Int) * 256).toNat = 512 from rfl] at q; omega
  rw [show ((2 : Int) * 256).toNat = 512 from rfl, show toN 256 bs true = 256 from by unfold toN; rw [if_pos rfl]; rfl] at el
  have kY : KN Y := by have := kn.layD (0 + t * 256) (headD (grD X 0 512) bs) bs 256; rw [← el] at this; exact this
  have w := wsJ_ok g sf hd hf bB bl (by omega) bp et (by omega) (Nat.le_refl _) el
  have tt : t = 0 ∨ t = 1 := by rw [et]; split <;> omega
  rw [w.r]
  rw [if_neg (by simp)]
  refine Lay_ok (bs := bs) D2 P2 (R0B F02) w.good (by omega) (by omega) (fun h' F' => hs h' (F02.trans (JF.of_df F'))) sl sc (by omega) fun rr2 Z c2 h3 L2 c2l D3 F3 => ?_
  have F03 : JF d rn rs sr h h3 := F02.trans (JF.of_df F3)
  have P3 := P2.df D2 F3
  have S3 := S2.df D2 F3
  have gr1 := w.gr
  rcases L2 with ⟨q, _⟩ | ⟨_, q, _⟩ | ⟨_, _, s2, t2, bp2, et2, el2⟩
  · exfalso; omega
  · exfalso; rw [show ((2 : Int) * 256).toNat = 512 from rfl] at q; omega
  rw [show ((2 : Int) * 256).toNat = 512 from rfl, show toN 256 bs true = 256 from by unfold toN; rw [if_pos rfl]; rfl] at el2
  have kZ : KN Z := by have := kY.layD (0 + t2 * 256) (headD (grD Y 0 512) bs) bs 256; rw [← el2] at this; exact this
  have w2 := wsJ_ok w.good w.safe w.dead w.fuse bB bl (by omega) bp2 et2 (by omega) (Nat.le_refl _) el2
  have e2 : s2 = t := bp_uniq bp2 w.bp
  have tt2 : t2 = 0 ∨ t2 = 1 := by rw [et2]; split <;> omega
  have ne : t ≠ t2 := by rw [et2, e2]; split <;> omega
  rw [w2.r, gr1]
  dsimp only
  rw [if_neg (by simp)]
  have rdN : ∀ j : Nat, j < 256 → readD Z (t2 * 256 + j) = (padB (newS (headD (grD X 0 512 + 1) bs) bs j), 0) := fun j hj => by
    rw [w2.new j hj, gr1]
  have rdO : ∀ j : Nat, j < 256 → readD Z (t * 256 + j) = (padB (newS (headD (grD X 0 512) bs) bs j), 0) := fun j hj => by
    rw [w2.old t tt ne j hj, w.new j hj]
  generalize grD X 0 512 = gg at *
  unfold journal_Store_Scrub_l1
  refine ⟨fun a h' => 512 ≤ a ∧ a ≤ 1024 ∧ ∃ (Q : DK) (c3 : Nat), DAt B c3 h' d rn rs Q ∧ PairAt h' pr d 0 256 ∧ StAt h' sr d pr false e n p ∧ JF d rn rs sr h h' ∧ Q.dead = false ∧ Q.fuse = 0 ∧ KN Q ∧ (∀ x, x < 512 → vD Q x = vD Z x) ∧ (∀ x, 512 ≤ x → x < a → readD Q x = (zS, 0)) ∧ ∀ x, isB (secB (vD Q x)), fun a _ => (1024 - a).toNat, ⟨by omega, by omega, Z, c2, D3, P3, S3, F03, w2.dead, w2.fuse, kZ, fun _ _ => rfl, fun x h1 h2 => by omega, fun x => w2.good.1 x⟩, ?_⟩
  rintro a h4 ⟨a0, a1, Q, c3, D4, P4, S4, F4, qd, qf, kQ, low, hi, qb⟩
  unfold journal_Store_Scrub_l1b
  by_cases ca : a < 1024
  rotate_left
  · rw [if_neg (by rw [decide_eq_true_eq]; exact ca)]
    refine ⟨_, rfl, some ⟨d, 0, none⟩, by rw [S4.cell]; rfl, ?_⟩
    refine DSync_ok D4 fun h5 D5 F5 => ?_
    obtain ⟨y1, y2, y3, y4, y5⟩ := sync_free (X := Q) qd qf
    rw [y1]
    rw [if_neg (by simp)]
    refine Begin_ok (e2 := gg + 1 + 1) D5 (P4.df D4 F5) (S4.df D4 F5) fun h6 D6 P6 S6 F6 => ?_
    refine H (syncD Q).2 c3 h6 t t2 ⟨good_of y4 fun x => by rw [y5]; exact qb x, y4, y3, y2, kQ.sync, by omega, fun j hj => ?_, fun j hj => ?_, fun x x0 x1 => ?_⟩ D6 P6 ((F4.trans (JF.of_df F5)).trans F6) (by rw [show gg + 2 = gg + 1 + 1 from by omega]; exact S6)
    · rw [← rdO j hj]
      exact rd_cong ((y5 _).trans (low _ (by omega)))
    · rw [← rdN j hj]
      exact rd_cong ((y5 _).trans (low _ (by omega)))
    · rw [rd_cong (y5 x)]
      exact hi x x0 (by omega)
  rw [if_pos (by rw [decide_eq_true_eq]; exact ca)]
  refine ⟨_, rfl, some ⟨d, 0, none⟩, by rw [S4.cell]; rfl, ?_⟩
  refine DRead_ok D4 fun t9 h5 St lt ct _ X5 => ?_
  have D5 := D4.ext X5
  have P5 : PairAt h5 pr d 0 256 := Blk.ext P4 X5 P4.lt
  have S5 : StAt h5 sr d pr false e n p := Blk.ext S4 X5 S4.lt
  have F5 := F4.trans (JF.of_ext X5)
  have nx : ∀ (Q' : DK) (c4 : Nat) h6, DAt B c4 h6 d rn rs Q' → PairAt h6 pr d 0 256 → StAt h6 sr d pr false e n p → JF d rn rs sr h h6 → Q'.dead = false → Q'.fuse = 0 → KN Q' → (∀ x, x ≠ a → vD Q' x = vD Q x) → readD Q' a = (zS, 0) → isB (secB (vD Q' a)) →
      journal_Store_Scrub_j2 (some ⟨sr, 0, none⟩) (gg + 1 + 1) a k (fun a' h' => (512 ≤ a' ∧ a' ≤ 1024 ∧ ∃ (Q : DK) (c3 : Nat), DAt B c3 h' d rn rs Q ∧ PairAt h' pr d 0 256 ∧ StAt h' sr d pr false e n p ∧ JF d rn rs sr h h' ∧ Q.dead = false ∧ Q.fuse = 0 ∧ KN Q ∧ (∀ x, x < 512 → vD Q x = vD Z x) ∧ (∀ x, 512 ≤ x → x < a' → readD Q x = (zS, 0)) ∧ ∀ x, isB (secB (vD Q x))) ∧ (1024 - a').toNat < (1024 - a).toNat) h6 := fun Q' c4 h6 D6 P6 S6 F6 dd ff kk o za zb => by
    unfold journal_Store_Scrub_j2
    rw [wrapI64 (by omega) (by omega)]
    refine ⟨_, rfl, ⟨by omega, by omega, Q', c4, D6, P6, S6, F6, dd, ff, kk, fun x hx => (o x (by omega)).trans (low x hx), fun x x0 x1 => ?_, fun x => ?_⟩, by omega⟩
    · by_cases q : x = a
      · rw [q]; exact za
      · rw [rd_cong (o x q)]; exact hi x x0 (by omega)
    · by_cases q : x = a
      · rw [q]; exact zb
      · rw [o x q]; exact qb x
  -- it is written
  have wr : ∀ h6, Ext h5.size h5 h6 → journal_Store_Scrub_g3 (some ⟨sr, 0, none⟩) (gg + 1 + 1) a false k (fun a' h' => (512 ≤ a' ∧ a' ≤ 1024 ∧ ∃ (Q : DK) (c3 : Nat), DAt B c3 h' d rn rs Q ∧ PairAt h' pr d 0 256 ∧ StAt h' sr d pr false e n p ∧ JF d rn rs sr h h' ∧ Q.dead = false ∧ Q.fuse = 0 ∧ KN Q ∧ (∀ x, x < 512 → vD Q x = vD Z x) ∧ (∀ x, 512 ≤ x → x < a' → readD Q x = (zS, 0)) ∧ ∀ x, isB (secB (vD Q x))) ∧ (1024 - a').toNat < (1024 - a).toNat) h6 := fun h6 X6 => by
    have D6 := D5.ext X6
    have P6 : PairAt h6 pr d 0 256 := Blk.ext P5 X6 P5.lt
    have S6 : StAt h6 sr d pr false e n p := Blk.ext S5 X6 S5.lt
    have F6 := F5.trans (JF.of_ext X6)
    unfold journal_Store_Scrub_g3
    rw [if_neg (by simp)]
    refine ⟨_, rfl, some ⟨d, 0, none⟩, by rw [S6.cell]; rfl, ?_⟩
    refine DWrite_ok (bs := []) D6 ⟨fun _ => rfl, fun a ha => by cases ha⟩ rfl fun h7 D7 F7 => ?_
    obtain ⟨y1, y2, y3, y4⟩ := write_free (X := Q) (a := a) (bs := []) qd qf ⟨by omega, ca⟩ (by simp)
    rw [y1]
    rw [if_neg (by simp)]
    have va : vD (writeD Q a []).2 a = ⟨padB [], false⟩ := by rw [y4, if_pos rfl]
    refine nx _ _ h7 D7 (P6.df D6 F7) (S6.df D6 F7) (F6.trans (JF.of_df F7)) y2 y3 (kQ.write _ _) (fun x hx => by rw [y4, if_neg hx]) ?_ ?_
    · have := rdG_new (Z := (writeD Q a []).2) (a := a) (g := fun _ => []) (j := 0) (by simp) (by omega) va
      rw [this, pad_z]
    · rw [va, secB_pad (by simp), pad_zero]
      exact zero_B
  by_cases er : (readD Q a).2 = 0
  rotate_left
  · rw [if_neg (by simpa using er)]
    exact wr h5 (Ext.refl _ _)
  rw [if_pos (by simpa using er)]
  have l128 := read_len er
  refine empty_ok St lt (by omega) fun eb he => ?_
  cases eb with
  | false => exact wr h5 (Ext.refl _ _)
  | true =>
    unfold journal_Store_Scrub_g3
    rw [if_pos rfl]
    have ez := all_z (he rfl) l128
    exact nx Q c3 h5 D5 P5 S5 F5 qd qf kQ (fun _ _ => rfl) (Prod.ext ez er) (qb a)
end Go.Q.Yf
/- Journal: JournalScrubs walked. -/
namespace Go.Q.Yf
/-- the sectors of two scrubs are the same but for the numbers -/
theorem sec_same {ga gb : Int} {bs : List Int} {i : Nat} : (padB (newS (headD ga bs) bs i)).drop 8 = (padB (newS (headD gb bs) bs i)).drop 8 := by
  have l8 : ∀ g, (formL (g + 1) 8).length = 8 := fun g => formL_length _ _
  have key : ∀ g : Int, (padB (newS (headD g bs) bs i)).drop 8 = if (i : Int) < prtD bs.length then (formL (i : Int) 2 ++ formL (prtD bs.length) 2 ++ formL (bs.length : Int) 4 ++ formL (sumD bs) 8 ++ (bs.drop (i * 104)).take 104) ++ List.replicate (128 - (24 + ((bs.drop (i * 104)).take 104).length)) 0 else List.replicate 120 0 := fun g => by
    unfold newS
    by_cases c : (i : Int) < prtD bs.length
    · rw [if_pos (show (i : Int) < (headD g bs).f_parts from c), if_pos c]
      have e : padB (laySec (headD g bs) bs i) = formL (g + 1) 8 ++ ((formL (i : Int) 2 ++ formL (prtD bs.length) 2 ++ formL (bs.length : Int) 4 ++ formL (sumD bs) 8 ++ (bs.drop (i * 104)).take 104) ++ List.replicate (128 - (24 + ((bs.drop (i * 104)).take 104).length)) 0) := by
        unfold padB
        have ll : (laySec (headD g bs) bs i).length = 24 + ((bs.drop (i * 104)).take 104).length := by
          unfold laySec; rw [List.length_append, hbD_len]
        rw [ll]
        unfold laySec hbD headD
        dsimp only
        simp only [List.append_assoc]
      rw [e, List.drop_append_of_le_length (by rw [l8]; exact Nat.le_refl _), List.drop_of_length_le (by rw [l8]; exact Nat.le_refl _), List.nil_append]
    · rw [if_neg (show ¬ (i : Int) < (headD g bs).f_parts from c), if_neg c]
      decide
  rw [key, key]
theorem ScX.rd {Y : DK} {gr t1 t2 : Int} {bs : List Int} (K : ScX Y gr t1 t2 bs) {a : Int} (a0 : 0 ≤ a) (a1 : a < 1024) : (readD Y a).2 = 0 ∧ (readD Y a).1.drop 8 = if a < 512 then (padB (newS (headD 0 bs) bs (a % 256).toNat)).drop 8 else zS.drop 8 := by
  have h1 : ∀ (t : Int) (g : Int), (∀ j : Nat, j < 256 → readD Y (t * 256 + j) = (padB (newS (headD g bs) bs j), 0)) → (t = 0 ∧ a < 256 ∨ t = 1 ∧ 256 ≤ a ∧ a < 512) → (readD Y a).2 = 0 ∧ (readD Y a).1.drop 8 = (padB (newS (headD 0 bs) bs (a % 256).toNat)).drop 8 := fun t g hh ht => by
    have := hh (a % 256).toNat (by omega)
    rw [show t * 256 + (((a % 256).toNat : Nat) : Int) = a from by omega] at this
    rw [this]
    exact ⟨rfl, sec_same⟩
  by_cases q : a < 512
  · rw [if_pos q]
    rcases K.t with ⟨e1, e2⟩ | ⟨e1, e2⟩
    · by_cases q2 : a < 256
      · exact h1 t1 _ K.one (.inl ⟨e1, q2⟩)
      · exact h1 t2 _ K.two (.inr ⟨e2, by omega, q⟩)
    · by_cases q2 : a < 256
      · exact h1 t2 _ K.two (.inl ⟨e2, q2⟩)
      · exact h1 t1 _ K.one (.inr ⟨e1, by omega, q⟩)
  · rw [if_neg q, K.hi a (by omega) a1]
    exact ⟨rfl, rfl⟩
/-- what is told of all sectors -/
def RawL (X : DK) (l : List Int) : Prop := l.length = 131072 ∧ ∀ a : Nat, a < 1024 → seg l a = secB (vD X a)
theorem Raw_ok {B c : Nat} {h : Heap} {d rn rs : Nat} {X : DK} {k : Slc → Heap → Prop} (D : DAt B c h d rn rs X) (kn : KN X) (H : ∀ s h' l, s.len = 131072 → SlcAt h' s (b8 l) → RawL X l → Ext h.size h h' → k s h') : disk_Disk_Raw (some ⟨d, 0, none⟩) k h := by
  refine DRaw_ok D kn fun s h' l sl sc S ll some' none' E => H s h' l sl S ⟨ll, fun a ha => ?_⟩ E
  unfold vD
  cases hm : mget X.now (a : Int) with
  | none =>
    rw [none' a ha hm]
    show _ = secB zSec
    unfold secB
    rw [nrm_nil]
  | some x =>
    have := some' a x hm
    rw [Int.toNat_natCast] at this
    rw [this]; rfl
theorem raw_same {Y Y' : DK} {gr gr' t1 t2 t1' t2' : Int} {bs l l' : List Int} (K : ScX Y gr t1 t2 bs) (K' : ScX Y' gr' t1' t2' bs) (R : RawL Y l) (R' : RawL Y' l') {i : Nat} (hi : i < 131072) (h8 : 8 ≤ i % 128) : l[i]? = l'[i]? := by
  have ha : i / 128 < 1024 := by omega
  have e : ∀ {Z : DK} {m : List Int} {g u1 u2 : Int}, ScX Z g u1 u2 bs → RawL Z m → m[i]? = (if ((i / 128 : Nat) : Int) < 512 then (padB (newS (headD 0 bs) bs (((i / 128 : Nat) : Int) % 256).toNat)).drop 8 else zS.drop 8)[i % 128 - 8]? := fun {Z m g u1 u2} Q P => by
    obtain ⟨q1, q2⟩ := Q.rd (a := ((i / 128 : Nat) : Int)) (by omega) (by omega)
    have s1 := seg_get m (i / 128) (i % 128)
    rw [if_pos (Nat.mod_lt _ (by omega)), P.2 _ ha] at s1
    rw [show i / 128 * 128 + i % 128 = i from by omega] at s1
    rw [← s1, ← q2, List.getElem?_drop, show 8 + (i % 128 - 8) = i % 128 from by omega]
    have : (readD Z ((i / 128 : Nat) : Int)).1 = secB (vD Z ((i / 128 : Nat) : Int)) := by
      unfold readD at q1 ⊢
      rw [if_neg (by omega)] at q1 ⊢
      split at q1
      · cases q1
      · rename_i h1
        rw [if_neg h1]; rfl
    rw [this]
  rw [e K R, e K' R']
/-- what lives between the turns -/
structure JS (hb : Heap) (d rn rs pr sr : Nat) (i : Int) (h : Heap) (X : DK) (c : Nat) (slot : Int) : Prop where
  E : Ext hb.size hb h
  D : DAt hb.size c h d rn rs X
  P : PairAt h pr d 0 256
  S : ∃ fresh e n p, StAt h sr d pr fresh e n p
  g : GoodX X
  sf : X.safe = []
  fu : X.fuse = 0
  dd : X.dead = false
  kn : KN X
  gr : grD X 0 512 ≤ i
  b : BP X 0 256 slot
  sb : hb.size ≤ sr
/-- a record is appended where nothing cuts -/
theorem AppF_ok {hb h : Heap} {B c d rn rs pr sr : Nat} {X : DK} {e n p : Int} {s : Slc} {bs : List Int} {k : Int → Heap → Prop} (D : DAt B c h d rn rs X) (P : PairAt h pr d 0 256) (S : StAt h sr d pr true e n p) (g : GoodX X) (sf : X.safe = []) (fu : X.fuse = 0) (dd : X.dead = false) (kn : KN X) (e0 : 0 ≤ e) (n0 : 0 ≤ n ∧ n < 1000) (p0 : 512 ≤ p ∧ p ≤ 1000)
    (hs : ∀ h', JF d rn rs sr h h' → SlcAt h' s (b8 bs)) (sl : s.len = bs.length) (sc : s.len ≤ s.cap) (bl : bs.length ≤ 300) (bB : isB bs)
    (H : ∀ Y c' h', GoodX Y → Y.safe = [] → Y.fuse = 0 → Y.dead = false → KN Y → (∀ a, a < 512 → vD Y a = vD X a) → DAt B c' h' d rn rs Y → PairAt h' pr d 0 256 → JF d rn rs sr h h' → StAt h' sr d pr true e (n + 1) (p + jprtD bs.length) → k 0 h') : journal_Store_Append (some ⟨sr, 0, none⟩) s k h := by
  have j3 := jp3 bl
  refine Append_ok (bs := bs) D S e0 (by omega) (by omega) hs sl sc (by omega) (by omega) fun c' h8 Y r' e8 c8 D8 F8 S8 _ => ?_
  obtain ⟨q1, q2, q3, q4, q5⟩ := wrD_free (X := X) (g := recS e n bs) (N := (jprtD bs.length).toNat) (p := p) (fun n => recS_le _ _ _ _) dd fu sf (by omega) (by omega)
  have kY := kn.wrD p (recS e n bs) (jprtD bs.length).toNat
  rw [← e8] at q1 q2 q3 q4 q5 kY
  dsimp only at q1 q2 q3 q4 q5 kY
  subst q1
  refine H Y c' h8 (good_of q4 fun a => ?_) q4 q3 q2 kY (fun a ha => ?_) D8 (P.jf D S F8) F8 (S8 rfl)
  · rcases q5.now a with h | ⟨j, h1, h2⟩
    · rw [h]; exact g.1 a
    · rw [h2, q5.all j h1]; exact gV_B (recS_le _ _ _ _) (recS_B bB)
  · rcases q5.now a with h | ⟨j, h1, h2⟩
    · exact h
    · omega
theorem ScrubsL_ok {hb : Heap} {p0 p1 : Slc} {bss : List (List Int)} {ys : List Slc} {zs : List Int} {k : Bool → Heap → Prop} (r : R0 hb) (R : Rws hb p0 bss ys) (F1 : SlcAt hb p1 (b8 zs)) (l1 : p1.len = zs.length) (c1 : p1.len ≤ p1.cap) (b1 : isB zs)
    (H : ∀ h', Ext hb.size hb h' → k true h') : law11_JournalScrubs p0 p1 k hb := by
  have r0 := r.pos
  have aw : ∀ {k' : Bool → Heap → Prop}, (∀ h', Ext hb.size hb h' → k' true h') → ∀ h', Ext hb.size hb h' → law11_awake (fun r5 h6 => k' r5 h6) h' := fun {k'} Hk h' X => awake11_ok (r.ext X r0) fun h2 X2 => Hk h2 (X.trans (X2.mono X.size))
  unfold law11_JournalScrubs
  by_cases sz : p0.len ≤ 5 ∧ p1.len ≤ 300
  rotate_left
  · rw [if_pos (by simp only [Bool.or_eq_true, decide_eq_true_eq]; omega)]
    exact aw H hb (Ext.refl _ _)
  rw [if_neg (by simp only [Bool.or_eq_true, decide_eq_true_eq]; omega)]
  refine DNew_ok (B := hb.size) (Nat.le_refl _) fun d rn rs h2 D2 X2 => ?_
  refine JOpen_ok fun pr sr h4 P4 S4 X4 pB sB => ?_
  have z2 := X2.size
  have D4 := D2.ext X4
  have X04 := X2.trans (X4.mono X2.size)
  unfold law11_JournalScrubs_l1
  refine ⟨fun j h' => 0 ≤ j ∧ j ≤ p0.len ∧ ∃ X c slot, JS hb d rn rs pr sr j h' X c slot, fun j _ => ((p0.len : Int) - j).toNat, ⟨by omega, by omega, J0, 0, -1, X04, D4, P4, ⟨_, _, _, _, S4⟩, gJ0, rfl, rfl, rfl, fun p hp => (by cases hp), by rw [grJ0]; omega, bpJ0, by omega⟩, ?_⟩
  rintro j h ⟨j0, j1, X, c, slot, J⟩
  obtain ⟨fresh, e, n, p, S⟩ := J.S
  have gn := gr_nn J.g 0 512
  have gl := J.gr
  have zh := J.E.size
  unfold law11_JournalScrubs_l1b
  by_cases cj : j < p0.len
  · rw [if_pos (by rw [decide_eq_true_eq]; exact cj)]
    obtain ⟨y, bs, a, ey, eb, ha, hc, Sy, yl, yc, bB⟩ := R.get j0 cj
    refine ⟨a, ha, j0, cj, y, J.E.cellAt hc, ?_⟩
    by_cases q : (y.len : Int) > 300
    · rw [if_pos (by rw [decide_eq_true_eq]; exact q)]
      exact aw H _ J.E
    rw [if_neg (by rw [decide_eq_true_eq]; exact q)]
    refine ⟨a, ha, j0, cj, y, J.E.cellAt hc, ?_⟩
    have pk : prtD bs.length ≤ 256 := by unfold prtD; split <;> omega
    refine JSave_ok (bs := bs) J.D J.P S (r.ext J.E r0) J.g (fun h' F' => Sy.ext (J.E.trans (F'.ext J.D J.sb J.E.size))) yl yc (by omega) fun rr Y c1' h5 L c1l D5 P5 F5 S5 _ => ?_
    rcases L with ⟨q, _⟩ | ⟨_, q, _⟩ | ⟨_, _, s', t, bp, et, el⟩
    · exfalso; omega
    · exfalso; rw [show ((2 : Int) * 256).toNat = 512 from rfl] at q; omega
    rw [show ((2 : Int) * 256).toNat = 512 from rfl, show toN 256 bs false = (prtD bs.length).toNat from by unfold toN; rw [if_neg (by simp)]] at el
    have kY : KN Y := by have := J.kn.layD (0 + t * 256) (headD (grD X 0 512) bs) bs (prtD bs.length).toNat; rw [← el] at this; exact this
    have w := wsJ_ok J.g J.sf J.dd J.fu bB (by omega) (by omega) bp et (Nat.le_refl _) (by omega) el
    have er : rr = (grD X 0 512 + 1, 0) := w.r
    subst er
    have S5' := S5 rfl
    dsimp only at S5' ⊢
    have E5 := J.E.trans (F5.ext J.D J.sb J.E.size)
    refine ⟨a, ha, j0, cj, y, E5.cellAt hc, ?_⟩
    refine AppF_ok (hb := hb) (bs := bs) D5 P5 S5' w.good w.safe w.fuse w.dead kY (by omega) (by omega) (by omega) (fun h' F' => Sy.ext (E5.trans (F'.ext D5 J.sb E5.size))) yl yc (by omega) bB fun Z c2 h6 gZ sZ fZ dZ kZ low D6 P6 F6 S6 => ?_
    rw [wrapI64 (by omega) (by omega)]
    obtain ⟨b1', b2', b3'⟩ := bp_loc (Z := Z) (X := Y) (fun p _ p1 => rd_cong (low p p1)) w.bp
    refine ⟨_, rfl, ⟨by omega, by omega, Z, c2, t, E5.trans (F6.ext D5 J.sb E5.size), D6, P6, ⟨_, _, _, _, S6⟩, gZ, sZ, fZ, dZ, kZ, by rw [b3', w.gr]; omega, b1', J.sb⟩, by omega⟩
  rw [if_neg (by rw [decide_eq_true_eq]; exact cj)]
  refine Scrub_ok (bs := zs) J.D J.P S (r.ext J.E r0) J.g J.dd J.fu J.sf J.kn J.b (by omega) b1 (fun h' F' => F1.ext (J.E.trans (F'.ext J.D J.sb J.E.size))) l1 c1 (by omega) ⟨by omega, J.sb, J.E.size, r0⟩ fun Y c2 h5 t1 t2 K D5 P5 F5 S5 => ?_
  have E5 := J.E.trans (F5.ext J.D J.sb J.E.size)
  rw [if_neg (by simp)]
  -- the other disk
  refine DNew_ok (B := h5.size) (Nat.le_refl _) fun d' rn' rs' h6 D6 X6 => ?_
  refine JOpen_ok fun pr' sr' h7 P7 S7 X7 pB' sB' => ?_
  have z5 := E5.size
  have z6 := X6.size
  have z7 := X7.size
  have D7 := D6.ext X7
  have X57 : Ext h5.size h5 h7 := X6.trans (X7.mono X6.size)
  have E7 := E5.trans (X57.mono E5.size)
  refine Scrub_ok (bs := zs) D7 P7 S7 (r.ext E7 r0) gJ0 rfl rfl rfl (fun p hp => by cases hp) bpJ0 (by rw [grJ0]; omega) b1 (fun h' F' => F1.ext (E7.trans ((F'.ext D7 (by omega) (by omega)).mono E5.size))) l1 c1 (by omega) ⟨by omega, by omega, by omega, by omega⟩ fun Y' c3 h8 u1 u2 K' D8 P8 F8 S8 => ?_
  have X58 : Ext h5.size h5 h8 := X57.trans (F8.ext D7 (by omega) (by omega))
  have D58 := D5.ext X58
  have E8 := E5.trans (X58.mono E5.size)
  refine Raw_ok D58 K.kn fun sa h9 la sal Sa Ra X9 => ?_
  have D9 := D8.ext X9
  have z8 := X58.size
  refine Raw_ok D9 K'.kn fun sc h10 lc scl Sc Rc X10 => ?_
  have Sa10 := Sa.ext X10
  have z9 := X9.size
  have X510 : Ext h5.size h5 h10 := X58.trans ((X9.mono z8).trans (X10.mono (by omega)))
  have E10 := E5.trans (X510.mono E5.size)
  have D10 := D5.ext X510
  have P10 : PairAt h10 pr d 0 256 := Blk.ext P5 X510 P5.lt
  have S10 : StAt h10 sr d pr true (grD X 0 512 + 2) 0 512 := Blk.ext S5 X510 S5.lt
  unfold law11_JournalScrubs_l2
  refine ⟨fun i h' => 0 ≤ i ∧ i ≤ 131072 ∧ h' = h10, fun i _ => (131072 - i).toNat, ⟨by omega, by omega, rfl⟩, ?_⟩
  rintro i h' ⟨i0, i1, eh⟩
  subst h'
  unfold law11_JournalScrubs_l2b
  rw [sal, scl]
  by_cases ci : i < 131072
  · rw [if_pos (by rw [decide_eq_true_eq]; exact ci)]
    have nx : law11_JournalScrubs_j3 p1 (some ⟨sr, 0, none⟩) sa sc i k (fun s h' => (0 ≤ s ∧ s ≤ (p0.len : Int) ∧ ∃ X c slot, JS hb d rn rs pr sr s h' X c slot) ∧ ((p0.len : Int) - s).toNat < ((p0.len : Int) - j).toNat) (fun s h' => (0 ≤ s ∧ s ≤ 131072 ∧ h' = h10) ∧ (131072 - s).toNat < (131072 - i).toNat) h10 := by
      unfold law11_JournalScrubs_j3
      rw [wrapI64 (by omega) (by omega)]
      exact ⟨_, rfl, ⟨by omega, by omega, rfl⟩, by omega⟩
    have em : Int.tmod i 128 = ((i.toNat % 128 : Nat) : Int) := by rw [Int.tmod_eq_emod_of_nonneg i0]; omega
    rw [em]
    by_cases q : 8 ≤ i.toNat % 128
    · rw [if_pos (by rw [decide_eq_true_eq]; omega)]
      have same := raw_same K K' Ra Rc (i := i.toNat) (by omega) q
      have ea := List.getElem?_eq_getElem (l := la) (i := i.toNat) (by have := Ra.1; omega)
      have ec := List.getElem?_eq_getElem (l := lc) (i := i.toNat) (by have := Rc.1; omega)
      rw [ea, ec] at same
      have same' := Option.some.inj same
      obtain ⟨a1, ha1, hc1⟩ := slc_get Sa10 (i := i.toNat) (v := .int .u8 (la[i.toNat]'(by have := Ra.1; omega))) (by rw [List.getElem?_map, ea]; rfl)
      obtain ⟨a2, ha2, hc2⟩ := slc_get Sc (i := i.toNat) (v := .int .u8 (lc[i.toNat]'(by have := Rc.1; omega))) (by rw [List.getElem?_map, ec]; rfl)
      refine ⟨a1, ha1, i0, by omega, _, by rw [Nat.mul_one]; exact hc1, a2, ha2, i0, by omega, _, by rw [Nat.mul_one]; exact hc2, ?_⟩
      unfold law11_JournalScrubs_g4
      rw [same', if_neg (by simp)]
      exact nx
    · rw [if_neg (by rw [decide_eq_true_eq]; omega)]
      unfold law11_JournalScrubs_g4
      rw [if_neg (by simp)]
      exact nx
  rw [if_neg (by rw [decide_eq_true_eq]; exact ci)]
  refine AppF_ok (hb := hb) (bs := zs) D10 P10 S10 K.g K.sf K.fu K.dd K.kn (by omega) (by omega) (by omega) (fun h' F' => F1.ext (E10.trans (F'.ext D10 J.sb E10.size))) l1 c1 (by omega) b1 fun Z c4 h11 _ _ _ _ _ _ _ _ F11 _ => ?_
  rw [if_pos (by simp)]
  have E11 := E10.trans (F11.ext D10 J.sb E10.size)
  refine aw (k' := fun r44 h45 => law11_JournalScrubs_g6 r44 k _ _ h45) (fun h' X' => ?_) h11 E11
  unfold law11_JournalScrubs_g6
  exact H h' X'
end Go.Q.Yf
