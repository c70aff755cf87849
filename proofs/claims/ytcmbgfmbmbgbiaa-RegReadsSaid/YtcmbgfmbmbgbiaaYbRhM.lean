/- A part of the proof of statements of this seat: lemmas, no statement of their own. -/
import Derived.Test.YtcmbgfmbmbgbiaaYbRhL
set_option linter.unusedVariables false
set_option linter.unusedSimpArgs false
namespace Go.Q.Yb
def regF (A : AG) : List Int := shortL A.length ++ A.flatMap tenF
def Wf (p : ByteArray × AT) : Prop := i64r p.2.1 ∧ ∀ a ∈ p.2.2.2, 0 ≤ a.1 ∧ a.1 < 4294967296
theorem Good.wf {p : ByteArray × AT} (g : Good p) : Wf p := ⟨g.2.1, fun a ha => by
  obtain ⟨⟨b, b1, b2, hb⟩, _⟩ := g.2.2.2
  obtain ⟨i, hi⟩ := List.getElem?_of_mem ha
  have := hb i a hi
  have := (List.getElem?_eq_some_iff.1 hi).1
  omega⟩
section
variable {h0 h : Heap} {B b7 : Nat} {q : TZ} {pre : List Int} {s : Slc} {k : Slc → Heap → Prop} {nx1 : Slc × Int → Heap → Prop} {t15 : Slc} {t16 t17 : Int}
theorem BKeys_ok (R : Row B h 5 1 s (b8 pre)) (hB : B ≤ h.size) (K : KAt h0 q.1.f_Keys q.2) (X : Ext h0.size h0 h) (h0B : h0.size ≤ B) (kn : q.2.length ≤ 1000) (pl : pre.length ≤ 10000000) (W : ∀ a ∈ q.2.map absK, 0 ≤ a.1 ∧ a.1 < 4294967296)
    (H : ∀ s' h', Row B h' 5 1 s' (b8 (pre ++ (q.2.map absK).flatMap keyF)) → Ext B h h' → nx1 (s', IntKind.i64.wrap (t17 + 1)) h') : reg_Reg_Bytes_l3 t15 t16 t17 q.1.f_Keys (q.1.f_Keys.len : Int) s 0 k nx1 h := by
  have al := K.len
  unfold reg_Reg_Bytes_l3
  refine ⟨fun st h' => 0 ≤ st.2 ∧ st.2 ≤ q.2.length ∧ Row B h' 5 1 st.1 (b8 (pre ++ ((q.2.take st.2.toNat).map absK).flatMap keyF)) ∧ (pre ++ ((q.2.take st.2.toNat).map absK).flatMap keyF).length = pre.length + st.2.toNat * 64 ∧ Ext B h h', fun st _ => (q.2.length - st.2).toNat,
    ⟨by simp, by simp, by simpa using R, by simp, Ext.refl _ _⟩, ?_⟩
  rintro s1 j h1 ⟨j0, j1, R1, L1, X1⟩
  dsimp only at j0 j1 R1 L1
  have z1 := X1.size
  have L1' := L1
  rw [List.length_append] at L1'
  unfold reg_Reg_Bytes_l3b
  by_cases hj : j < q.2.length
  · rw [if_pos (by rw [decide_eq_true_eq]; omega)]
    have hx : q.2[j.toNat]? = some (q.2[j.toNat]'(by omega)) := by simp
    have W' := W (absK (q.2[j.toNat]'(by omega))) (List.mem_map.2 ⟨_, List.getElem_mem _, rfl⟩)
    generalize q.2[j.toNat]'(by omega) = z at *
    have X01 : Ext h0.size h0 h1 := X.trans (X1.mono h0B)
    obtain ⟨a, ha, C⟩ := (K.ext X01).1.at' j.toNat z.1 (by rw [List.getElem?_map, hx]; rfl)
    obtain ⟨zS, zl, zB, z48⟩ := K.2 z (List.mem_of_getElem? hx)
    refine ⟨a, ha, j0, by omega, z.1, C, _, _, rfl, rfl, ?_⟩
    have T := Blk.push h1 (S_api_Wrapped.cs zW) 132
    have T2 := T.sets_all (vs := S_api_Wrapped.cs z.1) rfl
    have W5 := (Ext.push h1 (.cells (S_api_Wrapped.cs zW).toArray 132) (Nat.le_refl _)).trans (Ext.sets _ (a := ⟨h1.size, 0, none⟩) 0 (S_api_Wrapped.cs z.1) (Nat.le_refl _))
    refine ⟨_, WrsAt.of_blk T (by rw [wcs_len]; omega), rfl, ?_⟩
    show ∃ v31, cellH (setsH (h1.push (.cells (S_api_Wrapped.cs zW).toArray 132)) ⟨h1.size, 0, none⟩ 0 (S_api_Wrapped.cs z.1)) _ = _ ∧ _
    generalize setsH (h1.push (.cells (S_api_Wrapped.cs zW).toArray 132)) ⟨h1.size, 0, none⟩ 0 (S_api_Wrapped.cs z.1) = h5 at *
    have z5 := W5.size
    have t5 := T2.lt
    have R5 := R1.ext W5 fun g hg => (R1.bd hg).2
    have cB : ∀ {h'}, Blk h' h1.size (S_api_Wrapped.cs z.1) 132 → cellH h' ((⟨h1.size, 0, none⟩ : Addr).add 13) = some (Slc.v z.1.f_B) := fun K => by rw [add_mk, K.cell]; rfl
    have e1 : z.1.f_Epoch = (absK z).1 := rfl
    refine ⟨z.1.f_Epoch, by rw [T2.cell]; rfl, _, by omega, by omega, by omega, rfl, z.1.f_B, cB T2, ?_⟩
    rw [wrapU64 (by omega) (by omega)]
    have es : subS ⟨some ((⟨h1.size, 0, none⟩ : Addr).add 1), 12, 12⟩ 1 (0 : Int).toNat (12 : Int).toNat 12 = ⟨some ⟨h1.size, 1, none⟩, 12, 12⟩ := by simp [subS]
    rw [es]
    refine Put_ok R5.pb R5.slc (by omega) (by omega) (by omega) (by omega) fun s6 h6 R6 X6 => ?_
    have z6 := X6.size
    have T6 := T2.ext X6 T2.lt
    refine ⟨cB T6, b8 (nrm 12 z.1.f_Nonce), ?_, AppB R6 z6 (by rw [nrm_len]) (by simp only [List.length_append, formL_length, nrm_len]; omega) fun s7 h7 R7 X7 => ?_⟩
    · have e : b8 (nrm 12 z.1.f_Nonce) = arr 12 .u8 z.1.f_Nonce := (arr_nrm _ _ _).symm
      rw [e]
      exact T6.slc (o := 1) (n := 12) rfl
    have z7 := X7.size
    have T7 := T6.ext X7 (by omega)
    have X17 : Ext h1.size h1 h7 := W5.trans ((X6.mono z5).trans (X7.mono z5))
    refine ⟨cB T7, b8 z.2, (zS.ext (X01.trans (X17.mono (by omega)))), AppB R7 (by omega) zl (by simp only [List.length_append, formL_length, nrm_len]; omega) fun s8 h8 R8 X8 => ?_⟩
    have z8 := X8.size
    have X18 : Ext h1.size h1 h8 := X17.trans (X8.mono z5)
    rw [wrapI64 (by omega) (by omega)]
    have et : (q.2.take (j + 1).toNat).map absK = (q.2.take j.toNat).map absK ++ [absK z] := by
      rw [show (j + 1).toNat = j.toNat + 1 from by omega, List.take_add_one, hx, List.map_append]; rfl
    have el : pre ++ ((q.2.take (j + 1).toNat).map absK).flatMap keyF = (((pre ++ ((q.2.take j.toNat).map absK).flatMap keyF) ++ formL z.1.f_Epoch (4 : Int).toNat) ++ nrm 12 z.1.f_Nonce) ++ z.2 := by
      rw [et, List.flatMap_append]
      simp [keyF, absK]
    refine ⟨⟨by dsimp only; omega, by dsimp only; omega, by dsimp only; rw [el]; exact R8.mono (by omega), ?_, X1.trans (X18.mono (by omega))⟩, by dsimp only; omega⟩
    dsimp only
    rw [el]
    simp only [List.length_append, formL_length, nrm_len] at L1 ⊢
    have : (4 : Int).toNat = 4 := rfl
    omega
  · rw [if_neg (by rw [decide_eq_true_eq]; omega)]
    rw [List.take_of_length_le (by omega)] at R1
    exact H s1 h1 R1 X1
theorem Bj2_ok (R : Row B h 5 1 s (b8 pre)) (hB : B ≤ h.size) (T : Blk h b7 (S_api_Tenant.cs q.1) 130) (b7B : b7 < B) (K : KAt h0 q.1.f_Keys q.2) (X : Ext h0.size h0 h) (h0B : h0.size ≤ B) (kn : q.2.length ≤ 1000) (pl : pre.length ≤ 9000000) (W : Wf (q.1.f_Name, absT q))
    (H : ∀ s' h', Row B h' 5 1 s' (b8 (pre ++ (formL (zigN q.1.f_Horizon) 8 ++ (shortL q.2.length ++ (q.2.map absK).flatMap keyF)))) → Ext B h h' → nx1 (s', IntKind.i64.wrap (t17 + 1)) h') : reg_Reg_Bytes_j2 s ⟨b7, 0, none⟩ t15 t16 t17 k nx1 h := by
  have al := K.len
  have W1 : i64r q.1.f_Horizon := W.1
  unfold reg_Reg_Bytes_j2
  have c1 : ∀ {h'}, Blk h' b7 (S_api_Tenant.cs q.1) 130 → cellH h' ((⟨b7, 0, none⟩ : Addr).add 1) = some (Slc.v q.1.f_Keys) := fun K => by rw [add_mk, K.cell]; rfl
  refine ⟨q.1.f_Horizon, by rw [add_mk, T.cell]; rfl, Zig_ok W1.1 W1.2 ?_⟩
  have zb := zigN_bd W1.1 W1.2
  refine Put_ok R.pb R.slc (by omega) (by omega) (by omega) zb.1 fun s2 h2 R2 X2 => ?_
  have z2 := X2.size
  have T2 := T.ext X2 T.lt
  refine ⟨_, c1 T2, ?_⟩
  rw [wrapU64 (by omega) (by omega), al]
  refine PutShort_ok R2.pb R2.slc (by simp only [List.length_append, formL_length]; omega) (by omega) (by omega) fun s3 h3 R3 X3 => ?_
  have z3 := X3.size
  have T3 := T2.ext X3 T2.lt
  refine ⟨_, c1 T3, ?_⟩
  have sl := shortL_len q.2.length
  have X03 := X.trans ((X2.trans (X3.mono z2)).mono (by omega))
  refine BKeys_ok (h0 := h0) (R3.mono (show B ≤ h2.size by omega)) (by omega) K X03 h0B kn (by simp only [List.length_append, formL_length]; omega) W.2 fun s4 h4 R4 X4 => ?_
  refine H s4 h4 ?_ ((X2.mono hB).trans ((X3.mono (by omega)).trans X4))
  have e : (8 : Int).toNat = 8 := rfl
  rw [e] at R4
  simpa only [List.append_assoc] using R4
end
section
variable {b : Nat} {h : Heap} {r m : Nat} {L : List (ByteArray × TZ)} {k : Slc → Heap → Prop}
theorem tenF_le {p : ByteArray × AT} {q : TZ} (e : p = (q.1.f_Name, absT q)) (hn : q.1.f_Name.size ≤ 100000) (hk : q.2.length ≤ 1000) (h48 : ∀ z ∈ q.2, z.2.length = 48) : (tenF p).length ≤ 170000 := by
  subst e
  unfold tenF
  simp only [List.length_append, formL_length]
  have h1 := textL_len q.1.f_Name
  have h2 := shortL_len (absT q).2.2.length
  have h3 : ((absT q).2.2.flatMap keyF).length = q.2.length * 64 := by
    rw [keysF_len]
    · show (q.2.map absK).length * 64 = _
      rw [List.length_map]
    · intro x hx
      obtain ⟨z, hz, rfl⟩ := List.mem_map.1 (show x ∈ q.2.map absK from hx)
      exact ⟨nrm_len _ _, h48 z hz⟩
  omega
theorem Bytes_ok (R : RegAt b h r m L) (nm : ∀ p ∈ L, p.1.size ≤ 100000) (W : ∀ p ∈ tenL (absL L), Wf p) (H : ∀ s h', Row h.size h' 5 1 s (b8 (regF (tenL (absL L)))) → Ext h.size h h' → k s h') : reg_Reg_Bytes (some ⟨r, 0, none⟩) k h := by
  have hn := R.n
  have tn : (tenL (absL L)).length = L.length := by rw [tenL_len, absL_len]
  have nmT : ∀ p ∈ tenL (absL L), p.1.size ≤ 100000 ∧ p.2.2.2.length ≤ 1000 := fun p hp => by
    have h1 := tenL_mem hp
    rw [absL_get] at h1
    cases hg : mget L p.1 with
    | none => rw [hg] at h1; cases h1
    | some q =>
      rw [hg] at h1
      have h2 := Option.some.inj h1
      have hm := mget_mem hg
      obtain ⟨_, _, h3⟩ := R.T _ hm
      have h4 := R.hb
      refine ⟨nm _ hm, ?_⟩
      rw [← h2]
      show (q.2.map absK).length ≤ _
      rw [List.length_map]; simp only at h3; omega
  unfold reg_Reg_Bytes
  refine Tenants_ok R nm fun st h2 T X2 => ?_
  have z2 := X2.size
  generalize tenL (absL L) = ts at *
  have sl := T.len
  rw [wrapU64 (by omega) (by omega), sl]
  refine PutShort_ok (l := []) rfl ⟨fun _ => rfl, fun a ha => by cases ha⟩ (by simp) (by omega) (by omega) fun s3 h3 R3 X3 => ?_
  have z3 := X3.size
  rw [List.nil_append] at R3
  have sl10 := shortL_len ts.length
  unfold reg_Reg_Bytes_l1
  refine ⟨fun q h' => 0 ≤ q.2 ∧ q.2 ≤ ts.length ∧ Row h2.size h' 5 1 q.1 (b8 (shortL ts.length ++ (ts.take q.2.toNat).flatMap tenF)) ∧ (shortL ts.length ++ (ts.take q.2.toNat).flatMap tenF).length ≤ 10 + q.2.toNat * 170000 ∧ Ext h2.size h2 h', fun q _ => (ts.length - q.2).toNat,
    ⟨by simp, by simp, by simpa using R3, by simpa using sl10, X3⟩, ?_⟩
  rintro s i h4 ⟨i0, i1, R4, L4, X4⟩
  dsimp only at i0 i1 R4 L4
  have z4 := X4.size
  unfold reg_Reg_Bytes_l1b
  by_cases hi : i < ts.length
  · rw [if_pos (by rw [decide_eq_true_eq]; omega)]
    have hy : ts[i.toNat]? = some (ts[i.toNat]'(by omega)) := by simp
    have hym := List.mem_of_getElem? hy
    generalize ts[i.toNat]'(by omega) = y at *
    obtain ⟨q, a, ha, C, K, eq⟩ := T.at hy
    have Cx := C.ext X4
    obtain ⟨yn, yk⟩ := nmT y hym
    have Wy := W y hym
    have qn : q.1.f_Name.size ≤ 100000 := by rw [eq] at yn; exact yn
    have qk : q.2.length ≤ 1000 := by
      rw [eq] at yk
      have : (absT q).2.2.length = q.2.length := by simp [absT]
      dsimp only at yk; omega
    have y17 := tenF_le eq qn qk fun z hz => (K.2 z hz).2.2.2
    refine ⟨a, ha, i0, by omega, q.1, Cx, _, _, rfl, rfl, ?_⟩
    have P := Blk.push h4 (S_api_Tenant.cs zT) 130
    have P2 := P.sets_all (vs := S_api_Tenant.cs q.1) rfl
    have W5 := (Ext.push h4 (.cells (S_api_Tenant.cs zT).toArray 130) (Nat.le_refl _)).trans (Ext.sets _ (a := ⟨h4.size, 0, none⟩) 0 (S_api_Tenant.cs q.1) (Nat.le_refl _))
    refine ⟨_, WrsAt.of_blk P (by rw [tcs_len]; omega), rfl, ?_⟩
    show ∃ v10, cellH (setsH (h4.push (.cells (S_api_Tenant.cs zT).toArray 130)) ⟨h4.size, 0, none⟩ 0 (S_api_Tenant.cs q.1)) _ = _ ∧ _
    generalize setsH (h4.push (.cells (S_api_Tenant.cs zT).toArray 130)) ⟨h4.size, 0, none⟩ 0 (S_api_Tenant.cs q.1) = h5 at *
    have z5 := W5.size
    have p5 := P2.lt
    have R5 := R4.ext W5 fun g hg => (R4.bd hg).2
    refine ⟨q.1.f_Name, by rw [P2.cell]; rfl, rtext_ok' R5.pb R5.slc (by omega) (by omega) fun s6 h6 R6 X6 => ?_⟩
    have z6 := X6.size
    have P6 := P2.ext X6 P2.lt
    refine ⟨_, _, rfl, rfl, ?_⟩
    have W7 := Ext.push h6 (.cells ([.int .u8 0] : List Value).toArray 5) (Nat.le_refl _)
    have R7 := R6.pushed (.cells ([.int .u8 0] : List Value).toArray 5)
    generalize h6.push (.cells ([.int .u8 0] : List Value).toArray 5) = h7 at *
    have z7 := W7.size
    have P7 := P6.ext W7 P6.lt
    have tl := textL_len q.1.f_Name
    have LL : ((shortL ts.length ++ (ts.take i.toNat).flatMap tenF) ++ textL q.1.f_Name).length ≤ 10 + i.toNat * 170000 + 10 + q.1.f_Name.size := by rw [List.length_append]; omega
    have i8 : i.toNat ≤ 8 := by omega
    refine AppB (m := [0]) R7 (by omega) rfl (by simp only [List.length_cons, List.length_nil]; omega) fun s8 h8 R8 X8 => ?_
    have z8 := X8.size
    have P8 := P7.ext X8 (by omega)
    have X58 : Ext h5.size h5 h8 := (X6.trans (W7.mono z6)).trans X8
    have X48 : Ext h4.size h4 h8 := W5.trans (X58.mono z5)
    have X28 : Ext h2.size h2 h8 := X4.trans (X48.mono z4)
    refine ⟨q.1.f_Shredded, by rw [add_mk, P8.cell]; rfl, ?_⟩
    -- what follows
    have go : ∀ (f : Int) (h9 : Heap), (f = if q.1.f_Shredded = true then 1 else 0) → Row h5.size h9 5 1 s8 (b8 (((shortL ts.length ++ (ts.take i.toNat).flatMap tenF) ++ textL q.1.f_Name) ++ [f])) → Blk h9 h4.size (S_api_Tenant.cs q.1) 130 → Ext h5.size h5 h9 → reg_Reg_Bytes_j2 s8 ⟨h4.size, 0, none⟩ st (ts.length : Int) i k (fun s h' => (0 ≤ s.2 ∧ s.2 ≤ (ts.length : Int) ∧ Row h2.size h' 5 1 s.1 (b8 (shortL ts.length ++ (ts.take s.2.toNat).flatMap tenF)) ∧ (shortL ts.length ++ (ts.take s.2.toNat).flatMap tenF).length ≤ 10 + s.2.toNat * 170000 ∧ Ext h2.size h2 h') ∧ ((ts.length : Int) - s.2).toNat < ((ts.length : Int) - i).toNat) h9 := fun f h9 hf R9 P9 X9 => by
      have z9 := X9.size
      have X29 : Ext h2.size h2 h9 := X4.trans ((W5.trans (X9.mono z5)).mono z4)
      refine Bj2_ok (h0 := h2) R9 z9 P9 (by omega) K X29 (by omega) qk (by rw [List.length_append, List.length_singleton]; omega) (by rw [← eq]; exact Wy) fun s10 h10 R10 X10 => ?_
      rw [wrapI64 (by omega) (by omega)]
      have et : ts.take (i + 1).toNat = ts.take i.toNat ++ [y] := by
        rw [show (i + 1).toNat = i.toNat + 1 from by omega, List.take_add_one, hy]; rfl
      have ef : formL (if (q.1.f_Shredded = true) then 1 else 0) 1 = [f] := by
        rw [hf]; cases q.1.f_Shredded <;> rfl
      have el : shortL ts.length ++ (ts.take (i + 1).toNat).flatMap tenF = (((shortL ts.length ++ (ts.take i.toNat).flatMap tenF) ++ textL q.1.f_Name) ++ [f]) ++ (formL (zigN q.1.f_Horizon) 8 ++ (shortL q.2.length ++ (q.2.map absK).flatMap keyF)) := by
        rw [et, List.flatMap_append, List.flatMap_singleton]
        have ey : tenF y = textL q.1.f_Name ++ (formL (if (q.1.f_Shredded = true) then 1 else 0) 1 ++ (formL (zigN q.1.f_Horizon) 8 ++ (shortL (q.2.map absK).length ++ (q.2.map absK).flatMap keyF))) := by rw [eq]; rfl
        rw [ey, ef, List.length_map]
        simp only [List.append_assoc]
      refine ⟨⟨by dsimp only; omega, by dsimp only; omega, by dsimp only; rw [el]; exact R10.mono (by omega), ?_, X29.trans (X10.mono (by omega))⟩, by dsimp only; omega⟩
      dsimp only
      rw [et, List.flatMap_append, List.flatMap_singleton, ← List.append_assoc, List.length_append, show (i + 1).toNat = i.toNat + 1 from by omega]
      omega
    cases hs : q.1.f_Shredded with
    | false =>
      rw [if_neg (by simp)]
      exact go 0 h8 (by rw [hs]; rfl) R8 P8 X58
    | true =>
      rw [if_pos rfl]
      have sl8 := R8.pb
      have ln : (((shortL ts.length ++ (ts.take i.toNat).flatMap tenF) ++ textL q.1.f_Name) ++ [(0 : Int)]).length = ((shortL ts.length ++ (ts.take i.toNat).flatMap tenF) ++ textL q.1.f_Name).length + 1 := by rw [List.length_append]; rfl
      rw [ln] at sl8
      rcases R8.2.2 with ⟨a0, a2, _⟩ | ⟨g, cur, a1, _⟩
      · omega
      refine ⟨_, a1, ?_⟩
      rw [wrapI64 (x := (s8.len : Int) - 1) (by omega) (by omega)]
      obtain ⟨wr, R9, g9⟩ := R8.setc (v := .int .u8 1) a1 (j := ((s8.len : Int) - 1).toNat) (by omega)
      refine ⟨by omega, by omega, _, by rw [add_mk, Nat.zero_add, Nat.mul_one]; exact wr, rfl, ?_⟩
      rw [add_mk, Nat.zero_add, Nat.mul_one]
      refine go 1 _ (by rw [hs]; rfl) ?_ (P8.old (setH_other (by dsimp only; omega))) (X58.trans (Ext.set _ _ g9))
      have : (b8 (((shortL ts.length ++ (ts.take i.toNat).flatMap tenF) ++ textL q.1.f_Name) ++ [(0 : Int)])).set ((s8.len : Int) - 1).toNat (.int .u8 1) = b8 (((shortL ts.length ++ (ts.take i.toNat).flatMap tenF) ++ textL q.1.f_Name) ++ [(1 : Int)]) := by
        unfold b8
        rw [List.map_append (l₂ := [(0 : Int)]), List.map_append (l₂ := [(1 : Int)]), List.set_append_right _ _ (by rw [List.length_map]; omega)]
        rw [show ((s8.len : Int) - 1).toNat - (List.map (Value.int .u8) ((shortL ts.length ++ (ts.take i.toNat).flatMap tenF) ++ textL q.1.f_Name)).length = 0 from by rw [List.length_map]; omega]
        rfl
      rw [this] at R9; exact R9
  · rw [if_neg (by rw [decide_eq_true_eq]; omega)]
    rw [List.take_of_length_le (by omega)] at R4
    exact H s h4 (R4.mono z2) (X2.trans (X4.mono z2))
end
end Go.Q.Yb
