/- A part of the proof of statements of this seat: lemmas, no statement of their own. -/
import Derived.Test.YtcmbgfmbmbgbiaaYbDkM
import Derived.Test.YtcmbgfmbmbgbiaaQRng
set_option linter.unusedVariables false
set_option linter.unusedSimpArgs false
namespace Go.Q.Yb
/-! ### all sectors' bytes -/
def seg (l : List Int) (a : Nat) : List Int := (l.drop (a * 128)).take 128
def segPut (l : List Int) (a : Nat) (v : List Int) : List Int := l.take (a * 128) ++ v ++ l.drop (a * 128 + 128)
theorem seg_get (l : List Int) (a i : Nat) : (seg l a)[i]? = if i < 128 then l[a * 128 + i]? else none := by
  unfold seg
  rw [List.getElem?_take]
  split
  · rw [List.getElem?_drop]
  · rfl
theorem segPut_get {l v : List Int} {a : Nat} (hv : v.length = 128) (hl : a * 128 + 128 ≤ l.length) (j : Nat) : (segPut l a v)[j]? = if j < a * 128 then l[j]? else if j < a * 128 + 128 then v[j - a * 128]? else l[j]? := by
  have ht : (l.take (a * 128)).length = a * 128 := by rw [List.length_take]; omega
  unfold segPut
  by_cases h1 : j < a * 128
  · rw [if_pos h1, List.append_assoc, List.getElem?_append_left (by omega), List.getElem?_take, if_pos h1]
  · rw [if_neg h1]
    by_cases h2 : j < a * 128 + 128
    · rw [if_pos h2, List.append_assoc, List.getElem?_append_right (by omega), ht, List.getElem?_append_left (by omega)]
    · rw [if_neg h2, List.getElem?_append_right (by rw [List.length_append]; omega), List.length_append, ht, hv, List.getElem?_drop]
      rw [show a * 128 + 128 + (j - (a * 128 + 128)) = j from by omega]
theorem segPut_len {l v : List Int} {a : Nat} (hv : v.length = 128) (hl : a * 128 + 128 ≤ l.length) : (segPut l a v).length = l.length := by
  unfold segPut
  rw [List.length_append, List.length_append, List.length_take, List.length_drop]; omega
theorem seg_put {l v : List Int} {a b : Nat} (hv : v.length = 128) (hl : a * 128 + 128 ≤ l.length) : seg (segPut l a v) b = if b = a then v else seg l b := by
  apply List.ext_getElem?
  intro i
  rw [seg_get]
  by_cases hb : b = a
  · rw [if_pos hb, hb]
    by_cases hi : i < 128
    · rw [if_pos hi, segPut_get hv hl, if_neg (by omega), if_pos (by omega), show a * 128 + i - a * 128 = i from by omega]
    · rw [if_neg hi, List.getElem?_eq_none (by omega)]
  · rw [if_neg hb, seg_get]
    by_cases hi : i < 128
    · rw [if_pos hi, if_pos hi, segPut_get hv hl]
      rcases Nat.lt_or_gt_of_ne hb with h | h
      · rw [if_pos (by omega)]
      · rw [if_neg (by omega), if_neg (by omega)]
    · rw [if_neg hi, if_neg hi]
theorem zrow_one (v : Value) : ∀ n, zrow [v] n = List.replicate n v
  | 0 => rfl
  | n + 1 => by
    have := zrow_one v n
    unfold zrow at this ⊢
    rw [List.replicate_succ, List.flatten_cons, this, List.replicate_succ]; rfl
theorem mget_of {K V : Type} [DecidableEq K] {l : List (K × V)} (nd : (l.map (·.1)).Nodup) {k : K} {v : V} (h : (k, v) ∈ l) : mget l k = some v := by
  obtain ⟨j, hj⟩ := List.getElem?_of_mem h
  exact (mget_at hj nd).1
theorem of_mget {K V : Type} [DecidableEq K] {k : K} {v : V} : ∀ {l : List (K × V)}, mget l k = some v → (k, v) ∈ l
  | [], h => by cases h
  | p :: r, h => by
    unfold mget at h
    split at h
    · rename_i hp
      cases h
      rw [← hp]; simp
    · exact List.mem_cons_of_mem _ (of_mget h)
def KN (X : DK) : Prop := ∀ p ∈ X.now, 0 ≤ p.1 ∧ p.1 < 1024
section
variable {B c : Nat} {h : Heap} {d rn rs : Nat} {X : DK}
theorem DAt.ndN (D : DAt B c h d rn rs X) : (X.now.map (·.1)).Nodup := by
  obtain ⟨es, ck, _, hs, _, hl⟩ := D.N
  have h1 := hs.2.2
  have e : es.toList.map (·.key) = (X.now.map (·.1)).map (Value.int .i64) := by
    have := congrArg (List.map (·.1)) hl
    rw [List.map_map, List.map_map] at this
    rw [List.map_map]; exact this
  rw [e] at h1
  have h2 := List.nodup_iff_pairwise_ne.1 h1
  rw [List.pairwise_map] at h2
  exact List.nodup_iff_pairwise_ne.2 (h2.imp fun h e => h (congrArg _ e))
def muR (b : Nat) (es : Array MapEntry) (h : Heap) : Nat := match h[b]? with
  | some (.mapIter _ _ seen _) => (leftOf es seen).size
  | _ => 0
theorem nxH_at {b r since ck last : Nat} {seen : Array Nat} {x : MapEntry} {o : Obj} (hb : h[b]? = some o) : (nxH h b r since seen x ck)[b]? = some (.mapIter (some r) since (seen.push x.born) ck) := by
  unfold nxH
  rw [Array.getElem?_setIfInBounds_self_of_lt (Array.getElem?_eq_some_iff.1 hb).1]
theorem nxH_other {b r since ck g : Nat} {seen : Array Nat} {x : MapEntry} (hg : g ≠ b) : (nxH h b r since seen x ck)[g]? = h[g]? := by
  unfold nxH
  rw [Array.getElem?_setIfInBounds_ne (fun e => hg e.symm)]
theorem nxH_size {b r since ck : Nat} {seen : Array Nat} {x : MapEntry} : (nxH h b r since seen x ck).size = h.size := by unfold nxH; simp
theorem DRaw_ok {k : Slc → Heap → Prop} (D : DAt B c h d rn rs X) (kn : KN X) (H : ∀ s h' l, s.len = 131072 → s.cap = 131072 → SlcAt h' s (b8 l) → l.length = 131072 → (∀ a x, mget X.now a = some x → seg l a.toNat = secB x) → Ext h.size h h' → k s h') : disk_Disk_Raw (some ⟨d, 0, none⟩) k h := by
  unfold disk_Disk_Raw
  rw [if_neg (by simp)]
  refine ⟨_, _, by omega, by omega, by omega, by omega, rfl, rfl, ?_⟩
  rw [show ((131072 : Int)).toNat = 131072 from rfl]
  generalize hN : (131072 : Nat) = N
  rw [zrow_one]
  have ez : List.replicate N (Value.int .u8 0) = b8 (List.replicate N 0) := by rw [b8, List.map_replicate]
  rw [ez]
  have P1 := Blk.push h (b8 (List.replicate N 0)) 5
  have W1 := Ext.push h (.cells (b8 (List.replicate N 0)).toArray 5) (Nat.le_refl _)
  have z1 : (h.push (.cells (b8 (List.replicate N 0)).toArray 5)).size = h.size + 1 := by simp
  generalize h.push (.cells (b8 (List.replicate N 0)).toArray 5) = h1 at *
  have D1 := D.ext W1
  have nd := D.ndN
  obtain ⟨es, ck, m1, ms, mk, ml⟩ := D1.N
  refine ⟨_, rfl, some rn, D1.cell0, rn, es, ck, _, _, rfl, m1, rfl, rfl, ?_⟩
  obtain ⟨st1, st2, st3⟩ := (Go.MapKept.stamped_iff es ck).1 ms
  have W2 := Ext.push h1 (.mapIter (some rn) ck #[] ck) (Nat.le_refl _)
  have I2 : (h1.push (.mapIter (some rn) ck #[] ck))[h1.size]? = some (.mapIter (some rn) ck #[] ck) := by simp
  generalize h1.push (.mapIter (some rn) ck #[] ck) = h2 at *
  have z2 := W2.size
  have P2 := P1.ext W2 (by omega)
  have rl := D.N.lt
  have m2 : h2[rn]? = some (.map es ck) := (W2.block rn (by omega)).trans m1
  -- what an entry is
  have ent : ∀ x ∈ es.toList, ∃ a v, x.key = .int .i64 a ∧ x.val = .agg (S_disk_sector.cs v).toArray ∧ mget X.now a = some v ∧ 0 ≤ a ∧ a < 1024 := fun x hx => by
    have : (x.key, x.val) ∈ X.now.map fun p => ((Value.int .i64 p.1 : Value), (Value.agg (S_disk_sector.cs p.2).toArray : Value)) := by rw [← ml]; exact List.mem_map.2 ⟨x, hx, rfl⟩
    obtain ⟨p, hp, e⟩ := List.mem_map.1 this
    rw [Prod.mk.injEq] at e
    exact ⟨p.1, p.2, e.1.symm, e.2.symm, mget_of nd hp, kn p hp⟩
  have ent2 : ∀ a v, mget X.now a = some v → ∃ x ∈ es.toList, x.key = .int .i64 a := fun a v hm => by
    have : ((Value.int .i64 a : Value), (Value.agg (S_disk_sector.cs v).toArray : Value)) ∈ es.toList.map fun e => (e.key, e.val) := by rw [ml]; exact List.mem_map.2 ⟨(a, v), of_mget hm, rfl⟩
    obtain ⟨x, hx, e⟩ := List.mem_map.1 this
    rw [Prod.mk.injEq] at e
    exact ⟨x, hx, e.1⟩
  have X2 : Ext h.size h h2 := W1.trans (W2.mono (by omega))
  refine ⟨fun _ h' => ∃ seen last l, h'[h1.size]? = some (.mapIter (some rn) ck seen last) ∧ ck ≤ last ∧ h'[rn]? = some (.map es ck) ∧ Blk h' h.size (b8 l) 5 ∧ l.length = N ∧
      (∀ x ∈ es.toList, seen.contains x.born = true → ∃ a v, x.key = .int .i64 a ∧ mget X.now a = some v ∧ seg l a.toNat = secB v) ∧ Ext h.size h h' ∧ h2.size ≤ h'.size, fun _ h' => muR h1.size es h',
    ⟨#[], ck, List.replicate N 0, I2, Nat.le_refl _, m2, P2, by simp, fun x hx hc => by simp at hc, X2, Nat.le_refl _⟩, ?_⟩
  rintro h3 ⟨seen, last, l, i3, hl3, m3, P3, ln, hs3, X3, z3⟩
  unfold disk_Disk_Raw_l1b
  have hmu : muR h1.size es h3 = (leftOf es seen).size := by unfold muR; rw [i3]
  refine ⟨h1.size, rn, ck, ck, last, es, seen, rfl, i3, m3, st1, hl3, fun hall => ?_, fun x hx hn h4 e4 => ?_⟩
  · rw [if_neg (by simp)]
    refine H _ h3 l (by simp only; omega) (by simp only; omega) (P3.slc (n := N) (o := 0) (by rw [List.drop_zero, List.take_of_length_le (by rw [List.length_map]; omega)])) (by omega) (fun a v hm => ?_) X3
    obtain ⟨x, hx, hk⟩ := ent2 a v hm
    obtain ⟨a', v', k1, k2, k3⟩ := hs3 x hx (hall x hx)
    rw [hk] at k1
    cases k1
    rw [hm] at k2; cases k2
    exact k3
  · rw [if_pos rfl]
    have i4 : h4[h1.size]? = some (.mapIter (some rn) ck (seen.push x.born) ck) := by rw [e4]; exact nxH_at (last := last) i3
    have o4 : ∀ g, g ≠ h1.size → h4[g]? = h3[g]? := fun g hg => by rw [e4]; exact nxH_other hg
    have s4 : h4.size = h3.size := by rw [e4]; exact nxH_size
    have lt1 := (Array.getElem?_eq_some_iff.1 I2).1
    obtain ⟨a, v, k1, k2, k3, a0, a1⟩ := ent x hx
    have m4 : h4[rn]? = some (.map es ck) := (o4 rn (by omega)).trans m3
    have P4 : Blk h4 h.size (b8 l) 5 := P3.old (o4 _ (by omega))
    refine ⟨h1.size, rn, ck, ck, es, seen, x, a, v, rfl, i4, m4, hx, st2, k1, k2, _, _, rfl, rfl, ?_⟩
    have T := Blk.push h4 (S_disk_sector.cs zSec) 200
    have T2 := T.sets_all (vs := S_disk_sector.cs v) (by rw [sec_len, sec_len])
    have W5 := (Ext.push h4 (.cells (S_disk_sector.cs zSec).toArray 200) (Nat.le_refl _)).trans (Ext.sets _ (a := ⟨h4.size, 0, none⟩) 0 (S_disk_sector.cs v) (Nat.le_refl _))
    refine ⟨_, WrsAt.of_blk T (by rw [sec_len]; omega), rfl, ?_⟩
    generalize setsH (h4.push (.cells (S_disk_sector.cs zSec).toArray 200)) ⟨h4.size, 0, none⟩ 0 (S_disk_sector.cs v) = h5 at *
    have z5 := W5.size
    have P5 := P4.ext W5 P4.lt
    rw [wrapI64 (by omega) (by omega)]
    refine ⟨_, by omega, by simp only; omega, by simp only; omega, by simp only; omega, rfl, _, by omega, by omega, by omega, rfl, b8 (secB v), ?_⟩
    have hoff : (a * 128).toNat = a.toNat * 128 := by omega
    have ed : subS ⟨some (⟨h.size, 0, none⟩ : Addr), N, N⟩ 1 (a * 128).toNat ((N : Nat) : Int).toNat ((N : Nat) : Int).toNat = ⟨some ⟨h.size, a.toNat * 128, none⟩, N - a.toNat * 128, N - a.toNat * 128⟩ := by
      unfold subS
      rw [hoff, show ((N : Nat) : Int).toNat = N from rfl, if_neg (by omega)]
      simp only [Option.map_some, Nat.mul_one, add_mk, Nat.zero_add]
    have es' : subS ⟨some (⟨h4.size, 0, none⟩ : Addr), 128, 128⟩ 1 (0 : Int).toNat (128 : Int).toNat 128 = ⟨some ⟨h4.size, 0, none⟩, 128, 128⟩ := by
      unfold subS; simp [Addr.add]
    rw [ed, es']
    have vl : (secB v).length = 128 := nrm_len _ _
    have hseg : a.toNat * 128 + 128 ≤ l.length := by omega
    refine ⟨⟨b8 (secB v), T2.slc (n := 128) (o := 0) (by rw [List.drop_zero, sec_cs, List.take_append_of_le_length (by rw [List.length_map, vl]; exact Nat.le_refl _), List.take_of_length_le (by rw [List.length_map, vl]; exact Nat.le_refl _)]), by rw [List.length_map, vl]; rfl, (List.take_of_length_le (by rw [List.length_map, vl, Nat.mul_one]; show 128 ≤ min 128 (N - a.toNat * 128); omega)).symm⟩, b8_one _, fun hn => (by cases hn), fun b hb => by
      cases hb
      intro j hj
      rw [List.length_map, vl] at hj
      rw [add_mk]; exact P5.wr (by rw [List.length_map]; omega), ?_⟩
    dsimp only
    have P6 : Blk (setsH h5 ⟨h.size, a.toNat * 128, none⟩ 0 (b8 (secB v))) h.size (b8 (segPut l a.toNat (secB v))) 5 := by
      have := P5.sets (b8 (secB v)) (a.toNat * 128) 0 (by rw [List.length_map, List.length_map, vl]; omega)
      have e : b8 (segPut l a.toNat (secB v)) = (b8 l).take (a.toNat * 128) ++ b8 (secB v) ++ (b8 l).drop (a.toNat * 128 + 128) := by
        unfold segPut; simp only [List.map_append, List.map_take, List.map_drop]
      rw [List.length_map, vl, Nat.add_zero] at this
      rw [e]
      exact this
    have o6 : ∀ g, g ≠ h.size → (setsH h5 ⟨h.size, a.toNat * 128, none⟩ 0 (b8 (secB v)))[g]? = h5[g]? := fun g hg => setsH_other _ _ hg
    have s6 : (setsH h5 ⟨h.size, a.toNat * 128, none⟩ 0 (b8 (secB v))).size = h5.size := setsH_size _ _
    generalize setsH h5 ⟨h.size, a.toNat * 128, none⟩ 0 (b8 (secB v)) = h6 at *
    have i6 : h6[h1.size]? = some (.mapIter (some rn) ck (seen.push x.born) ck) := (o6 _ (by omega)).trans ((W5.block _ (by omega)).trans i4)
    refine ⟨⟨seen.push x.born, ck, segPut l a.toNat (secB v), i6, Nat.le_refl _, (o6 _ (by omega)).trans ((W5.block _ (by omega)).trans m4), P6, by rw [segPut_len vl hseg]; exact ln, fun y hy hc => ?_, ⟨by have := X3.size; omega, fun g hg => by rw [o6 g (by omega), W5.block g (by have := X3.size; omega), o4 g (by omega), X3.block g hg]⟩, by omega⟩, ?_⟩
    · by_cases hyx : y.born = x.born
      · have e : y = x := born_inj st2 hy hx hyx
        subst e
        exact ⟨a, v, k1, k3, by rw [seg_put vl hseg, if_pos rfl]⟩
      · have hc2 : seen.contains y.born = true := by
          rw [contains_push] at hc
          simpa [hyx] using hc
        obtain ⟨a', v', q1, q2, q3⟩ := hs3 y hy hc2
        refine ⟨a', v', q1, q2, ?_⟩
        rw [seg_put vl hseg, if_neg]
        · exact q3
        · intro e
          obtain ⟨a2, v2, p1, _, p3, p4, p5⟩ := ent y hy
          rw [q1] at p1
          cases p1
          have : a' = a := by omega
          subst this
          exact hyx (congrArg MapEntry.born (entry_eq_of_key st3 hy hx (q1.trans k1.symm)))
    · rw [hmu]
      have : muR h1.size es h6 = (leftOf es (seen.push x.born)).size := by unfold muR; rw [i6]
      rw [this]
      refine left_shrinks es seen x ?_
      unfold leftOf
      rw [Array.mem_toList_iff, Array.mem_filter]
      exact ⟨Array.mem_toList_iff.1 hx, by rw [hn]; rfl⟩
end
/-! ### the keys of what is there now -/
theorem KN.burn {X : DK} (K : KN X) : KN (burnD X).2 := by unfold burnD; split <;> exact K
theorem KN.act {X : DK} {a : Act} {bs : List Int} (K : KN X) (ks : ∀ p ∈ X.safe, 0 ≤ p.1 ∧ p.1 < 1024) : KN (doD X a bs).2 := by
  unfold doD
  split
  · unfold syncD
    split
    · exact K
    · split <;> exact K.burn
  · split
    · unfold fuseD
      split <;> exact K
    · split
      · have hk : ∀ n, n ≤ X.safe.length → ∀ p ∈ bootGo bs X.safe (keysD X) n X.now, 0 ≤ p.1 ∧ p.1 < 1024 := fun n => by
          induction n with
          | zero => exact fun _ => K
          | succ n ih =>
            intro hn p hp
            have hkey : 0 ≤ (keysD X).getD n 0 ∧ (keysD X).getD n 0 < 1024 := by
              have hlt : n < (keysD X).length := by rw [keysD_len]; omega
              have : (keysD X).getD n 0 ∈ keysD X := by
                rw [List.getD_eq_getElem?_getD, List.getElem?_eq_getElem hlt]; exact List.getElem_mem _
              have h2 : (keysD X).getD n 0 ∈ X.safe.map (·.1) := by
                unfold keysD srtI at this ⊢
                exact (List.mergeSort_perm _ _).mem_iff.1 this
              obtain ⟨q, hq, e⟩ := List.mem_map.1 h2
              rw [← e]; exact ks q hq
            have hp' : p ∈ bootOne bs X.safe n ((keysD X).getD n 0) (bootGo bs X.safe (keysD X) n X.now) := hp
            unfold bootOne at hp'
            split at hp'
            · rcases mput_in hp' with rfl | h
              · exact hkey
              · exact ih (by omega) p h
            · split at hp'
              · rcases mput_in hp' with rfl | h
                · exact hkey
                · exact ih (by omega) p h
              · exact ih (by omega) p hp'
        exact hk X.safe.length (Nat.le_refl _)
      · unfold writeD
        split
        · exact K
        · split
          · exact K
          · rename_i ha
            split
            · exact K
            · refine KN.burn fun p hp => ?_
              rcases mput_in hp with rfl | h
              · exact ⟨by dsimp only; omega, by dsimp only; omega⟩
              · exact K p h
/-! ### the law -/
theorem DPlaysL_ok {W : Heap} {s1 : Slc} {l1 : List (Act × List Int)} {at' : Int} {k : Bool → Heap → Prop} (S1 : Script W s1 l1) (H : ∀ h', Ext W.size W h' → k true h') : law09_DiskPlays s1 at' k W := by
  have n1 := S1.len
  have m1 : s1.len ≤ 9223372036854775807 := S1.2.2
  unfold law09_DiskPlays
  have aw : ∀ {h}, Ext W.size W h → law09_awake (fun (r3 : Bool) h4 => k r3 h4) h := fun E => awake9_ok fun h' X => H h' (E.trans (X.mono E.size))
  refine Great9_ok S1 (Ext.refl _ _) fun b1 hb1 => ?_
  cases b1 with
  | true => rw [if_pos rfl]; exact aw (Ext.refl _ _)
  | false =>
  rw [if_neg (by simp)]
  have q1 := hb1 rfl
  refine DNew_ok (B := W.size) (Nat.le_refl _) fun d rn rs h1 D1 X1 => ⟨_, _, rfl, rfl, ?_⟩
  have A2 := RNew_at (B := W.size) (h := h1) X1.size
  have W2 := Ext.push h1 (.cells (S_quaestorref09_Disk.cs ⟨⟨none, 0, 0⟩, 0, false, 0⟩).toArray 105) (Nat.le_refl _)
  generalize h1.push (.cells (S_quaestorref09_Disk.cs ⟨⟨none, 0, 0⟩, 0, false, 0⟩).toArray 105) = h2 at *
  have E2 := X1.trans (W2.mono X1.size)
  have D2 := D1.ext W2
  generalize h1.size = r at *
  refine ⟨fun i h' => 0 ≤ i ∧ i ≤ l1.length ∧ i ≤ 50 ∧ (∃ s X Y, DAt W.size i.toNat h' d rn rs X ∧ RAt W.size i.toNat h' r s Y ∧ Rel X (absR Y) ∧ KN X) ∧ Ext W.size W h', fun i _ => (l1.length - i).toNat, ⟨by omega, by omega, by omega, ⟨_, _, _, D2, A2, Rel.zero, fun p hp => by simp at hp⟩, E2⟩, ?_⟩
  rintro i h3 ⟨i0, i1, i5, ⟨s, X, Y, D3, A3, R3, K3⟩, E3⟩
  unfold law09_DiskPlays_l1b
  by_cases hi : i < l1.length ∧ i < 50
  · rw [if_pos (by rw [Bool.and_eq_true, decide_eq_true_eq, decide_eq_true_eq]; omega)]
    have hx : l1[i.toNat]? = some (l1[i.toNat]'(by omega)) := by simp
    generalize l1[i.toNat]'(by omega) = p at *
    obtain ⟨a, ha, Cc, bl, bs, bw⟩ := S1.at E3 hx
    have ps := q1 i.toNat p (by omega) hx
    refine ⟨a, ha, i0, by omega, p.1, Cc, Do_ok D3 A3 E3.size (by omega) bl (fun h' X' => bs.ext (E3.trans X')) (by omega) fun s4 Y4 h4 D4 A4 e4 E4 => ?_⟩
    obtain ⟨r4, R4⟩ := R3.act p.1 p.2 bw
    rw [r4, if_neg (by simp)]
    have R4' : Rel (doD X p.1 p.2).2 (absR Y4) := by rw [e4]; exact R4
    have E04 := E3.trans E4
    obtain ⟨a4, ha4, C4, _⟩ := S1.at E04 hx
    refine ⟨a4, ha4, i0, by omega, p.1.f_At, C4 1 _ rfl, Same9_ok D4 A4 R4' (by omega) fun h5 W5 => ?_⟩
    unfold law09_DiskPlays_g2
    rw [if_neg (by simp)]
    refine Same9_ok (D4.ext W5) (A4.ext W5) R4' (by omega) fun h6 W6 => ?_
    unfold law09_DiskPlays_g3
    rw [if_neg (by simp)]
    refine ⟨_, rfl, ?_⟩
    rw [wrapI64 (by omega) (by omega)]
    have W46 := W5.trans (W6.mono W5.size)
    refine ⟨⟨by omega, by omega, by omega, ⟨s4, _, Y4, by rw [show (i + 1).toNat = i.toNat + 1 from by omega]; exact D4.ext W46, by rw [show (i + 1).toNat = i.toNat + 1 from by omega]; exact A4.ext W46, R4', K3.act D3.ks⟩, E04.trans (W46.mono E04.size)⟩, by dsimp only; omega⟩
  · rw [if_neg (by rw [Bool.and_eq_true, decide_eq_true_eq, decide_eq_true_eq]; omega)]
    refine DRaw_ok D3 K3 fun sr h4 l rl rc Sr ll hseg W4 => ?_
    have E4 := E3.trans (W4.mono E3.size)
    rw [if_neg (by rw [rl]; simp)]
    have D4 := D3.ext W4
    have A4 := A3.ext W4
    have yl := A3.l
    have yc := A3.c
    refine ⟨fun j h' => 0 ≤ j ∧ j ≤ Y.L.length ∧ Ext h4.size h4 h', fun j _ => (Y.L.length - j).toNat, ⟨by omega, by omega, Ext.refl _ _⟩, ?_⟩
    rintro j h5 ⟨j0, j1, W5⟩
    have A5 := A4.ext W5
    have D5 := D4.ext W5
    have E5 := E4.trans (W5.mono E4.size)
    unfold law09_DiskPlays_l4b
    refine ⟨s, A5.cell0, ?_⟩
    by_cases hj : j < Y.L.length
    · rw [if_pos (by rw [decide_eq_true_eq]; omega)]
      have hx : Y.L[j.toNat]? = some (Y.L[j.toNat]'(by omega)) := by simp
      generalize Y.L[j.toNat]'(by omega) = q at *
      obtain ⟨a, ha, C⟩ := A5.place hx
      have lk : lookA (absR Y).L q.1.f_At = some (absP q) := look_of (x := absP q) R3.sorted (List.mem_map.2 ⟨q, List.mem_of_getElem? hx, rfl⟩)
      have j5 : ∀ h6, Ext h5.size h5 h6 → law09_DiskPlays_j5 (some ⟨d, 0, none⟩) ⟨r, 0, none⟩ sr j false k (fun s h' => (0 ≤ s ∧ s ≤ l1.length ∧ s ≤ 50 ∧ (∃ s_1 X Y, DAt W.size s.toNat h' d rn rs X ∧ RAt W.size s.toNat h' r s_1 Y ∧ Rel X (absR Y) ∧ KN X) ∧ Ext W.size W h') ∧ ((l1.length : Int) - s).toNat < ((l1.length : Int) - i).toNat) (fun q h' => (0 ≤ q ∧ q ≤ (Y.L.length : Int) ∧ Ext h4.size h4 h') ∧ ((Y.L.length : Int) - q).toNat < ((Y.L.length : Int) - j).toNat) h6 := fun h6 W6 => by
        have A6 := A5.ext W6
        have D6 := D5.ext W6
        obtain ⟨a6, ha6, C6⟩ := A6.place hx
        unfold law09_DiskPlays_j5
        rw [if_neg (by simp)]
        refine ⟨s, A6.cell0, a6, ha6, j0, by omega, q.1.f_At, place_at C6, Same9_ok D6 A6 R3 (by omega) fun h7 W7 => ?_⟩
        rw [if_neg (by simp)]
        refine ⟨_, rfl, ?_⟩
        rw [wrapI64 (by omega) (by omega)]
        have W57 := W6.trans (W7.mono W6.size)
        exact ⟨⟨by omega, by omega, W5.trans (W57.mono W5.size)⟩, by omega⟩
      refine ⟨s, A5.cell0, a, ha, j0, by omega, q.1.f_At, place_at C, RRead_ok A5 (by omega) fun t h6 St tl W6 => ?_⟩
      dsimp only
      by_cases he : (readA (absR Y) q.1.f_At).2 = 0
      · rw [if_pos (by simp [he])]
        -- it is in range, and not torn
        have A6 := A5.ext W6
        obtain ⟨a6, ha6, C6⟩ := A6.place hx
        have hr : ¬ (q.1.f_At < 0 ∨ q.1.f_At ≥ 1024) := fun hr => by unfold readA at he; rw [if_pos hr] at he; cases he
        have ht : q.1.f_Torn = false := by
          unfold readA at he
          rw [if_neg hr, lk] at he
          dsimp only at he
          cases hq : q.1.f_Torn with
          | false => rfl
          | true => rw [if_pos (show (absP q).torn = true from hq)] at he; cases he
        have rv : (readA (absR Y) q.1.f_At).1 = q.2.1 := by
          unfold readA
          rw [if_neg hr, lk]
          dsimp only
          rw [if_neg (by show ¬ q.1.f_Torn = true; rw [ht]; simp)]; rfl
        rw [rv] at St tl
        have hn := R3.now q.1.f_At
        rw [lk] at hn
        obtain ⟨x, hmx, hvx⟩ : ∃ x, mget X.now q.1.f_At = some x ∧ secB x = q.2.1 := by
          cases hm : mget X.now q.1.f_At with
          | none => rw [hm] at hn; cases hn
          | some x =>
            rw [hm] at hn
            have h' : vS x = vN (absP q) := Option.some.inj hn
            unfold vS vN vw at h'
            have ht' : (absP q).torn = false := ht
            cases hx' : x.f_torn with
            | true => rw [hx', ht'] at h'; simp at h'
            | false =>
              rw [hx', ht'] at h'
              simp only [Bool.false_eq_true, if_false, Prod.mk.injEq, and_true] at h'
              exact ⟨x, rfl, h'⟩
        have sg := hseg _ x hmx
        rw [hvx] at sg
        have q0 : 0 ≤ q.1.f_At ∧ q.1.f_At < 1024 := by omega
        refine ⟨s, A6.cell0, a6, ha6, j0, by omega, q.1.f_At, place_at C6, s, A6.cell0, a6, ha6, j0, by omega, q.1.f_At, place_at C6, ?_⟩
        have w1 : IntKind.i64.wrap (q.1.f_At * 128) = q.1.f_At * 128 := wrapI64 (by omega) (by omega)
        have w2 : IntKind.i64.wrap (q.1.f_At * 128 + 128) = q.1.f_At * 128 + 128 := wrapI64 (by omega) (by omega)
        rw [w1, w2]
        refine ⟨_, by omega, by omega, by rw [rc]; omega, by omega, rfl, ?_⟩
        have Sr6 := (Sr.ext W5).ext W6
        have cut := SlcAt.sub (w := 1) (l := (q.1.f_At * 128).toNat) (u := (q.1.f_At * 128 + 128).toNat) (m := ((sr.cap : Int)).toNat) Sr6 (by omega) (by rw [rc]; omega)
        have ev : ((b8 l).drop ((q.1.f_At * 128).toNat * 1)).take (((q.1.f_At * 128 + 128).toNat - (q.1.f_At * 128).toNat) * 1) = b8 q.2.1 := by
          rw [Nat.mul_one, Nat.mul_one, ← List.map_drop, ← List.map_take, ← sg]
          unfold seg
          rw [show (q.1.f_At * 128).toNat = q.1.f_At.toNat * 128 from by omega, show (q.1.f_At * 128 + 128).toNat - q.1.f_At.toNat * 128 = 128 from by omega]
        rw [ev] at cut
        have bl : q.2.1.length = 128 := by rw [← hvx]; exact nrm_len _ _
        refine DSame_ok cut (by show (q.1.f_At * 128 + 128).toNat - (q.1.f_At * 128).toNat = _; omega) St tl (by omega) ?_
        rw [show (!decide (q.2.1 = q.2.1)) = false from by simp]
        exact j5 h6 W6
      · rw [if_neg (by simpa using he)]
        exact j5 h6 W6
    · rw [if_neg (by rw [decide_eq_true_eq]; omega)]
      exact aw E5
end Go.Q.Yb
