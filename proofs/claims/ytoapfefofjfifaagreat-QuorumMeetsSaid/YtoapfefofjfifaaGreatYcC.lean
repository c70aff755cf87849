/- A part of the proof of statements of this seat: lemmas, no statement of their own. -/
import Derived.Test.YtoapfefofjfifaaGreatYcB
set_option linter.unusedVariables false
set_option linter.unusedSimpArgs false
/- Quorum: a desk, its ops, their starting and telling. -/
namespace Go.Q.Yc
abbrev MapU (h : Heap) (m : Option Nat) (l : List (Int × Option Addr)) : Prop := MapAt (K := Int) (V := Option Addr) (.int .u64) (Value.int .u64) (fun v : Option Addr => (.pointer v : Value)) h m l
abbrev ptrs (L : List (Int × Nat)) : List (Int × Option Addr) := L.map fun q => (q.1, some ⟨q.2, 0, none⟩)
structure DeskAt (h : Heap) (r m : Nat) (L : List (Int × Nat)) : Prop where
  P : Blk h r [.map (some m)] 53
  M : MapU h (some m) (ptrs L)
  ne : r ≠ m
theorem DeskAt.old {h h' : Heap} {r m : Nat} {L : List (Int × Nat)} (D : DeskAt h r m L) (e1 : h'[r]? = h[r]?) (e2 : h'[m]? = h[m]?) : DeskAt h' r m L := ⟨D.P.old e1, D.M.old e2, D.ne⟩
theorem DeskAt.ext {h h' : Heap} {r m : Nat} {L : List (Int × Nat)} (D : DeskAt h r m L) (X : Ext h.size h h') : DeskAt h' r m L := D.old (X.block r D.P.lt) (X.block m D.M.lt)
/-- an op of the desk: its block, who is asked, who said yes -/
structure OpAt (h : Heap) (g : Nat) (x : S_api_Op) (ns ys : List Int) : Prop where
  B : Blk h g (S_api_Op.cs x) 40
  N : Row 0 h 3 1 x.f_Nodes (ints ns)
  Y : Row 0 h 3 1 x.f_Yes (ints ys)
  dis : ∀ b, x.f_Yes.blk = some b → x.f_Nodes.blk ≠ some b
  bare : Bare x
  n : ns.length ≤ 1000
  y : ys.length ≤ 1000
theorem OpAt.old {h h' : Heap} {g : Nat} {x : S_api_Op} {ns ys : List Int} (O : OpAt h g x ns ys) (e1 : h'[g]? = h[g]?) (e2 : ∀ b, x.f_Nodes.blk = some b → h'[b]? = h[b]?) (e3 : ∀ b, x.f_Yes.blk = some b → h'[b]? = h[b]?) : OpAt h' g x ns ys :=
  ⟨O.B.old e1, O.N.keep e2, O.Y.keep e3, O.dis, O.bare, O.n, O.y⟩
theorem OpAt.ext {h h' : Heap} {g : Nat} {x : S_api_Op} {ns ys : List Int} (O : OpAt h g x ns ys) (X : Ext h.size h h') : OpAt h' g x ns ys :=
  O.old (X.block _ O.B.lt) (fun b hb => X.block _ (O.N.bd hb).2) (fun b hb => X.block _ (O.Y.bd hb).2)
theorem New_ok {k : Option Addr → Heap → Prop} {h : Heap} (H : ∀ r m h', DeskAt h' r m [] → h.size ≤ r → h.size ≤ m → Ext h.size h h' → k (some ⟨r, 0, none⟩) h') : quorum_New k h := by
  unfold quorum_New
  have X1 := Ext.push h (.map #[] 0) (Nat.le_refl _)
  have M : MapU (h.push (.map #[] 0)) (some h.size) [] := MapAt.mk0
  refine ⟨_, _, rfl, rfl, _, _, rfl, rfl, ?_⟩
  have z1 : (h.push (.map #[] 0)).size = h.size + 1 := by simp
  generalize h.push (.map #[] 0) = h2 at *
  have X2 := Ext.push h2 (.cells (S_quorum_Desk.cs (⟨(some h.size)⟩ : S_quorum_Desk)).toArray 53) (Nat.le_refl _)
  exact H _ h.size _ ⟨Blk.push h2 _ 53, M.ext X2 (by omega), by omega⟩ (by omega) (Nat.le_refl _) (X1.trans (X2.mono (by omega)))
theorem ptrs_get (L : List (Int × Nat)) (n : Int) : mget (ptrs L) n = (mget L n).map fun g => some ⟨g, 0, none⟩ := by
  induction L with
  | nil => rfl
  | cons p r ih =>
    unfold ptrs at ih ⊢
    rw [List.map_cons]
    unfold mget
    dsimp only
    split
    · rfl
    · exact ih
abbrev begun (v : S_api_Op) (n : Slc) : S_api_Op := { v with f_Pieces := nilS, f_Nodes := n, f_Yes := nilS, f_Rows := nilS, f_Cmd := { v.f_Cmd with f_Wrapped := nilS }, f_Age := 0, f_Done := false, f_E := 0 }
theorem Start_ok {v : S_api_Op} {ns : List Int} {k : Int → Heap → Prop} {h : Heap} {r m : Nat} {L : List (Int × Nat)} (D : DeskAt h r m L) (N : Ints h v.f_Nodes ns) (Y : v.f_Yes = nilS) (b : Bare v) (nl : ns.length ≤ 1000)
    (k0 : needs v.f_Kind ns.length ≠ 0) (ne : ns ≠ []) (nd : ns.Nodup) (fr : mget L v.f_N = none)
    (H : ∀ g n h', DeskAt h' r m (L ++ [(v.f_N, g)]) → OpAt h' g (begun v n) ns [] → h.size ≤ g → (∀ b, n.blk = some b → h.size ≤ b) → Upd m h h' → k 0 h') : quorum_Desk_Start (some ⟨r, 0, none⟩) v k h := by
  have mlt := D.M.lt
  have rlt := D.P.lt
  unfold quorum_Desk_Start
  refine ⟨_, _, rfl, rfl, ?_⟩
  have P := Blk.push h (S_api_Op.cs v) 40
  have W2 := Ext.push h (.cells (S_api_Op.cs v).toArray 40) (Nat.le_refl _)
  have pl := P.lt
  generalize h.push (.cells (S_api_Op.cs v).toArray 40) = h2 at *
  have z2 := W2.size
  obtain ⟨b1, eb1⟩ : ∃ y, y = h.size := ⟨_, rfl⟩
  rw [← eb1] at P pl z2 W2 mlt rlt ⊢
  rw [if_neg (by simp)]
  refine ⟨v, CellsAt.of_blk P, Needs_ok (by rw [N.2.1]; simp only [maxLen]; omega) fun h3 X3 => ?_⟩
  have z3 := X3.size
  have P3 := P.ext X3 pl
  have X03 : Ext b1 h h3 := W2.trans (X3.mono z2)
  have N3 : Ints h3 v.f_Nodes ns := N.ext (by rw [← eb1]; exact X03)
  have D3 : DeskAt h3 r m L := D.ext (by rw [← eb1]; exact X03)
  rw [N.2.1, show (needs v.f_Kind ns.length == 0) = false from by simpa using k0]
  have nl0 : ns.length ≠ 0 := fun e => ne (List.eq_nil_of_length_eq_zero e)
  unfold quorum_Desk_Start_g1
  rw [if_neg (by simp)]
  refine ⟨v.f_Nodes, by rw [add_mk, P3.cell]; rfl, ?_⟩
  rw [N.2.1, show (((ns.length : Nat) : Int) == 0) = false from by simp; omega]
  unfold quorum_Desk_Start_g2
  rw [if_neg (by simp)]
  refine ⟨v.f_Nodes, by rw [add_mk, P3.cell]; rfl, Twice_ok N3 (by omega) ?_⟩
  rw [show (decide ¬ ns.Nodup) = false from decide_eq_false fun h => h nd]
  unfold quorum_Desk_Start_g3
  rw [if_neg (by simp)]
  refine ⟨_, rfl, some m, by rw [D3.P.cell]; rfl, v.f_N, by rw [P3.cell]; rfl, _, D3.M, ?_⟩
  rw [ptrs_get, fr, if_neg (by simp)]
  refine ⟨v, CellsAt.of_blk P3, copied_ok N3 (by rw [Y]; exact Ints.nil _) b (by omega) (by simp) fun n y h4 Rn Ry dis X4 => ?_⟩
  have z4 := X4.size
  have P4 := P3.ext X4 (by omega)
  have D4 := D3.ext X4
  have X04 : Ext b1 h h4 := X03.trans (X4.mono (by omega))
  refine ⟨_, WrsAt.of_blk P4 (by show 33 ≤ 33; omega), rfl, ?_⟩
  have P5 := P4.sets_all (vs := S_api_Op.cs (copyOf v n y)) rfl
  have o5 : ∀ i, i ≠ b1 → (setsH h4 ⟨b1, 0, none⟩ 0 (S_api_Op.cs (copyOf v n y)))[i]? = h4[i]? := fun i hi => setsH_other _ _ hi
  have s5 : (setsH h4 ⟨b1, 0, none⟩ 0 (S_api_Op.cs (copyOf v n y))).size = h4.size := setsH_size _ _
  generalize setsH h4 ⟨b1, 0, none⟩ 0 (S_api_Op.cs (copyOf v n y)) = h5 at *
  refine ⟨_, by rw [add_mk]; exact P5.wr (by show _ < 33; omega), rfl, ?_⟩
  rw [add_mk]
  have P6 := P5.set (i := 0 + 28) (v := Slc.v nilS)
  have o6 : ∀ i, i ≠ b1 → (setH h5 ⟨b1, 0 + 28, none⟩ (Slc.v nilS))[i]? = h4[i]? := fun i hi => (setH_other hi).trans (o5 i hi)
  have s6 : (setH h5 ⟨b1, 0 + 28, none⟩ (Slc.v nilS)).size = h4.size := setH_size.trans s5
  generalize setH h5 ⟨b1, 0 + 28, none⟩ (Slc.v nilS) = h6 at *
  refine ⟨_, by rw [add_mk]; exact P6.wr (by rw [List.length_set]; show _ < 33; omega), rfl, ?_⟩
  rw [add_mk]
  have P7 := P6.set (i := 0 + 32) (v := Slc.v nilS)
  have o7 : ∀ i, i ≠ b1 → (setH h6 ⟨b1, 0 + 32, none⟩ (Slc.v nilS))[i]? = h4[i]? := fun i hi => (setH_other hi).trans (o6 i hi)
  have s7 : (setH h6 ⟨b1, 0 + 32, none⟩ (Slc.v nilS)).size = h4.size := setH_size.trans s6
  generalize setH h6 ⟨b1, 0 + 32, none⟩ (Slc.v nilS) = h7 at *
  refine ⟨_, by rw [add_mk]; exact P7.wr (by rw [List.length_set, List.length_set]; show _ < 33; omega), rfl, ?_⟩
  rw [add_mk]
  have P8 := P7.set (i := 0 + 29) (v := .int .i64 0)
  have o8 : ∀ i, i ≠ b1 → (setH h7 ⟨b1, 0 + 29, none⟩ (.int .i64 0))[i]? = h4[i]? := fun i hi => (setH_other hi).trans (o7 i hi)
  have s8 : (setH h7 ⟨b1, 0 + 29, none⟩ (.int .i64 0)).size = h4.size := setH_size.trans s7
  generalize setH h7 ⟨b1, 0 + 29, none⟩ (.int .i64 0) = h8 at *
  refine ⟨_, by rw [add_mk]; exact P8.wr (by rw [List.length_set, List.length_set, List.length_set]; show _ < 33; omega), rfl, ?_⟩
  rw [add_mk]
  have P9 := P8.set (i := 0 + 30) (v := .bool false)
  have o9 : ∀ i, i ≠ b1 → (setH h8 ⟨b1, 0 + 30, none⟩ (.bool false))[i]? = h4[i]? := fun i hi => (setH_other hi).trans (o8 i hi)
  have s9 : (setH h8 ⟨b1, 0 + 30, none⟩ (.bool false)).size = h4.size := setH_size.trans s8
  generalize setH h8 ⟨b1, 0 + 30, none⟩ (.bool false) = h9 at *
  refine ⟨_, by rw [add_mk]; exact P9.wr (by rw [List.length_set, List.length_set, List.length_set, List.length_set]; show _ < 33; omega), rfl, ?_⟩
  rw [add_mk]
  have P10 : Blk (setH h9 ⟨b1, 0 + 31, none⟩ (.int .i64 0)) b1 (S_api_Op.cs (begun v n)) 40 := P9.set (i := 0 + 31) (v := .int .i64 0)
  have o10 : ∀ i, i ≠ b1 → (setH h9 ⟨b1, 0 + 31, none⟩ (.int .i64 0))[i]? = h4[i]? := fun i hi => (setH_other hi).trans (o9 i hi)
  have s10 : (setH h9 ⟨b1, 0 + 31, none⟩ (.int .i64 0)).size = h4.size := setH_size.trans s9
  generalize setH h9 ⟨b1, 0 + 31, none⟩ (.int .i64 0) = h10 at *
  clear P5 P6 P7 P8 P9 o5 o6 o7 o8 o9 s5 s6 s7 s8 s9
  refine ⟨v.f_Kind, by rw [add_mk, P10.cell]; rfl, ?_⟩
  have fin : ∀ h', Blk h' b1 (S_api_Op.cs (begun v n)) 40 → (∀ i, i ≠ b1 → h'[i]? = h4[i]?) → h'.size = h4.size → quorum_Desk_Start_j4 (some ⟨r, 0, none⟩) ⟨b1, 0, none⟩ k h' := fun h' Bk o s => by
    have D' : DeskAt h' r m L := D4.old (o r (by omega)) (o m (by omega))
    unfold quorum_Desk_Start_j4
    refine ⟨_, rfl, some m, by rw [D'.P.cell]; rfl, v.f_N, by rw [Bk.cell]; rfl, m, _, _, rfl, D'.M, rfl, ?_⟩
    have M2 := D'.M.put (kInt .u64) v.f_N (some ⟨b1, 0, none⟩)
    rw [mput_none (fun p hp e => ?_)] at M2
    · have oo : ∀ i, i ≠ m → (setM h' m (Value.int .u64 v.f_N) (.pointer (some ⟨b1, 0, none⟩)))[i]? = h'[i]? := fun i hi => setM_other hi
      have ss : (setM h' m (Value.int .u64 v.f_N) (.pointer (some ⟨b1, 0, none⟩))).size = h'.size := setM_size
      generalize setM h' m (Value.int .u64 v.f_N) (.pointer (some ⟨b1, 0, none⟩)) = h12 at *
      have kp : ∀ i, i ≠ m → i ≠ b1 → h12[i]? = h4[i]? := fun i h1 h2 => (oo i h1).trans (o i h2)
      refine H b1 n h12 ⟨D'.P.old (oo r D.ne), by unfold ptrs; rw [List.map_append]; exact M2, D.ne⟩ ⟨Bk.old (oo b1 (by omega)), ?_, Row.nil _ _ _ _, (fun b hb => by cases hb), ⟨rfl, rfl, rfl⟩, nl, by simp⟩ (by omega) (fun b hb => by have := (Rn.bd hb).1; omega) ⟨by rw [ss, s]; exact (by omega), fun i hi hm => ?_⟩
      · exact (Rn.mono (Nat.zero_le _)).keep fun b hb => kp b (by have := (Rn.bd hb).1; omega) (by have := (Rn.bd hb).1; omega)
      · rw [kp i hm (by omega)]; exact X04.block i (by omega)
    · obtain ⟨q, hq, rfl⟩ := List.mem_map.1 hp
      have : mget L q.1 ≠ none := by
        intro hn
        have h1 : ∀ (l : List (Int × Nat)), q ∈ l → mget l q.1 ≠ none := by
          intro l
          induction l with
          | nil => intro h; cases h
          | cons p r ih =>
            intro hm
            unfold mget
            split
            · simp
            · rcases List.mem_cons.1 hm with rfl | hm
              · rename_i hc; exact absurd rfl hc
              · exact ih hm
        exact h1 L hq hn
      exact this (by rw [show q.1 = v.f_N from e]; exact fr)
  by_cases k1 : v.f_Kind = 1
  · rw [if_neg (by simp [k1])]
    exact fin h10 P10 o10 s10
  · rw [if_pos (by simpa using k1)]
    refine ⟨_, by rw [add_mk]; exact P10.wr (by show _ < 33; omega), rfl, ?_⟩
    rw [add_mk]
    exact fin _ (P10.set (i := 0 + 3) (v := Slc.v nilS)) (fun i hi => (setH_other hi).trans (o10 i hi)) (setH_size.trans s10)
end Go.Q.Yc
