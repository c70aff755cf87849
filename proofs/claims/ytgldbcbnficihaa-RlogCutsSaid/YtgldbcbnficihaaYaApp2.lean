/- A part of the proof of statements of this seat: lemmas, no statement of their own. -/
import Derived.Test.YtgldbcbnficihaaYaApp
set_option linter.unusedVariables false
set_option linter.unusedSimpArgs false
namespace Go.Q.Ya
theorem ecs_one (vs : List S_api_Entry) : ∀ x ∈ ecs vs, x.oneCell' = true := by
  intro x hx
  obtain ⟨v, _, h⟩ := List.mem_flatMap.1 hx
  exact cs_one v x h
theorem j4_ok {B bx : Nat} {t0 : Option Addr} {t1 t8 t40 t41 : Int} {t39 now : Slc} {cur : List Ent} {vsn : List S_api_Entry} {v : S_api_Entry} {e : Ent} {k : Int × Int → Heap → Prop} {nx2 : Slc × Int → Heap → Prop} {h : Heap}
    (O : Own B h now cur vsn) (K : Blk h bx (S_api_Entry.cs v) 64) (E : EntAt h v e) (oke : esOk [e]) (hB : B ≤ h.size) (hl : cur.length ≤ 1099511627776)
    (H : ∀ s' h' vs', Own B h' s' (cur ++ [e]) vs' → h.size ≤ h'.size → (∀ i, i < h.size → now.blk ≠ some i → h'[i]? = h[i]?) → ((s'.blk = now.blk ∧ now.len + 1 ≤ now.cap) ∨ ∃ g, s'.blk = some g ∧ h.size ≤ g) →
      (∀ C t ys, Row C h 64 2 t ys → (t.len ≤ now.len ∨ t.blk ≠ now.blk ∨ now.cap ≤ now.len) → Row C h' 64 2 t ys) → rlog_Log_Append_j3 t0 t1 t8 t39 t40 t41 s' k nx2 h') :
    rlog_Log_Append_j4 t0 t1 t8 ⟨bx, 0, none⟩ t39 t40 t41 now k nx2 h := by
  unfold rlog_Log_Append_j4
  refine ⟨v, CellsAt.of_blk K, _, _, rfl, rfl, ?_⟩
  have P := Blk.push h (S_api_Entry.cs v) 64
  have X1 := Ext.push h (.cells (S_api_Entry.cs v).toArray 64) (Nat.le_refl _)
  have z1 : (h.push (.cells (S_api_Entry.cs v).toArray 64)).size = h.size + 1 := by simp
  generalize h.push (.cells (S_api_Entry.cs v).toArray 64) = h1 at *
  have A : EntsAt h1 ⟨some ⟨h.size, 0, none⟩, 1, 1⟩ [e] := by
    refine ⟨rfl, fun hn => (by cases hn), fun a ha i f hf => ?_⟩
    simp only [Option.some.injEq] at ha; subst ha
    have hi : i = 0 := by have := (List.getElem?_eq_some_iff.1 hf).1; simp at this; exact this
    subst hi
    simp at hf; subst hf
    exact ⟨v, CellsAt.of_blk P, E.ext X1⟩
  refine copied_ok A oke (by simp) fun r h2 vr Or X2 => ?_
  have z2 := X2.size
  have O2 := (O.ext X1).ext X2
  have lr := Or.len
  simp at lr
  have ol := O.len
  have hvl := Or.l
  refine ⟨_, Or.r.slc, App.row2 O2.r (by omega) rfl (by rw [ecs_len, hvl, lr]; rfl) (ecs_one _) (by omega) (by simp only [maxLen]; omega) fun s' h3 R3 l3 z3 ho hb' hk => ?_⟩
  obtain ⟨v', hv'⟩ : ∃ v', vr = [v'] := by
    match vr, hvl with
    | [v'], _ => exact ⟨v', rfl⟩
  subst hv'
  have he := Or.e 0 v' e rfl rfl
  have kr : ∀ g E cs, Blk h2 g cs E → E = 5 → h3[g]? = h2[g]? := fun g E cs K hE => ho g K.lt (by rw [hE] at K; exact O2.r.ne_blk K (by decide))
  have k5 : ∀ {s : Slc} {xs : List Value} {C : Nat}, Row C h2 5 1 s xs → Row C h3 5 1 s xs := fun R => R.keep fun g hg => ho g (R.bd hg).2 fun e => R.ne_row O2.r (by decide) hg e
  refine H s' h3 (vsn ++ [v']) (O2.snoc (by simpa [ecs] using R3) kr he.1 (k5 (he.2.mono (by omega)))) (by omega) (fun i hi hne => ?_) ?_ fun C t ys R hc => ?_
  · rw [ho i (by omega) hne, X2.block i (by omega), X1.block i hi]
  · rcases hb' with hb' | hb'
    · exact .inl ⟨hb'.1, by rw [lr] at hb'; exact hb'.2⟩
    · exact .inr ⟨_, hb', by omega⟩
  · refine hk C t ys ((R.ext X1 fun g hg => (R.bd hg).2).ext X2 fun g hg => by have := (R.bd hg).2; omega) ?_
    rcases hc with hc | hc | hc
    · exact .inl hc
    · exact .inr (.inl hc)
    · exact .inr (.inr (by omega))
end Go.Q.Ya
