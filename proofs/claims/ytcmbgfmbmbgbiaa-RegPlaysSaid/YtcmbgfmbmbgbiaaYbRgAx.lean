/- A part of the proof of statements of this seat: lemmas, no statement of their own. -/
import Derived.Test.YtcmbgfmbmbgbiaaYbRg
import Derived.Test.YtcmbgfmbmbgbiaaYbRgF
import Derived.Test.YtcmbgfmbmbgbiaaYbRgS
import Derived.Test.YtcmbgfmbmbgbiaaYbRgE
set_option linter.unusedVariables false
set_option linter.unusedSimpArgs false
namespace Go.Q.Yb
abbrev vT : S_api_Tenant → Value := fun v => Value.agg (S_api_Tenant.cs v).toArray
abbrev zT : S_api_Tenant := ⟨ByteArray.empty, ⟨none, 0, 0⟩, 0, false⟩
abbrev zW : S_api_Wrapped := ⟨0, [], ⟨none, 0, 0⟩⟩
/-- a key, and its bytes -/
abbrev Z := S_api_Wrapped × List Int
theorem wcs_len (w : S_api_Wrapped) : (S_api_Wrapped.cs w).length = 14 := rfl
theorem tcs_len (t : S_api_Tenant) : (S_api_Tenant.cs t).length = 4 := rfl
theorem ccs_len (c : S_api_Command) : (S_api_Command.cs c).length = 17 := rfl
def okC (b : Int) : Bool := if (decide (b ≥ 97)) && (decide (b ≤ 122)) then true else if (decide (b ≥ 48)) && (decide (b ≤ 57)) then true else b == 45
def nameOk (t : ByteArray) : Bool := (sB t).all okC && (decide ((t.size : Int) > 0) && decide ((t.size : Int) ≤ 24))
theorem strAt {t : ByteArray} {i : Int} (h : i.toNat < t.size) : ∃ v, (sB t)[i.toNat]? = some v ∧ StrAt t i v := by
  refine ⟨_, ?_, h, rfl⟩
  simp only [sB, List.getElem?_map]
  have : t.data.toList[i.toNat]? = some t[i.toNat] := by
    rw [List.getElem?_eq_getElem (by simpa using h)]; rfl
  rw [this]; rfl
theorem BName_ok {t : ByteArray} {k : Bool → Heap → Prop} {h : Heap} (ht : t.size ≤ 1000000) (H : k (nameOk t) h) : box_Name t k h := by
  have sl := sB_len t
  unfold box_Name
  refine ⟨fun i h' => 0 ≤ i ∧ i ≤ t.size ∧ ((sB t).take i.toNat).all okC = true ∧ h' = h, fun i _ => (t.size - i).toNat, ⟨by omega, by omega, by simp, rfl⟩, ?_⟩
  rintro i h' ⟨i0, i1, ha, e⟩
  subst e
  unfold box_Name_l1b
  by_cases hi : i < t.size
  · rw [if_pos (by rw [decide_eq_true_eq]; exact hi)]
    obtain ⟨v, hv, hs⟩ := strAt (t := t) (i := i) (by omega)
    refine ⟨v, i0, hs, ?_⟩
    have fin : ∀ b, b = okC v → box_Name_j2 t (t.size : Int) i b k (fun s h'' => (0 ≤ s ∧ s ≤ (t.size : Int) ∧ ((sB t).take s.toNat).all okC = true ∧ h'' = h') ∧ ((t.size : Int) - s).toNat < ((t.size : Int) - i).toNat) h' := fun b hb => by
      unfold box_Name_j2
      cases hc : b with
      | true =>
        rw [if_pos rfl, wrapI64 (by omega) (by omega)]
        refine ⟨⟨by omega, by omega, ?_, rfl⟩, by omega⟩
        rw [show (i + 1).toNat = i.toNat + 1 from by omega, List.take_add_one, hv]
        simp only [Option.toList_some, List.all_append, ha, List.all_cons, List.all_nil, Bool.and_true, Bool.true_and]
        rw [← hb, hc]
      | false =>
        rw [if_neg (by simp)]
        have : nameOk t = false := by
          have : (sB t).all okC = false := by
            cases hh : (sB t).all okC with
            | false => rfl
            | true => have := List.all_eq_true.1 hh v (List.mem_of_getElem? hv); rw [← hb, hc] at this; cases this
          unfold nameOk; rw [this]; rfl
        rw [this] at H; exact H
    by_cases h1 : ((decide (v ≥ 97)) && (decide (v ≤ 122))) = true
    · rw [if_pos h1]; exact fin _ (by unfold okC; rw [if_pos h1, h1])
    · rw [if_neg h1]
      by_cases h2 : ((decide (v ≥ 48)) && (decide (v ≤ 57))) = true
      · rw [if_pos h2]; exact fin _ (by unfold okC; rw [if_neg h1, if_pos h2, h2])
      · rw [if_neg h2]; exact fin _ (by unfold okC; rw [if_neg h1, if_neg h2])
  · rw [if_neg (by rw [decide_eq_true_eq]; exact hi)]
    rw [List.take_of_length_le (by omega)] at ha
    unfold nameOk at H
    rw [ha, Bool.true_and] at H
    exact H
def mayR (c : S_api_Command) (n : Nat) : Bool :=
  if c.f_Kind = 0 then true else if c.f_Kind = 1 ∨ c.f_Kind = 2 then nameOk c.f_Tenant && ((n : Int) == 48) else if c.f_Kind = 3 ∨ c.f_Kind = 4 ∨ c.f_Kind = 5 then nameOk c.f_Tenant else false
theorem May_ok {c : S_api_Command} {n : Nat} {k : Bool → Heap → Prop} {h : Heap} (wl : c.f_Wrapped.len = n) (ht : c.f_Tenant.size ≤ 1000000) (H : ∀ h', Ext h.size h h' → k (mayR c n) h') : reg_may c k h := by
  unfold reg_may
  refine ⟨_, _, rfl, rfl, ?_⟩
  have P := Blk.push h (S_api_Command.cs c) 32
  have W := Ext.push h (.cells (S_api_Command.cs c).toArray 32) (Nat.le_refl _)
  obtain ⟨h2, e2⟩ : ∃ y, y = h.push (.cells (S_api_Command.cs c).toArray 32) := ⟨_, rfl⟩
  rw [← e2] at P W ⊢
  have := H h2 W
  refine ⟨c.f_Kind, by rw [P.cell]; rfl, ?_⟩
  by_cases h0 : c.f_Kind = 0
  · rw [if_pos (by simp [h0])]
    unfold mayR at this; rw [if_pos h0] at this; exact this
  rw [if_neg (by simpa using h0)]
  unfold mayR at this; rw [if_neg h0] at this
  have j1 : ∀ b, b = decide (c.f_Kind = 1 ∨ c.f_Kind = 2) → reg_may_j1 ⟨h.size, 0, none⟩ c.f_Kind b k h2 := fun b hb => by
    unfold reg_may_j1
    by_cases h12 : c.f_Kind = 1 ∨ c.f_Kind = 2
    · rw [if_pos h12] at this
      rw [hb, if_pos (by simpa using h12)]
      refine ⟨c.f_Tenant, by rw [add_mk, P.cell]; rfl, BName_ok ht ?_⟩
      cases hn : nameOk c.f_Tenant with
      | true =>
        rw [hn, Bool.true_and] at this
        rw [if_pos rfl]
        refine ⟨c.f_Wrapped, by rw [add_mk, P.cell]; rfl, ?_⟩
        unfold reg_may_g2
        rw [wl]; exact this
      | false =>
        rw [hn, Bool.false_and] at this
        rw [if_neg (by simp)]
        unfold reg_may_g2; exact this
    · rw [if_neg h12] at this
      rw [hb, if_neg (by simpa using h12)]
      have j3 : ∀ b, b = decide (c.f_Kind = 3 ∨ c.f_Kind = 4 ∨ c.f_Kind = 5) → reg_may_j3 ⟨h.size, 0, none⟩ b k h2 := fun b hb => by
        unfold reg_may_j3
        by_cases h345 : c.f_Kind = 3 ∨ c.f_Kind = 4 ∨ c.f_Kind = 5
        · rw [if_pos h345] at this
          rw [hb, if_pos (by simpa using h345)]
          exact ⟨c.f_Tenant, by rw [add_mk, P.cell]; rfl, BName_ok ht this⟩
        · rw [if_neg h345] at this
          rw [hb, if_neg (by simpa using h345)]; exact this
      by_cases h3 : c.f_Kind = 3
      · rw [if_pos (by simp [h3])]; exact j3 _ (by simp [h3])
      · rw [if_neg (by simpa using h3)]
        by_cases h4 : c.f_Kind = 4
        · rw [if_pos (by simp [h4])]; exact j3 _ (by simp [h4])
        · rw [if_neg (by simpa using h4)]; exact j3 _ (by simp [h3, h4]; exact (Bool.beq_eq_decide_eq _ _))
  by_cases h1 : c.f_Kind = 1
  · rw [if_pos (by simp [h1])]; exact j1 _ (by simp [h1])
  · rw [if_neg (by simpa using h1)]; exact j1 _ (by simp [h1]; exact (Bool.beq_eq_decide_eq _ _))
/-! ### keys in memory -/
def KAt (h : Heap) (s : Slc) (zs : List Z) : Prop := LsAt S_api_Wrapped.cs 14 h s (zs.map (·.1)) ∧ ∀ z ∈ zs, SlcAt h z.1.f_B (b8 z.2) ∧ z.1.f_B.len = z.2.length ∧ isB z.2 ∧ z.2.length = 48
theorem KAt.ext {h h' : Heap} {s : Slc} {zs : List Z} (A : KAt h s zs) (X : Ext h.size h h') : KAt h' s zs := ⟨A.1.ext X, fun z hz => by obtain ⟨a, b⟩ := A.2 z hz; exact ⟨a.ext X, b⟩⟩
theorem KAt.len {h : Heap} {s : Slc} {zs : List Z} (A : KAt h s zs) : s.len = zs.length := by have := A.1.l; simpa using this
/-- what is told of a key -/
def absK (z : Z) : Int × List Int × List Int := (z.1.f_Epoch, nrm 12 z.1.f_Nonce, z.2)
def KOwn (B : Nat) (h : Heap) (s : Slc) (zs : List Z) : Prop := Row B h 132 14 s ((zs.map (·.1)).flatMap S_api_Wrapped.cs) ∧ s.len = zs.length ∧ ∀ z ∈ zs, Row B h 5 1 z.1.f_B (b8 z.2) ∧ z.1.f_B.len = z.2.length ∧ isB z.2 ∧ z.2.length = 48
theorem KOwn.mono {A B : Nat} {h : Heap} {s : Slc} {zs : List Z} (K : KOwn B h s zs) (hb : A ≤ B) : KOwn A h s zs := ⟨K.1.mono hb, K.2.1, fun z hz => by obtain ⟨a, b⟩ := K.2.2 z hz; exact ⟨a.mono hb, b⟩⟩
theorem KOwn.step {B : Nat} {h h2 : Heap} {s : Slc} {zs : List Z} (K : KOwn B h s zs) (z : h.size ≤ h2.size) (e : ∀ g, B ≤ g → g < h.size → h2[g]? = h[g]?) : KOwn B h2 s zs :=
  ⟨K.1.keep fun g hg => e g (K.1.bd hg).1 (K.1.bd hg).2, K.2.1, fun x hx => by obtain ⟨a, b⟩ := K.2.2 x hx; exact ⟨a.keep fun g hg => e g (a.bd hg).1 (a.bd hg).2, b⟩⟩
theorem KOwn.held {B : Nat} {h : Heap} {s : Slc} {zs : List Z} (K : KOwn B h s zs) : Held B h fun h' => KAt h' s zs := fun h' e => by
  have R : Row B h' 132 14 s ((zs.map (·.1)).flatMap S_api_Wrapped.cs) := K.1.keep fun g hg => e g (K.1.bd hg).1 (K.1.bd hg).2
  exact ⟨LsAt.of_slc wcs_len R.slc (by rw [K.2.1]; simp) (by omega), fun z hz => by obtain ⟨a, b⟩ := K.2.2 z hz; exact ⟨(a.keep fun g hg => e g (a.bd hg).1 (a.bd hg).2).slc, b⟩⟩
theorem KOwn.nil (B : Nat) (h : Heap) : KOwn B h ⟨none, 0, 0⟩ [] := ⟨Row.nil _ _ _ _, rfl, by simp⟩
def epA (zs : List Z) : Int := match zs.getLast? with | none => 0 | some z => z.1.f_Epoch
theorem Epoch_ok {t : S_api_Tenant} {zs : List Z} {k : Int → Heap → Prop} {h : Heap} (K : KAt h t.f_Keys zs) (hz : zs.length ≤ 1000000) (H : ∀ h', Ext h.size h h' → k (epA zs) h') : reg_epoch t k h := by
  unfold reg_epoch
  refine ⟨_, _, rfl, rfl, ?_⟩
  have P := Blk.push h (S_api_Tenant.cs t) 130
  have W := Ext.push h (.cells (S_api_Tenant.cs t).toArray 130) (Nat.le_refl _)
  obtain ⟨h2, e2⟩ : ∃ y, y = h.push (.cells (S_api_Tenant.cs t).toArray 130) := ⟨_, rfl⟩
  rw [← e2] at P W ⊢
  have g := H h2 W
  have kl := K.len
  have c1 : cellH h2 ((⟨h.size, 0, none⟩ : Addr).add 1) = some (Slc.v t.f_Keys) := by rw [add_mk, P.cell]; rfl
  refine ⟨_, c1, ?_⟩
  rcases List.eq_nil_or_concat zs with rfl | ⟨ys, y, rfl⟩
  · rw [if_pos (by rw [kl]; rfl)]; exact g
  · rw [List.concat_eq_append] at *
    simp only [List.length_append, List.length_cons, List.length_nil] at kl hz
    rw [if_neg (by rw [beq_iff_eq]; omega)]
    refine ⟨_, c1, _, c1, ?_⟩
    rw [wrapI64 (x := (t.f_Keys.len : Int) - 1) (by omega) (by omega)]
    obtain ⟨a, ha, C⟩ := (K.ext W).1.at' ys.length y.1 (by simp)
    refine ⟨a, ha, by omega, by omega, y.1.f_Epoch, ?_, ?_⟩
    · have := C 0 _ rfl
      rw [show ((t.f_Keys.len : Int) - 1).toNat = ys.length from by omega]
      rwa [show (a.add (ys.length * 14)).add 0 = a.add (ys.length * 14) from by simp [Addr.add]] at this
    · unfold epA at g; rw [List.getLast?_append] at g; exact g
end Go.Q.Yb
set_option linter.unusedVariables false
set_option linter.unusedSimpArgs false
namespace Go.Q.Yb
theorem mget_map {K V W : Type} [DecidableEq K] (f : V → W) (k : K) : ∀ l : List (K × V), mget (l.map fun q => (q.1, f q.2)) k = (mget l k).map f
  | [] => rfl
  | p :: r => by
    simp only [List.map_cons, mget]
    by_cases h : p.1 = k
    · rw [if_pos h, if_pos h]; rfl
    · rw [if_neg h, if_neg h]; exact mget_map f k r
theorem mput_map {K V W : Type} [DecidableEq K] (f : V → W) (k : K) (v : V) : ∀ l : List (K × V), mput (l.map fun q => (q.1, f q.2)) k (f v) = (mput l k v).map fun q => (q.1, f q.2)
  | [] => rfl
  | p :: r => by
    simp only [List.map_cons, mput]
    by_cases h : p.1 = k
    · rw [if_pos h, if_pos h]; rfl
    · rw [if_neg h, if_neg h, List.map_cons, mput_map f k v r]
theorem mget_mem {K V : Type} [DecidableEq K] {k : K} {v : V} : ∀ {l : List (K × V)}, mget l k = some v → (k, v) ∈ l
  | [], h => by cases h
  | p :: r, h => by
    simp only [mget] at h
    by_cases hp : p.1 = k
    · rw [if_pos hp] at h; cases h; rw [← hp]; simp
    · rw [if_neg hp] at h; exact List.mem_cons_of_mem _ (mget_mem h)
theorem mput_mem {K V : Type} [DecidableEq K] {k : K} {v : V} {q : K × V} : ∀ {l : List (K × V)}, q ∈ mput l k v → q = (k, v) ∨ q ∈ l
  | [], h => by simp [mput] at h; exact .inl h
  | p :: r, h => by
    simp only [mput] at h
    by_cases hp : p.1 = k
    · rw [if_pos hp] at h
      rcases List.mem_cons.1 h with h | h
      · exact .inl h
      · exact .inr (List.mem_cons_of_mem _ h)
    · rw [if_neg hp] at h
      rcases List.mem_cons.1 h with h | h
      · exact .inr (by rw [h]; simp)
      · rcases mput_mem h with h | h
        · exact .inl h
        · exact .inr (List.mem_cons_of_mem _ h)
/-- a row of structs of one's own: one of them is written -/
theorem fm_sets {α : Type} {cs : α → List Value} {w : Nat} (hc : ∀ x, (cs x).length = w) : ∀ (xs : List α) (i : Nat) (x : α), i < xs.length → (xs.flatMap cs).take (i * w) ++ cs x ++ (xs.flatMap cs).drop ((i + 1) * w) = (xs.set i x).flatMap cs
  | [], i, x, h => by simp at h
  | y :: r, 0, x, h => by
    simp only [Nat.zero_mul, List.take_zero, List.nil_append, List.flatMap_cons, List.set_cons_zero, Nat.zero_add, Nat.one_mul]
    rw [List.drop_append_of_le_length (by rw [hc]; exact Nat.le_refl _), List.drop_of_length_le (by rw [hc]; exact Nat.le_refl _), List.nil_append]
  | y :: r, i + 1, x, h => by
    simp only [List.flatMap_cons, List.set_cons_succ]
    rw [← fm_sets hc r i x (by simpa using h)]
    rw [List.take_append, hc, List.take_of_length_le (by rw [hc, Nat.add_mul]; omega), List.drop_append, hc, List.drop_of_length_le (by rw [hc, Nat.add_mul]; omega)]
    rw [show (i + 1) * w - w = i * w from by rw [Nat.add_mul]; omega, show (i + 1 + 1) * w - w = (i + 1) * w from by rw [Nat.add_mul (i + 1)]; omega]
    simp only [List.append_assoc, List.nil_append]
theorem tk_sets (cur v : List Value) (a n : Nat) (h : a + v.length ≤ n) (hn : n ≤ cur.length) : (cur.take a ++ v ++ cur.drop (a + v.length)).take n = (cur.take n).take a ++ v ++ (cur.take n).drop (a + v.length) := by
  have hl : (cur.take a ++ v).length = a + v.length := by rw [List.length_append, List.length_take]; omega
  rw [List.take_append, hl, List.take_of_length_le (by omega), List.take_take, Nat.min_eq_left (by omega), List.drop_take]
theorem Row.setS {α : Type} {cs : α → List Value} {B E w : Nat} {h : Heap} {s : Slc} {xs : List α} (hc : ∀ x, (cs x).length = w) (R : Row B h E w s (xs.flatMap cs)) (hl : s.len = xs.length) {i : Nat} (hi : i < xs.length) (x : α) {a : Addr} (ha : s.a = some a) :
    WrsAt h (a.add (i * w)) w ∧ Row B (setsH h (a.add (i * w)) 0 (cs x)) E w s ((xs.set i x).flatMap cs) ∧ B ≤ a.block := by
  rcases R.2.2 with ⟨k, _⟩ | ⟨g, cur, a1, a2, a3, a4, a5, a6⟩
  · rw [k] at ha; cases ha
  · rw [ha] at a1; cases a1
    have hiw : i * w + w ≤ s.len * w := by
      have : (i + 1) * w ≤ s.len * w := Nat.mul_le_mul_right _ (by omega)
      rw [Nat.add_mul] at this; omega
    have hcap : s.len * w ≤ s.cap * w := Nat.mul_le_mul_right _ a4
    rw [add_mk, Nat.zero_add]
    refine ⟨fun j hj => by rw [add_mk]; exact a3.wr (by omega), ⟨by rw [fm_len hc, List.length_set, hl], R.2.1, .inr ⟨g, _, ha, a2, a3.sets (cs x) (i * w) 0 (by rw [hc]; omega), a4, ?_, ?_⟩⟩, a2⟩
    · simp only [List.length_append, List.length_take, List.length_drop, hc]; omega
    · rw [← fm_sets hc xs i x hi, ← a6, tk_sets cur (cs x) (i * w + 0) (s.len * w) (by rw [hc]; omega) (by omega), hc, Nat.add_zero, show (i + 1) * w = i * w + w from by rw [Nat.add_mul, Nat.one_mul]]
/-! ### copied -/
theorem Copied_ok {t : S_api_Tenant} {zs : List Z} {k : S_api_Tenant → Heap → Prop} {h : Heap} (K : KAt h t.f_Keys zs) (hz : zs.length ≤ 1000000)
    (H : ∀ s zs' h', KOwn h.size h' s zs' → zs'.map absK = zs.map absK → Ext h.size h h' → k { t with f_Keys := s } h') : reg_copied t k h := by
  have kl := K.len
  unfold reg_copied
  refine ⟨_, _, rfl, rfl, ?_⟩
  have P := Blk.push h (S_api_Tenant.cs t) 130
  have W := Ext.push h (.cells (S_api_Tenant.cs t).toArray 130) (Nat.le_refl _)
  obtain ⟨h2, e2⟩ : ∃ y, y = h.push (.cells (S_api_Tenant.cs t).toArray 130) := ⟨_, rfl⟩
  rw [← e2] at P W ⊢
  have z2 := W.size
  have pl := P.lt
  refine ⟨_, _, rfl, rfl, ?_⟩
  have Q := Blk.push h2 (S_api_Tenant.cs zT) 130
  have W3 := Ext.push h2 (.cells (S_api_Tenant.cs zT).toArray 130) (Nat.le_refl _)
  obtain ⟨h3, e3⟩ : ∃ y, y = h2.push (.cells (S_api_Tenant.cs zT).toArray 130) := ⟨_, rfl⟩
  rw [← e3] at Q W3 ⊢
  have z3 := W3.size
  have ql := Q.lt
  have P3 := P.ext W3 pl
  refine ⟨t.f_Keys, by rw [add_mk, P3.cell]; rfl, _, by rw [add_mk]; exact P3.wr (by rw [tcs_len]; omega), rfl, ?_⟩
  rw [show (⟨h.size, 0, none⟩ : Addr).add 1 = ⟨h.size, 1, none⟩ from by simp]
  have P4 : Blk (setH h3 ⟨h.size, 1, none⟩ (Slc.v ⟨none, 0, 0⟩)) h.size (S_api_Tenant.cs { t with f_Keys := ⟨none, 0, 0⟩ }) 130 := P3.set
  have Q4 : Blk (setH h3 ⟨h.size, 1, none⟩ (Slc.v ⟨none, 0, 0⟩)) h2.size (S_api_Tenant.cs zT) 130 := Q.old (setH_other (by dsimp only; omega))
  have X4 : Ext h.size h3 (setH h3 ⟨h.size, 1, none⟩ (Slc.v ⟨none, 0, 0⟩)) := Ext.set _ _ (Nat.le_refl _)
  generalize setH h3 ⟨h.size, 1, none⟩ (Slc.v ⟨none, 0, 0⟩) = h4 at *
  have z4 := X4.size
  have X04 : Ext h.size h h4 := (W.trans (W3.mono z2)).trans X4
  refine ⟨fun i h' => ∃ s zs', 0 ≤ i ∧ i ≤ zs.length ∧ Blk h' h.size (S_api_Tenant.cs { t with f_Keys := s }) 130 ∧ Blk h' h2.size (S_api_Tenant.cs zT) 130 ∧ KOwn (h2.size + 1) h' s zs' ∧ zs'.map absK = (zs.take i.toNat).map absK ∧ Ext h.size h h',
    fun i _ => (zs.length - i).toNat, ⟨⟨none, 0, 0⟩, [], by omega, by omega, P4, Q4, KOwn.nil _ _, by simp, X04⟩, ?_⟩
  rintro i h1 ⟨s, zs', i0, i1, P1, Q1, O1, ab, X1⟩
  have z1 := X1.size
  have p1 := P1.lt
  have q1 := Q1.lt
  have al : zs'.length = i.toNat := by have := congrArg List.length ab; simp only [List.length_map, List.length_take] at this; omega
  unfold reg_copied_l1b
  by_cases hi : i < zs.length
  · rw [if_pos (by rw [decide_eq_true_eq]; omega)]
    have hx : zs[i.toNat]? = some (zs[i.toNat]'(by omega)) := by simp
    generalize zs[i.toNat]'(by omega) = z at *
    obtain ⟨a, ha, C⟩ := (K.ext X1).1.at' i.toNat z.1 (by rw [List.getElem?_map, hx]; rfl)
    obtain ⟨zS, zl, zB, z48⟩ := K.2 z (List.mem_of_getElem? hx)
    refine ⟨a, ha, i0, by omega, z.1, C, _, _, rfl, rfl, ?_⟩
    have T := Blk.push h1 (S_api_Wrapped.cs zW) 132
    have T2 := T.sets_all (vs := S_api_Wrapped.cs z.1) rfl
    have W5 := (Ext.push h1 (.cells (S_api_Wrapped.cs zW).toArray 132) (Nat.le_refl _)).trans (Ext.sets _ (a := ⟨h1.size, 0, none⟩) 0 (S_api_Wrapped.cs z.1) (Nat.le_refl _))
    refine ⟨_, WrsAt.of_blk T (by rw [wcs_len]; omega), rfl, ?_⟩
    generalize setsH (h1.push (.cells (S_api_Wrapped.cs zW).toArray 132)) ⟨h1.size, 0, none⟩ 0 (S_api_Wrapped.cs z.1) = h5 at *
    have z5 := W5.size
    have tl := T2.lt
    refine ⟨z.1.f_B, by rw [add_mk, T2.cell]; rfl, Clone_ok zl (zS.ext (X1.trans (W5.mono z1))) (by omega) fun r h6 R6 X6 => ?_⟩
    have z6 := X6.size
    have T6 := T2.ext X6 tl
    refine ⟨_, by rw [add_mk]; exact T6.wr (by rw [wcs_len]; omega), rfl, ?_⟩
    rw [show (⟨h1.size, 0, none⟩ : Addr).add 13 = ⟨h1.size, 13, none⟩ from by simp]
    have T7 : Blk (setH h6 ⟨h1.size, 13, none⟩ (Slc.v r)) h1.size (S_api_Wrapped.cs { z.1 with f_B := r }) 132 := T6.set
    have R7 : Row h5.size (setH h6 ⟨h1.size, 13, none⟩ (Slc.v r)) 5 1 r (b8 z.2) := R6.keep fun g hg => setH_other (by have := (R6.bd hg).1; dsimp only; omega)
    have X17 : Ext h1.size h1 (setH h6 ⟨h1.size, 13, none⟩ (Slc.v r)) := (W5.trans (X6.mono z5)).trans (Ext.set _ _ (Nat.le_refl _))
    generalize setH h6 ⟨h1.size, 13, none⟩ (Slc.v r) = h7 at *
    have z7 := X17.size
    have P7 := P1.ext X17 p1
    have Q7 := Q1.ext X17 q1
    have O7 := O1.step z7 fun g _ g2 => X17.block g g2
    refine ⟨s, by rw [add_mk, P7.cell]; rfl, { z.1 with f_B := r }, CellsAt.of_blk T7, _, _, rfl, rfl, ?_⟩
    have sl := O7.2.1
    refine App.row (O7.1.pushed _) (by simp; omega) rfl rfl (oneC (by kernel_rfl)) (by omega) (by simp only [maxLen]; omega) fun s' h8 R8 l8 z8 F8 _ => ?_
    simp at z8
    have X8 : Ext (h2.size + 1) h7 h8 := ⟨by omega, fun g hg => by rw [F8 g (by simp; omega) fun e => by have := (O7.1.bd e).1; omega, Array.getElem?_push, if_neg (by omega)]⟩
    have P8 := P7.ext X8 (by omega)
    have Q8 := Q7.ext X8 (by omega)
    refine ⟨_, by rw [add_mk]; exact P8.wr (by rw [tcs_len]; omega), rfl, ?_⟩
    rw [show (⟨h.size, 0, none⟩ : Addr).add 1 = ⟨h.size, 1, none⟩ from by simp]
    have P9 : Blk (setH h8 ⟨h.size, 1, none⟩ (Slc.v s')) h.size (S_api_Tenant.cs { t with f_Keys := s' }) 130 := P8.set
    have oth : ∀ g, g ≠ h.size → (setH h8 ⟨h.size, 1, none⟩ (Slc.v s'))[g]? = h8[g]? := fun g hg => setH_other hg
    have z9 : (setH h8 ⟨h.size, 1, none⟩ (Slc.v s')).size = h8.size := setH_size
    generalize setH h8 ⟨h.size, 1, none⟩ (Slc.v s') = h9 at *
    rw [wrapI64 (by omega) (by omega)]
    have old : ∀ {B : Nat} {xs : List Value} {u : Slc}, Row B h7 5 1 u xs → h2.size + 1 ≤ B → Row B h9 5 1 u xs := fun {B xs u} Ru hB => Ru.keep fun g hg => by
      have bd := Ru.bd hg
      rw [oth g (by omega), F8 g (by simp; omega) fun e => (Row.ne_row O7.1 Ru (by decide) e) hg, Array.getElem?_push, if_neg (by omega)]
    refine ⟨⟨s', zs' ++ [({ z.1 with f_B := r }, z.2)], by omega, by omega, P9, Q8.old (oth _ (by omega)), ⟨by
        have := R8.keep fun g hg => oth g (by have := (R8.bd hg).1; omega)
        simpa using this, by rw [l8, List.length_append]; simp; omega, fun y hy => ?_⟩, ?_, ?_⟩, by dsimp only; omega⟩
    · rcases List.mem_append.1 hy with hy | hy
      · obtain ⟨a1, a2⟩ := O7.2.2 y hy
        exact ⟨old a1 (Nat.le_refl _), a2⟩
      · simp at hy; subst hy
        exact ⟨(old R7 (by omega)).mono (by omega), by have := R7.pb; exact this, zB, z48⟩
    · rw [show (i + 1).toNat = i.toNat + 1 from by omega, List.take_add_one, hx, List.map_append, List.map_append, ab]; rfl
    · have : Ext h.size h7 h9 := (X8.mono (by omega)).trans ⟨by omega, fun g hg => oth g (by omega)⟩
      exact X1.trans ((X17.mono z1).trans this)
  · rw [if_neg (by rw [decide_eq_true_eq]; omega)]
    refine ⟨_, CellsAt.of_blk P1, _, WrsAt.of_blk Q1 (by rw [tcs_len]; omega), rfl, _, CellsAt.of_blk (Q1.sets_all (vs := S_api_Tenant.cs { t with f_Keys := s }) rfl), ?_⟩
    have oth : ∀ g, g ≠ h2.size → (setsH h1 ⟨h2.size, 0, none⟩ 0 (S_api_Tenant.cs { t with f_Keys := s }))[g]? = h1[g]? := fun g hg => setsH_other _ _ hg
    have z9 : (setsH h1 ⟨h2.size, 0, none⟩ 0 (S_api_Tenant.cs { t with f_Keys := s })).size = h1.size := setsH_size _ _
    generalize setsH h1 ⟨h2.size, 0, none⟩ 0 (S_api_Tenant.cs { t with f_Keys := s }) = h9 at *
    refine H s zs' _ ((O1.step (by omega) fun g g1 g2 => oth g (by omega)).mono (by omega)) ?_ (X1.trans ⟨by omega, fun g hg => oth g (by omega)⟩)
    rw [ab, List.take_of_length_le (by omega)]
end Go.Q.Yb
set_option linter.unusedVariables false
set_option linter.unusedSimpArgs false
namespace Go.Q.Yb
/-- a tenant, and its keys -/
abbrev TZ := S_api_Tenant × List Z
abbrev zTZ : TZ := (zT, [])
structure RegAt (b : Nat) (h : Heap) (r m : Nat) (L : List (ByteArray × TZ)) : Prop where
  P : Blk h r [.map (some m)] 212
  ne : r ≠ m
  M : MapAt (K := ByteArray) (V := S_api_Tenant) .string Value.string vT h (some m) (L.map fun q => (q.1, q.2.1))
  T : ∀ q ∈ L, q.2.1.f_Name = q.1 ∧ (∀ h', Upd m h h' → KAt h' q.2.1.f_Keys q.2.2) ∧ q.2.2.length ≤ b
  n : L.length ≤ 8
  hb : b ≤ 1000
section
variable {b : Nat} {h h' : Heap} {r m : Nat} {L : List (ByteArray × TZ)}
theorem RegAt.ext (R : RegAt b h r m L) (X : Ext h.size h h') : RegAt b h' r m L :=
  ⟨R.P.ext X R.P.lt, R.ne, R.M.ext X R.M.lt, fun q hq => by obtain ⟨a, b, c⟩ := R.T q hq; exact ⟨a, fun h2 U => b h2 ((Upd.of_ext X).trans U), c⟩, R.n, R.hb⟩
theorem RegAt.look (R : RegAt b h r m L) (k : ByteArray) : mget (L.map fun q => (q.1, q.2.1)) k = (mget L k).map (·.1) := mget_map (fun q : TZ => q.1) k L
theorem RegAt.key (R : RegAt b h r m L) (k : ByteArray) : KAt h ((mget L k).getD zTZ).1.f_Keys ((mget L k).getD zTZ).2 ∧ ((mget L k).getD zTZ).2.length ≤ b := by
  cases hg : mget L k with
  | none => exact ⟨⟨⟨rfl, fun i x hx => by simp at hx⟩, fun z hz => by cases hz⟩, Nat.zero_le _⟩
  | some q => obtain ⟨_, b, c⟩ := R.T _ (mget_mem hg); exact ⟨b h (Upd.refl _ _), c⟩
theorem getD_map (o : Option TZ) : (o.map (·.1)).getD zT = (o.getD zTZ).1 := by cases o <;> rfl
theorem isSome_map (o : Option TZ) : (o.map (·.1)).isSome = o.isSome := by cases o <;> rfl
def staleA (c : S_api_Command) (t : TZ) : Bool :=
  if c.f_Kind = 1 then c.f_Epoch != 1 else if c.f_Kind = 2 then (if epA t.2 = 4294967295 then true else c.f_Epoch != IntKind.u32.wrap (epA t.2 + 1)) else if c.f_Kind = 3 then decide (c.f_Epoch > epA t.2) else if c.f_Kind = 4 then decide (c.f_Horizon < t.1.f_Horizon) else false
def askA (c : S_api_Command) (L : List (ByteArray × TZ)) : Int :=
  if c.f_Kind = 0 then 0 else if c.f_Kind = 1 ∧ (mget L c.f_Tenant).isSome = true then 7 else if c.f_Kind = 1 ∧ L.length ≥ 8 then 8 else if c.f_Kind ≠ 1 ∧ (mget L c.f_Tenant).isSome = false then 16
  else if ((mget L c.f_Tenant).getD zTZ).1.f_Shredded = true ∧ c.f_Kind ≠ 5 then 17 else if staleA c ((mget L c.f_Tenant).getD zTZ) = true then 13 else 0
theorem asks_ok {c : S_api_Command} {k : Int → Heap → Prop} (R : RegAt b h r m L) (H : ∀ h', Ext h.size h h' → k (askA c L) h') : reg_Reg_asks (some ⟨r, 0, none⟩) c k h := by
  unfold reg_Reg_asks
  refine ⟨_, _, rfl, rfl, ?_⟩
  have P := Blk.push h (S_api_Command.cs c) 32
  have W := Ext.push h (.cells (S_api_Command.cs c).toArray 32) (Nat.le_refl _)
  obtain ⟨h2, e2⟩ : ∃ y, y = h.push (.cells (S_api_Command.cs c).toArray 32) := ⟨_, rfl⟩
  rw [← e2] at P W ⊢
  have z2 := W.size
  have pl := P.lt
  have R2 := R.ext W
  refine ⟨_, rfl, some m, by rw [R2.P.cell]; rfl, c.f_Tenant, by rw [add_mk, P.cell]; rfl, _, R2.M, _, _, rfl, rfl, ?_⟩
  have Q := Blk.push h2 (S_api_Tenant.cs zT) 130
  have W3 := Ext.push h2 (.cells (S_api_Tenant.cs zT).toArray 130) (Nat.le_refl _)
  obtain ⟨h3, e3⟩ : ∃ y, y = h2.push (.cells (S_api_Tenant.cs zT).toArray 130) := ⟨_, rfl⟩
  rw [← e3] at Q W3 ⊢
  have z3 := W3.size
  have ql := Q.lt
  have P3 := P.ext W3 pl
  have R3 := R2.ext W3
  refine ⟨R3.M, by rw [add_mk, P3.cell]; rfl, by rw [R3.P.cell]; rfl, _, WrsAt.of_blk Q (by rw [tcs_len]; omega), rfl, ?_⟩
  rw [R2.look, getD_map, isSome_map]
  obtain ⟨KA, k1000⟩ := R.key c.f_Tenant
  have hb := R.hb
  have eA : ∀ t, ((mget L c.f_Tenant).getD zTZ) = t → (mget L c.f_Tenant).getD zTZ = t := fun _ h => h
  obtain ⟨t, et⟩ : ∃ t, t = (mget L c.f_Tenant).getD zTZ := ⟨_, rfl⟩
  obtain ⟨is, eis⟩ : ∃ b, b = (mget L c.f_Tenant).isSome := ⟨_, rfl⟩
  have eask : askA c L = if c.f_Kind = 0 then 0 else if c.f_Kind = 1 ∧ is = true then 7 else if c.f_Kind = 1 ∧ L.length ≥ 8 then 8 else if c.f_Kind ≠ 1 ∧ is = false then 16 else if t.1.f_Shredded = true ∧ c.f_Kind ≠ 5 then 17 else if staleA c t = true then 13 else 0 := by rw [et, eis]; rfl
  rw [← et] at KA k1000 ⊢
  rw [← eis]
  have Q2 := Q.sets_all (vs := S_api_Tenant.cs t.1) rfl
  have X4 : Ext h.size h3 (setsH h3 ⟨h2.size, 0, none⟩ 0 (S_api_Tenant.cs t.1)) := Ext.sets _ _ _ (by dsimp only; omega)
  have P4 : Blk (setsH h3 ⟨h2.size, 0, none⟩ 0 (S_api_Tenant.cs t.1)) h.size (S_api_Command.cs c) 32 := P3.old (setsH_other _ _ (by dsimp only; omega))
  have R4 : RegAt b (setsH h3 ⟨h2.size, 0, none⟩ 0 (S_api_Tenant.cs t.1)) r m L := by
    have X := (W.trans (W3.mono z2)).trans X4
    exact R.ext X
  generalize setsH h3 ⟨h2.size, 0, none⟩ 0 (S_api_Tenant.cs t.1) = h4 at *
  have z4 := X4.size
  have X04 : Ext h.size h h4 := (W.trans (W3.mono z2)).trans X4
  have q4 := Q2.lt
  have p4 := P4.lt
  have fin : ∀ h', Ext h4.size h4 h' → k (askA c L) h' := fun h' X => H h' (X04.trans (X.mono (by omega)))
  rw [eask] at fin
  have now := fin h4 (Ext.refl _ _)
  have c0 : cellH h4 (⟨h.size, 0, none⟩ : Addr) = some (.int .i64 c.f_Kind) := by rw [P4.cell]; rfl
  refine ⟨_, c0, ?_⟩
  by_cases k0 : c.f_Kind = 0
  · rw [if_pos (by simp [k0])]; rw [if_pos k0] at now; exact now
  rw [if_neg (by simpa using k0)]
  simp only [if_neg k0] at fin now
  refine ⟨_, c0, ?_⟩
  by_cases k7 : c.f_Kind = 1 ∧ is = true
  · rw [if_pos (by simp [k7.1, k7.2])]; rw [if_pos k7] at now; exact now
  rw [if_neg (by simpa using k7)]
  simp only [if_neg k7] at fin now
  refine ⟨_, c0, ?_⟩
  have j3 : ∀ {h' : Heap} {b : Bool}, Ext h4.size h4 h' → (∀ h', Ext h4.size h4 h' → k (if b = true then 13 else 0) h') → reg_Reg_asks_j3 b k h' := fun {h' b} X F => by
    have := F h' X
    unfold reg_Reg_asks_j3
    cases b with
    | true => rw [if_pos rfl]; exact this
    | false => rw [if_neg (by simp)]; exact this
  have g1 : ∀ b, b = decide (c.f_Kind = 1 ∧ L.length ≥ 8) → reg_Reg_asks_g1 ⟨h.size, 0, none⟩ ⟨h2.size, 0, none⟩ is b k h4 := fun b hb => by
    unfold reg_Reg_asks_g1
    by_cases k8 : c.f_Kind = 1 ∧ L.length ≥ 8
    · rw [hb, if_pos (by simpa using k8)]; rw [if_pos k8] at now; exact now
    rw [hb, if_neg (by simpa using k8)]
    simp only [if_neg k8] at fin now
    refine ⟨_, c0, ?_⟩
    by_cases k16 : c.f_Kind ≠ 1 ∧ is = false
    · rw [if_pos (by simp [k16.1, k16.2])]; rw [if_pos k16] at now; exact now
    rw [if_neg (by simpa using k16)]
    simp only [if_neg k16] at fin now
    have g2 : ∀ b, b = decide (t.1.f_Shredded = true ∧ c.f_Kind ≠ 5) → reg_Reg_asks_g2 ⟨h.size, 0, none⟩ ⟨h2.size, 0, none⟩ b k h4 := fun b hb => by
      unfold reg_Reg_asks_g2
      by_cases k17 : t.1.f_Shredded = true ∧ c.f_Kind ≠ 5
      · rw [hb, if_pos (by simpa using k17)]; rw [if_pos k17] at now; exact now
      rw [hb, if_neg (by simpa using k17)]
      simp only [if_neg k17] at fin now
      refine ⟨_, c0, ?_⟩
      unfold staleA at fin now
      by_cases k1 : c.f_Kind = 1
      · simp only [if_pos k1] at fin
        rw [if_pos (by simp [k1])]
        exact ⟨c.f_Epoch, by rw [add_mk, P4.cell]; rfl, j3 (Ext.refl _ _) fin⟩
      simp only [if_neg k1] at fin
      rw [if_neg (by simpa using k1)]
      by_cases k2 : c.f_Kind = 2
      · simp only [if_pos k2] at fin
        rw [if_pos (by simp [k2])]
        refine ⟨t.1, CellsAt.of_blk Q2, Epoch_ok (KA.ext X04) (by omega) fun h5 X5 => ?_⟩
        by_cases km : epA t.2 = 4294967295
        · simp only [if_pos km] at fin
          rw [if_pos (by simp [km])]
          exact j3 X5 fin
        · simp only [if_neg km] at fin
          rw [if_neg (by simpa using km)]
          have P5 := P4.ext X5 p4
          refine ⟨c.f_Epoch, by rw [add_mk, P5.cell]; rfl, t.1, CellsAt.of_blk (Q2.ext X5 q4), Epoch_ok ((KA.ext X04).ext X5) (by omega) fun h6 X6 => ?_⟩
          have X46 := X5.trans (X6.mono X5.size)
          exact ⟨by rw [add_mk, (P4.ext X46 p4).cell]; rfl, j3 X46 fin⟩
      simp only [if_neg k2] at fin
      rw [if_neg (by simpa using k2)]
      by_cases k3 : c.f_Kind = 3
      · simp only [if_pos k3] at fin
        rw [if_pos (by simp [k3])]
        refine ⟨c.f_Epoch, by rw [add_mk, P4.cell]; rfl, t.1, CellsAt.of_blk Q2, Epoch_ok (KA.ext X04) (by omega) fun h5 X5 => ?_⟩
        exact ⟨by rw [add_mk, (P4.ext X5 p4).cell]; rfl, j3 X5 fin⟩
      simp only [if_neg k3] at fin
      rw [if_neg (by simpa using k3)]
      by_cases k4 : c.f_Kind = 4
      · simp only [if_pos k4] at fin
        rw [if_pos (by simp [k4])]
        exact ⟨c.f_Horizon, by rw [add_mk, P4.cell]; rfl, t.1.f_Horizon, by rw [add_mk, Q2.cell]; rfl, j3 (Ext.refl _ _) fin⟩
      · simp only [if_neg k4] at fin
        rw [if_neg (by simpa using k4)]
        exact j3 (Ext.refl _ _) fin
    refine ⟨t.1.f_Shredded, by rw [add_mk, Q2.cell]; rfl, ?_⟩
    cases hs : t.1.f_Shredded with
    | true =>
      rw [if_pos rfl]
      exact ⟨_, c0, g2 _ (by by_cases k5 : c.f_Kind = 5 <;> simp [hs, k5])⟩
    | false =>
      rw [if_neg (by simp)]
      exact g2 _ (by simp [hs])
  by_cases k1 : c.f_Kind = 1
  · rw [if_pos (by simp [k1])]
    refine ⟨some m, by rw [R4.P.cell]; rfl, _, R4.M, ?_⟩
    rw [List.length_map]
    exact g1 _ (by rw [decide_eq_decide]; exact ⟨fun hh => ⟨k1, by omega⟩, fun hh => by have := hh.2; omega⟩)
  · rw [if_neg (by simpa using k1)]
    exact g1 _ (by simp [k1])
end
/-! ### keys are dropped -/
def oldK (e : Int) (z : Z) : Bool := decide (z.1.f_Epoch < e)
theorem A1_ok {w : S_api_Wrapped} {b : Nat} {c : S_api_Command} {k : Bool → Heap → Prop} {h : Heap} (P : Blk h b (S_api_Command.cs c) 32) (H : ∀ h', Ext h.size h h' → k (decide (w.f_Epoch < c.f_Epoch)) h') : reg_Reg_Apply_1 w ⟨b, 0, none⟩ k h := by
  unfold reg_Reg_Apply_1
  have W := Ext.push h (.cells (S_api_Wrapped.cs w).toArray 132) (Nat.le_refl _)
  have Q := Blk.push h (S_api_Wrapped.cs w) 132
  exact ⟨_, _, rfl, rfl, w.f_Epoch, by rw [Q.cell]; rfl, c.f_Epoch, by rw [add_mk, (P.ext W P.lt).cell]; rfl, H _ W⟩
theorem Idx_ok {s : Slc} {zs : List Z} {b : Nat} {c : S_api_Command} {k : Int → Heap → Prop} {h : Heap} (K : LsAt S_api_Wrapped.cs 14 h s (zs.map (·.1))) (hz : zs.length ≤ 1000000) (P : Blk h b (S_api_Command.cs c) 32)
    (H1 : ∀ i h', i < zs.length → (∀ j z, j < i → zs[j]? = some z → oldK c.f_Epoch z = false) → (∀ z, zs[i]? = some z → oldK c.f_Epoch z = true) → Ext h.size h h' → k (i : Int) h')
    (H2 : ∀ h', (∀ z ∈ zs, oldK c.f_Epoch z = false) → Ext h.size h h' → k (-1) h') : slices_IndexFunc_api_Wrapped_api_Wrapped__reg_Reg_Apply_1 s ⟨b, 0, none⟩ k h := by
  have sl : s.len = zs.length := by have := K.l; simpa using this
  unfold slices_IndexFunc_api_Wrapped_api_Wrapped__reg_Reg_Apply_1
  refine ⟨fun i h' => 0 ≤ i ∧ i ≤ zs.length ∧ (∀ j z, j < i.toNat → zs[j]? = some z → oldK c.f_Epoch z = false) ∧ Ext h.size h h', fun i _ => (zs.length - i).toNat, ⟨by omega, by omega, fun j z hj => by simp at hj, Ext.refl _ _⟩, ?_⟩
  rintro i h1 ⟨i0, i1, ha, X⟩
  have z1 := X.size
  unfold slices_IndexFunc_api_Wrapped_api_Wrapped__reg_Reg_Apply_1_l1b
  by_cases hi : i < zs.length
  · rw [if_pos (by rw [decide_eq_true_eq]; omega)]
    have hx : zs[i.toNat]? = some (zs[i.toNat]'(by omega)) := by simp
    generalize zs[i.toNat]'(by omega) = z at *
    obtain ⟨a, h3, C⟩ := (K.ext X).at' i.toNat z.1 (by rw [List.getElem?_map, hx]; rfl)
    refine ⟨a, h3, i0, by omega, z.1, C, A1_ok (P.ext X P.lt) fun h4 X4 => ?_⟩
    have X04 := X.trans (X4.mono z1)
    by_cases hb : z.1.f_Epoch < c.f_Epoch
    · rw [if_pos (by simpa using hb)]
      have := H1 i.toNat h4 (by omega) ha (fun y hy => by rw [hx] at hy; cases hy; simpa [oldK] using hb) X04
      rw [Int.toNat_of_nonneg i0] at this; exact this
    · rw [if_neg (by simpa using hb), wrapI64 (by omega) (by omega)]
      refine ⟨⟨by omega, by omega, fun j y hj hy => ?_, X04⟩, by dsimp only; omega⟩
      rcases Nat.lt_or_ge j i.toNat with h | h
      · exact ha j y h hy
      · have : j = i.toNat := by omega
        subst this
        rw [hx] at hy; cases hy; simpa [oldK] using hb
  · rw [if_neg (by rw [decide_eq_true_eq]; omega)]
    refine ⟨_, rfl, H2 _ (fun z hz => ?_) X⟩
    obtain ⟨j, hj⟩ := List.getElem?_of_mem hz
    exact ha j z (by have := (List.getElem?_eq_some_iff.1 hj).1; omega) hj
end Go.Q.Yb
set_option linter.unusedVariables false
set_option linter.unusedSimpArgs false
namespace Go.Q.Yb
theorem fm_take {α : Type} {cs : α → List Value} {w : Nat} (hc : ∀ x, (cs x).length = w) : ∀ (xs : List α) (i : Nat), (xs.flatMap cs).take (i * w) = (xs.take i).flatMap cs
  | [], i => by simp
  | y :: r, 0 => by simp
  | y :: r, i + 1 => by
    simp only [List.flatMap_cons, List.take_succ_cons]
    rw [List.take_append, hc, List.take_of_length_le (by rw [hc, Nat.add_mul]; omega), ← fm_take hc r i, show (i + 1) * w - w = i * w from by rw [Nat.add_mul]; omega]
/-- whatever but the row's block is as it was -/
structure Fr1 (s : Slc) (h h' : Heap) : Prop where
  size : h.size ≤ h'.size
  block : ∀ g, g < h.size → s.blk ≠ some g → h'[g]? = h[g]?
theorem Fr1.of_ext {s : Slc} {h h' : Heap} (X : Ext h.size h h') : Fr1 s h h' := ⟨X.size, fun g hg _ => X.block g hg⟩
theorem Fr1.trans {s : Slc} {a b c : Heap} (p : Fr1 s a b) (q : Fr1 s b c) : Fr1 s a c := ⟨Nat.le_trans p.size q.size, fun g hg hs => (q.block g (Nat.lt_of_lt_of_le hg p.size) hs).trans (p.block g hg hs)⟩
theorem Blk.diff {h : Heap} {a b E E' : Nat} {xs ys : List Value} (p : Blk h a xs E) (q : Blk h b ys E') (hE : E ≠ E') : a ≠ b := fun e => by
  subst e
  unfold Blk at p q
  obtain ⟨_, _, p1, _⟩ := p
  obtain ⟨_, _, q1, _⟩ := q
  rw [p1] at q1; cases q1; exact hE rfl
theorem Row.diff {h : Heap} {B a E w E' : Nat} {s : Slc} {xs ys : List Value} (R : Row B h E w s xs) (q : Blk h a ys E') (hE : E ≠ E') : s.blk ≠ some a := fun e => by
  rcases R.2.2 with ⟨k, _⟩ | ⟨g, cur, a1, a2, a3, _⟩
  · simp [Slc.blk, k] at e
  · simp [Slc.blk, a1] at e
    subst e
    exact Blk.diff a3 q hE rfl
abbrev keepK (e : Int) (z : Z) : Bool := !oldK e z
theorem Delete_ok {s : Slc} {zs : List Z} {B b : Nat} {c : S_api_Command} {k : Slc → Heap → Prop} {h : Heap} (O : KOwn B h s zs) (hB : B ≤ h.size) (hz : zs.length ≤ 1000000) (P : Blk h b (S_api_Command.cs c) 32)
    (H : ∀ s' h', KOwn B h' s' (zs.filter (keepK c.f_Epoch)) → Fr1 s h h' → k s' h') : slices_DeleteFunc_api_Wrapped_api_Wrapped__reg_Reg_Apply_1 s ⟨b, 0, none⟩ k h := by
  have sl := O.2.1
  unfold slices_DeleteFunc_api_Wrapped_api_Wrapped__reg_Reg_Apply_1
  refine Idx_ok O.held.now.1 hz P (fun n h2 hn hpre hat X2 => ?_) fun h2 hall X2 => ?_
  · rw [if_neg (by rw [beq_iff_eq]; omega), wrapI64 (by omega) (by omega)]
    refine ⟨_, rfl, ?_⟩
    have z2 := X2.size
    have O2 := O.step z2 fun g _ g2 => X2.block g g2
    refine ⟨fun q h' => ∃ cur, KOwn B h' s cur ∧ cur.length = zs.length ∧ 0 ≤ q.1 ∧ q.1 < q.2 ∧ q.2 ≤ zs.length ∧ cur.take q.1.toNat = (zs.take q.2.toNat).filter (keepK c.f_Epoch) ∧ cur.drop q.2.toNat = zs.drop q.2.toNat ∧ Fr1 s h h',
      fun q _ => (zs.length - q.2).toNat, ⟨zs, O2, rfl, by dsimp only; omega, by dsimp only; omega, by dsimp only; omega, ?_, rfl, Fr1.of_ext X2⟩, ?_⟩
    · dsimp only
      rw [show ((n : Int) + 1).toNat = n + 1 from by omega, show ((n : Int)).toNat = n from rfl, List.take_add_one, List.filter_append]
      have hx : zs[n]? = some (zs[n]'hn) := by simp
      rw [hx]
      have h1 : (zs.take n).filter (keepK c.f_Epoch) = zs.take n := List.filter_eq_self.2 fun z hz => by
        obtain ⟨j, hj⟩ := List.getElem?_of_mem hz
        have hjl : j < n := by have := (List.getElem?_eq_some_iff.1 hj).1; rw [List.length_take] at this; omega
        rw [List.getElem?_take, if_pos hjl] at hj
        simp [keepK, hpre j z hjl hj]
      rw [h1]
      simp [keepK, hat _ hx]
    rintro i j h3 ⟨cur, O3, cl, i0, ij, jl, ht, hd, X3⟩
    dsimp only at i0 ij jl ht hd
    have z3 := X3.size
    have P3 : Blk h3 b (S_api_Command.cs c) 32 := P.old (X3.block b P.lt (Row.diff O.1 P (by decide)))
    unfold slices_DeleteFunc_api_Wrapped_api_Wrapped__reg_Reg_Apply_1_l1b
    by_cases hj : j < zs.length
    · rw [if_pos (by rw [decide_eq_true_eq]; omega)]
      have hx : zs[j.toNat]? = some (zs[j.toNat]'(by omega)) := by simp
      generalize zs[j.toNat]'(by omega) = z at *
      have hc : cur[j.toNat]? = some z := by
        have := congrArg (fun l => l[0]?) hd
        simp only [List.getElem?_drop, Nat.add_zero] at this
        rw [this, hx]
      have KA := O3.held.now
      obtain ⟨a, ha, C⟩ := KA.1.at' j.toNat z.1 (by rw [List.getElem?_map, hc]; rfl)
      refine ⟨a, ha, by omega, by omega, z.1, C, _, _, rfl, rfl, ?_⟩
      have T := Blk.push h3 (S_api_Wrapped.cs zW) 132
      have T2 := T.sets_all (vs := S_api_Wrapped.cs z.1) rfl
      have W5 := (Ext.push h3 (.cells (S_api_Wrapped.cs zW).toArray 132) (Nat.le_refl _)).trans (Ext.sets _ (a := ⟨h3.size, 0, none⟩) 0 (S_api_Wrapped.cs z.1) (Nat.le_refl _))
      refine ⟨_, WrsAt.of_blk T (by rw [wcs_len]; omega), rfl, ?_⟩
      generalize setsH (h3.push (.cells (S_api_Wrapped.cs zW).toArray 132)) ⟨h3.size, 0, none⟩ 0 (S_api_Wrapped.cs z.1) = h5 at *
      have z5 := W5.size
      have tl := T2.lt
      refine ⟨z.1, CellsAt.of_blk T2, A1_ok (P3.ext W5 P3.lt) fun h6 X6 => ?_⟩
      have z6 := X6.size
      have T6 := T2.ext X6 tl
      have X36 : Ext h3.size h3 h6 := W5.trans (X6.mono z5)
      have O6 := O3.step X36.size fun g _ g2 => X36.block g g2
      have X06 : Fr1 s h h6 := X3.trans (Fr1.of_ext X36)
      by_cases hk : z.1.f_Epoch < c.f_Epoch
      · rw [if_neg (by simpa using hk)]
        unfold slices_DeleteFunc_api_Wrapped_api_Wrapped__reg_Reg_Apply_1_j2
        rw [wrapI64 (by omega) (by omega)]
        refine ⟨_, rfl, ⟨cur, O6, cl, by dsimp only; omega, by dsimp only; omega, by dsimp only; omega, ?_, ?_, X06⟩, by dsimp only; omega⟩
        · dsimp only
          rw [show (j + 1).toNat = j.toNat + 1 from by omega, List.take_add_one, hx, List.filter_append, ht]
          simp [keepK, oldK, hk]
        · dsimp only
          rw [show (j + 1).toNat = j.toNat + 1 from by omega, ← List.drop_drop, ← List.drop_drop, hd]
      · rw [if_pos (by simpa using hk)]
        obtain ⟨w1, w2, w3⟩ := Row.setS wcs_len O6.1 (by rw [O6.2.1]; simp) (i := i.toNat) (by simp; omega) z.1 ha
        refine ⟨z.1, CellsAt.of_blk T6, a, ha, i0, by omega, _, w1, rfl, ?_⟩
        rw [wrapI64 (x := i + 1) (by omega) (by omega)]
        refine ⟨_, rfl, ?_⟩
        unfold slices_DeleteFunc_api_Wrapped_api_Wrapped__reg_Reg_Apply_1_j2
        rw [wrapI64 (by omega) (by omega)]
        have oth : ∀ g, g ≠ a.block → (setsH h6 (a.add (i.toNat * 14)) 0 (S_api_Wrapped.cs z.1))[g]? = h6[g]? := fun g hg => setsH_other _ _ (by simpa using hg)
        have zs' : (setsH h6 (a.add (i.toNat * 14)) 0 (S_api_Wrapped.cs z.1)).size = h6.size := setsH_size _ _
        generalize setsH h6 (a.add (i.toNat * 14)) 0 (S_api_Wrapped.cs z.1) = h7 at *
        have sb : s.blk = some a.block := by simp [Slc.blk, ha]
        refine ⟨_, rfl, ⟨cur.set i.toNat z, ⟨by rw [List.map_set]; exact w2, by rw [List.length_set]; exact O6.2.1, fun y hy => ?_⟩, by rw [List.length_set]; exact cl, by dsimp only; omega, by dsimp only; omega, by dsimp only; omega, ?_, ?_, X06.trans ⟨by omega, fun g hg hs => oth g fun e => hs (by rw [sb, e])⟩⟩, by dsimp only; omega⟩
        · have hm : y ∈ cur := by
            rcases List.mem_or_eq_of_mem_set hy with h | h
            · exact h
            · rw [h]; exact List.mem_of_getElem? hc
          obtain ⟨a1, a2⟩ := O6.2.2 y hm
          exact ⟨a1.keep fun g hg => oth g fun e => (Row.ne_row O6.1 a1 (by decide) sb) (by rw [← e]; exact hg), a2⟩
        · dsimp only
          rw [show (j + 1).toNat = j.toNat + 1 from by omega, show (i + 1).toNat = i.toNat + 1 from by omega, List.take_add_one, List.take_add_one, hx, List.filter_append, ← ht, List.take_set_of_le (Nat.le_refl _), List.getElem?_set_self (by omega)]
          simp [keepK, oldK, hk]
        · dsimp only
          rw [show (j + 1).toNat = j.toNat + 1 from by omega, List.drop_set_of_lt (by omega), ← List.drop_drop, ← List.drop_drop, hd]
    · rw [if_neg (by rw [decide_eq_true_eq]; omega)]
      have jn : j.toNat = zs.length := by omega
      rw [jn, List.take_of_length_le (Nat.le_refl _)] at ht
      have sl3 := O3.2.1
      rcases O3.1.2.2 with ⟨k0, k1, _⟩ | ⟨g, cur0, a1, a2, a3, a4, a5, a6⟩
      · omega
      have hcap : s.len * 14 ≤ s.cap * 14 := Nat.mul_le_mul_right _ a4
      have s17 : subS s 14 i.toNat (s.len : Int).toNat (s.cap : Int).toNat = ⟨some ⟨g, i.toNat * 14, none⟩, s.len - i.toNat, s.cap - i.toNat⟩ := by
        simp only [subS, a1, Int.toNat_natCast]; rw [if_neg (by omega)]; simp
      have s19 : subS s 14 (0 : Int).toNat i.toNat (s.cap : Int).toNat = ⟨some ⟨g, 0, none⟩, i.toNat, s.cap⟩ := by
        simp only [subS, a1, Int.toNat_natCast]; rw [if_neg (by simp; omega)]; simp
      refine ⟨_, i0, by omega, by omega, by omega, rfl, ?_⟩
      rw [s17]
      refine ⟨fun a ha => ?_, _, rfl, _, by omega, i0, by omega, by omega, rfl, ?_⟩
      · cases ha
        intro q hq
        rw [add_mk]; exact a3.wr (by dsimp only at hq; omega)
      rw [s19]
      obtain ⟨zr, ezr⟩ : ∃ zr, zr = zrow [.int .u32 0, .int .u8 0, .int .u8 0, .int .u8 0, .int .u8 0, .int .u8 0, .int .u8 0, .int .u8 0, .int .u8 0, .int .u8 0, .int .u8 0, .int .u8 0, .int .u8 0, .slice none 0 0] (s.len - i.toNat) := ⟨_, rfl⟩
      have zrl : zr.length = (s.len - i.toNat) * 14 := by rw [ezr, zrow_len]; rfl
      have hcl : ∀ (z : List Value), clrS h3 ⟨some ⟨g, i.toNat * 14, none⟩, s.len - i.toNat, s.cap - i.toNat⟩ z = setsH h3 ⟨g, i.toNat * 14, none⟩ 0 (zrow z (s.len - i.toNat)) := fun z => rfl
      rw [hcl, ← ezr]
      have a3' := a3.sets zr (i.toNat * 14) 0 (by omega)
      have oth : ∀ g', g' ≠ g → (setsH h3 ⟨g, i.toNat * 14, none⟩ 0 zr)[g']? = h3[g']? := fun g' hg => setsH_other _ _ hg
      have zs' : (setsH h3 ⟨g, i.toNat * 14, none⟩ 0 zr).size = h3.size := setsH_size _ _
      generalize setsH h3 ⟨g, i.toNat * 14, none⟩ 0 zr = h4 at *
      have icap : i.toNat * 14 ≤ s.cap * 14 := Nat.mul_le_mul_right _ (by omega)
      have sb : s.blk = some g := by simp [Slc.blk, a1]
      refine H _ _ ⟨⟨?_, O3.1.2.1, .inr ⟨g, _, rfl, a2, a3', by dsimp only; omega, ?_, ?_⟩⟩, ?_, fun y hy => ?_⟩ (X3.trans ⟨by omega, fun g' hg hs => oth g' fun e => hs (by rw [sb, e])⟩)
      · dsimp only
        rw [← ht, fm_len wcs_len, List.length_map, List.length_take]; omega
      · dsimp only
        simp only [List.length_append, List.length_take, List.length_drop]; omega
      · dsimp only
        rw [List.append_assoc, List.take_append_of_le_length (by rw [List.length_take]; omega), List.take_take, Nat.add_zero, Nat.min_self, ← ht, List.map_take, ← fm_take wcs_len, ← a6, List.take_take, Nat.min_eq_left (by
          have : i.toNat * 14 ≤ s.len * 14 := Nat.mul_le_mul_right _ (by omega)
          exact this)]
      · dsimp only
        rw [← ht, List.length_take]; omega
      · rw [← ht] at hy
        obtain ⟨b1, b2⟩ := O3.2.2 y (List.mem_of_mem_take hy)
        exact ⟨b1.keep fun g' hg => oth g' fun e => (Row.ne_row O3.1 b1 (by decide) sb) (by rw [← e]; exact hg), b2⟩
  · rw [if_pos (by decide)]
    have z2 := X2.size
    refine H s h2 ?_ (Fr1.of_ext X2)
    rw [List.filter_eq_self.2 fun z hz => by simp [keepK, hall z hz]]
    exact O.step z2 fun g _ g2 => X2.block g g2
end Go.Q.Yb
set_option linter.unusedVariables false
set_option linter.unusedSimpArgs false
namespace Go.Q.Yb
theorem mput_len {K V : Type} [DecidableEq K] {k : K} {v : V} : ∀ {l : List (K × V)}, (mput l k v).length = if (mget l k).isSome = true then l.length else l.length + 1
  | [] => rfl
  | p :: r => by
    have hm : mget (p :: r) k = if p.1 = k then some p.2 else mget r k := rfl
    by_cases hp : p.1 = k
    · rw [if_pos hp] at hm
      rw [hm]; simp [mput, hp]
    · rw [if_neg hp] at hm
      rw [hm]; simp only [mput, if_neg hp, List.length_cons, mput_len]
      split <;> rfl
abbrev AK := Int × List Int × List Int
def absT (q : TZ) : Int × Bool × List AK := (q.1.f_Horizon, q.1.f_Shredded, q.2.map absK)
/-- what comes of a tenant -/
def newT (c : S_api_Command) (wr : List Int) (t : Int × Bool × List AK) : Int × Bool × List AK :=
  if c.f_Kind = 1 then (-9223372036854775808, false, [(c.f_Epoch, nrm 12 c.f_Nonce, wr)])
  else if c.f_Kind = 2 then (t.1, t.2.1, t.2.2 ++ [(c.f_Epoch, nrm 12 c.f_Nonce, wr)])
  else if c.f_Kind = 3 then (t.1, t.2.1, t.2.2.filter fun a => !decide (a.1 < c.f_Epoch))
  else if c.f_Kind = 4 then (c.f_Horizon, t.2.1, t.2.2)
  else if c.f_Kind = 5 then (t.1, true, []) else t
def applyE (c : S_api_Command) (n : Nat) (L : List (ByteArray × TZ)) : Int := if mayR c n = true then askA c L else 1
section
variable {b : Nat} {h0 h : Heap} {r m : Nat} {L : List (ByteArray × TZ)} {c : S_api_Command} {wr : List Int} {k : Int → Heap → Prop}
/-- the tenant is laid into the map -/
theorem Aj4_ok {bc bt : Nat} {t : S_api_Tenant} {zs : List Z} (R : RegAt b h0 r m L) (X : Ext h0.size h0 h) (C : Blk h bc (S_api_Command.cs c) 32) (T : Blk h bt (S_api_Tenant.cs t) 130) (O : KOwn h0.size h t.f_Keys zs)
    (nm : t.f_Name = c.f_Tenant) (hz : zs.length ≤ b + 1) (hb : b + 1 ≤ 1000) (hL : (mput L c.f_Tenant (t, zs)).length ≤ 8) (H : ∀ h', RegAt (b + 1) h' r m (mput L c.f_Tenant (t, zs)) → Upd m h0 h' → k 0 h') : reg_Reg_Apply_j4 (some ⟨r, 0, none⟩) ⟨bc, 0, none⟩ ⟨bt, 0, none⟩ k h := by
  unfold reg_Reg_Apply_j4
  have R1 := R.ext X
  have zx := X.size
  have ml := R.M.lt
  have rl := R.P.lt
  refine ⟨_, rfl, some m, by rw [R1.P.cell]; rfl, c.f_Tenant, by rw [add_mk, C.cell]; rfl, t, CellsAt.of_blk T, m, _, _, rfl, R1.M, rfl, ?_⟩
  have M2 := R1.M.put kStr c.f_Tenant t
  have U : Upd m h0 (setM h m (.string c.f_Tenant) (vT t)) := ⟨by rw [setM_size]; omega, fun g hg hne => by rw [setM_other hne]; exact X.block g hg⟩
  refine H _ ⟨U.blk R.P R.ne, R.ne, ?_, fun q hq => ?_, hL, hb⟩ U
  · have := mput_map (fun q : TZ => q.1) c.f_Tenant (t, zs) L
    rw [← this]; exact M2
  · rcases mput_mem hq with rfl | hq
    · refine ⟨nm, fun h2 U2 => O.held h2 fun g g1 g2 => ?_, hz⟩
      rw [U2.block g (by rw [setM_size]; exact g2) (by omega), setM_other (by omega)]
    · obtain ⟨a1, a2, a3⟩ := R.T q hq
      exact ⟨a1, fun h2 U2 => a2 h2 (U.trans U2), by omega⟩
/-- the switch -/
theorem Aj3_ok {bc bt bk : Nat} {t : S_api_Tenant} {s rw' : Slc} {zs zs' : List Z} (R : RegAt b h0 r m L) (hb : b + 1 ≤ 1000) (X : Ext h0.size h0 h) (C : Blk h bc (S_api_Command.cs c) 32) (T : Blk h bt (S_api_Tenant.cs { t with f_Keys := s }) 130) (Kb : Blk h bk (S_api_Wrapped.cs ⟨c.f_Epoch, c.f_Nonce, rw'⟩) 132)
    (O : KOwn h0.size h s zs') (ab : zs'.map absK = zs.map absK) (Rw : Row h0.size h 5 1 rw' (b8 wr)) (wB : isB wr) (hbt : h0.size ≤ bt) (hz : zs.length ≤ b) (k1 : c.f_Kind = 1 ∨ c.f_Kind = 2 ∨ c.f_Kind = 3 ∨ c.f_Kind = 4 ∨ c.f_Kind = 5) (w48 : c.f_Kind = 1 ∨ c.f_Kind = 2 → wr.length = 48) (nm : c.f_Kind ≠ 1 → t.f_Name = c.f_Tenant)
    (hL : ∀ q : TZ, (mput L c.f_Tenant q).length ≤ 8)
    (H : ∀ t' zs'' h', absT (t', zs'') = newT c wr (absT (t, zs)) → RegAt (b + 1) h' r m (mput L c.f_Tenant (t', zs'')) → Upd m h0 h' → k 0 h') : reg_Reg_Apply_j3 (some ⟨r, 0, none⟩) ⟨bc, 0, none⟩ ⟨bt, 0, none⟩ ⟨bk, 0, none⟩ k h := by
  unfold reg_Reg_Apply_j3
  have zl : zs'.length = zs.length := by have := congrArg List.length ab; simpa using this
  have sl := O.2.1
  have zx := X.size
  refine ⟨c.f_Kind, by rw [C.cell]; rfl, ?_⟩
  rw [if_neg (by rw [beq_iff_eq]; omega)]
  by_cases h1 : c.f_Kind = 1
  · rw [if_pos (by simp [h1])]
    refine ⟨c.f_Tenant, by rw [add_mk, C.cell]; rfl, _, CellsAt.of_blk Kb, _, _, rfl, rfl, ?_⟩
    have N := Blk.push h (S_api_Wrapped.cs ⟨c.f_Epoch, c.f_Nonce, rw'⟩) 132
    have W := Ext.push h (.cells (S_api_Wrapped.cs ⟨c.f_Epoch, c.f_Nonce, rw'⟩).toArray 132) (Nat.le_refl _)
    generalize h.push (.cells (S_api_Wrapped.cs ⟨c.f_Epoch, c.f_Nonce, rw'⟩).toArray 132) = h2 at *
    have z2 := W.size
    have T2 := T.ext W T.lt
    have C2 := C.ext W C.lt
    refine ⟨_, WrsAt.of_blk T2 (by rw [tcs_len]; omega), rfl, ?_⟩
    have T3 := T2.sets_all (vs := S_api_Tenant.cs ⟨c.f_Tenant, ⟨some ⟨h.size, 0, none⟩, 1, 1⟩, -9223372036854775808, false⟩) rfl
    have oth : ∀ g, g ≠ bt → (setsH h2 ⟨bt, 0, none⟩ 0 (S_api_Tenant.cs ⟨c.f_Tenant, ⟨some ⟨h.size, 0, none⟩, 1, 1⟩, -9223372036854775808, false⟩))[g]? = h2[g]? := fun g hg => setsH_other _ _ hg
    have z3 : (setsH h2 ⟨bt, 0, none⟩ 0 (S_api_Tenant.cs ⟨c.f_Tenant, ⟨some ⟨h.size, 0, none⟩, 1, 1⟩, -9223372036854775808, false⟩)).size = h2.size := setsH_size _ _
    generalize setsH h2 ⟨bt, 0, none⟩ 0 (S_api_Tenant.cs ⟨c.f_Tenant, ⟨some ⟨h.size, 0, none⟩, 1, 1⟩, -9223372036854775808, false⟩) = h3 at *
    have cb : bc ≠ bt := Blk.diff C T (by decide)
    have N3 : Blk h3 h.size (S_api_Wrapped.cs ⟨c.f_Epoch, c.f_Nonce, rw'⟩) 132 := N.old (oth _ (by have := T.lt; omega))
    have Rw3 : Row h0.size h3 5 1 rw' (b8 wr) := (Rw.ext W fun g hg => (Rw.bd hg).2).keep fun g hg => oth g fun e => by
      subst e; exact Row.diff (Rw.ext W fun g hg => (Rw.bd hg).2) T2 (by decide) hg
    refine Aj4_ok (zs := [(⟨c.f_Epoch, c.f_Nonce, rw'⟩, wr)]) R (X.trans ((W.mono zx).trans ⟨by omega, fun g hg => oth g (by omega)⟩)) (C2.old (oth _ cb)) T3 ⟨⟨rfl, by show 1 ≤ maxLen; decide, .inr ⟨h.size, _, rfl, zx, N3, Nat.le_refl _, Nat.le_refl _, rfl⟩⟩, rfl, fun z hz => ?_⟩ rfl (by simp) hb (hL _) fun h' R' U => ?_
    · simp at hz; subst hz
      exact ⟨Rw3, by have := Rw.pb; exact this, wB, w48 (.inl h1)⟩
    · exact H _ _ h' (by unfold newT; rw [if_pos h1]; rfl) R' U
  rw [if_neg (by simpa using h1)]
  have nm1 := nm h1
  by_cases h2 : c.f_Kind = 2
  · rw [if_pos (by simp [h2])]
    refine ⟨s, by rw [add_mk, T.cell]; rfl, _, CellsAt.of_blk Kb, _, _, rfl, rfl, ?_⟩
    refine App.row (O.1.pushed _) (by simp; omega) rfl rfl (oneC (by kernel_rfl)) (by omega) (by simp only [maxLen]; omega) fun s' h8 R8 l8 z8 F8 _ => ?_
    simp at z8
    have F : ∀ g, g < h.size → s.blk ≠ some g → h8[g]? = h[g]? := fun g hg hs => by rw [F8 g (by simp; omega) hs, Array.getElem?_push, if_neg (by omega)]
    have T8 : Blk h8 bt (S_api_Tenant.cs { t with f_Keys := s }) 130 := T.old (F bt T.lt (Row.diff O.1 T (by decide)))
    have C8 : Blk h8 bc (S_api_Command.cs c) 32 := C.old (F bc C.lt (Row.diff O.1 C (by decide)))
    refine ⟨_, by rw [add_mk]; exact T8.wr (by rw [tcs_len]; omega), rfl, ?_⟩
    rw [show (⟨bt, 0, none⟩ : Addr).add 1 = ⟨bt, 1, none⟩ from by simp]
    have T9 : Blk (setH h8 ⟨bt, 1, none⟩ (Slc.v s')) bt (S_api_Tenant.cs { t with f_Keys := s' }) 130 := T8.set
    have oth : ∀ g, g ≠ bt → (setH h8 ⟨bt, 1, none⟩ (Slc.v s'))[g]? = h8[g]? := fun g hg => setH_other hg
    have z9 : (setH h8 ⟨bt, 1, none⟩ (Slc.v s')).size = h8.size := setH_size
    generalize setH h8 ⟨bt, 1, none⟩ (Slc.v s') = h9 at *
    have cb : bc ≠ bt := Blk.diff C T (by decide)
    have row5 : ∀ {u : Slc} {xs : List Value}, Row h0.size h 5 1 u xs → Row h0.size h9 5 1 u xs := fun {u xs} Ru => Ru.keep fun g hg => by
      rw [oth g fun e => by subst e; exact Row.diff Ru T (by decide) hg, F g (Ru.bd hg).2 fun e => Row.ne_row O.1 Ru (by decide) e hg]
    refine Aj4_ok (zs := zs' ++ [(⟨c.f_Epoch, c.f_Nonce, rw'⟩, wr)]) R (X.trans ⟨by omega, fun g hg => by rw [oth g (by omega), F g (by omega) fun e => by have := (O.1.bd e).1; omega]⟩) (C8.old (oth _ cb)) T9
      ⟨?_, by rw [List.length_append]; simp; omega, fun z hz => ?_⟩ nm1 (by rw [List.length_append]; simp; omega) hb (hL _) fun h' R' U => ?_
    · have := R8.keep fun g hg => oth g fun e => by subst e; exact Row.diff R8 T8 (by decide) hg
      simpa using this
    · rcases List.mem_append.1 hz with hz | hz
      · obtain ⟨a1, a2⟩ := O.2.2 z hz; exact ⟨row5 a1, a2⟩
      · simp at hz; subst hz
        exact ⟨row5 Rw, by have := Rw.pb; exact this, wB, w48 (.inr h2)⟩
    · exact H _ _ h' (by unfold newT; rw [if_neg h1, if_pos h2]; simp only [absT, List.map_append, ab]; rfl) R' U
  rw [if_neg (by simpa using h2)]
  by_cases h3 : c.f_Kind = 3
  · rw [if_pos (by simp [h3])]
    refine ⟨s, by rw [add_mk, T.cell]; rfl, Delete_ok O zx (by omega) C fun s' h8 O8 F8 => ?_⟩
    have z8 := F8.size
    have T8 : Blk h8 bt (S_api_Tenant.cs { t with f_Keys := s }) 130 := T.old (F8.block bt T.lt (Row.diff O.1 T (by decide)))
    have C8 : Blk h8 bc (S_api_Command.cs c) 32 := C.old (F8.block bc C.lt (Row.diff O.1 C (by decide)))
    refine ⟨_, by rw [add_mk]; exact T8.wr (by rw [tcs_len]; omega), rfl, ?_⟩
    rw [show (⟨bt, 0, none⟩ : Addr).add 1 = ⟨bt, 1, none⟩ from by simp]
    have T9 : Blk (setH h8 ⟨bt, 1, none⟩ (Slc.v s')) bt (S_api_Tenant.cs { t with f_Keys := s' }) 130 := T8.set
    have oth : ∀ g, g ≠ bt → (setH h8 ⟨bt, 1, none⟩ (Slc.v s'))[g]? = h8[g]? := fun g hg => setH_other hg
    have z9 : (setH h8 ⟨bt, 1, none⟩ (Slc.v s')).size = h8.size := setH_size
    generalize setH h8 ⟨bt, 1, none⟩ (Slc.v s') = h9 at *
    have cb : bc ≠ bt := Blk.diff C T (by decide)
    refine Aj4_ok (zs := zs'.filter (keepK c.f_Epoch)) R (X.trans ⟨by omega, fun g hg => by rw [oth g (by omega), F8.block g (by omega) fun e => by have := (O.1.bd e).1; omega]⟩) (C8.old (oth _ cb)) T9
      ⟨O8.1.keep fun g hg => oth g fun e => by subst e; exact Row.diff O8.1 T8 (by decide) hg, O8.2.1, fun z hz => ?_⟩ nm1 (by have := List.length_filter_le (keepK c.f_Epoch) zs'; omega) hb (hL _) fun h' R' U => ?_
    · obtain ⟨a1, a2⟩ := O8.2.2 z hz
      exact ⟨a1.keep fun g hg => oth g fun e => by subst e; exact Row.diff a1 T8 (by decide) hg, a2⟩
    · refine H _ _ h' ?_ R' U
      unfold newT; rw [if_neg h1, if_neg h2, if_pos h3]
      simp only [absT, ← ab, List.filter_map]; rfl
  rw [if_neg (by simpa using h3)]
  by_cases h4 : c.f_Kind = 4
  · rw [if_pos (by simp [h4])]
    refine ⟨c.f_Horizon, by rw [add_mk, C.cell]; rfl, _, by rw [add_mk]; exact T.wr (by rw [tcs_len]; omega), rfl, ?_⟩
    rw [show (⟨bt, 0, none⟩ : Addr).add 2 = ⟨bt, 2, none⟩ from by simp]
    have T9 : Blk (setH h ⟨bt, 2, none⟩ (.int .i64 c.f_Horizon)) bt (S_api_Tenant.cs { t with f_Keys := s, f_Horizon := c.f_Horizon }) 130 := T.set
    have oth : ∀ g, g ≠ bt → (setH h ⟨bt, 2, none⟩ (.int .i64 c.f_Horizon))[g]? = h[g]? := fun g hg => setH_other hg
    have z9 : (setH h ⟨bt, 2, none⟩ (.int .i64 c.f_Horizon)).size = h.size := setH_size
    generalize setH h ⟨bt, 2, none⟩ (.int .i64 c.f_Horizon) = h9 at *
    have cb : bc ≠ bt := Blk.diff C T (by decide)
    refine Aj4_ok (zs := zs') R (X.trans ⟨by omega, fun g hg => oth g (by omega)⟩) (C.old (oth _ cb)) T9
      ⟨O.1.keep fun g hg => oth g fun e => by subst e; exact Row.diff O.1 T (by decide) hg, O.2.1, fun z hz => ?_⟩ nm1 (by omega) hb (hL _) fun h' R' U => ?_
    · obtain ⟨a1, a2⟩ := O.2.2 z hz
      exact ⟨a1.keep fun g hg => oth g fun e => by subst e; exact Row.diff a1 T (by decide) hg, a2⟩
    · exact H _ _ h' (by unfold newT; rw [if_neg h1, if_neg h2, if_neg h3, if_pos h4]; simp only [absT, ab]) R' U
  rw [if_neg (by simpa using h4)]
  have h5 : c.f_Kind = 5 := by omega
  rw [if_pos (by simp [h5])]
  refine ⟨_, by rw [add_mk]; exact T.wr (by rw [tcs_len]; omega), rfl, ?_⟩
  rw [show (⟨bt, 0, none⟩ : Addr).add 1 = ⟨bt, 1, none⟩ from by simp]
  have T8 : Blk (setH h ⟨bt, 1, none⟩ (Slc.v ⟨none, 0, 0⟩)) bt (S_api_Tenant.cs { t with f_Keys := ⟨none, 0, 0⟩ }) 130 := T.set
  refine ⟨_, by rw [add_mk]; exact T8.wr (by rw [tcs_len]; omega), rfl, ?_⟩
  rw [show (⟨bt, 0, none⟩ : Addr).add 3 = ⟨bt, 3, none⟩ from by simp]
  have T9 : Blk (setH (setH h ⟨bt, 1, none⟩ (Slc.v ⟨none, 0, 0⟩)) ⟨bt, 3, none⟩ (.bool true)) bt (S_api_Tenant.cs { t with f_Keys := ⟨none, 0, 0⟩, f_Shredded := true }) 130 := T8.set
  have oth : ∀ g, g ≠ bt → (setH (setH h ⟨bt, 1, none⟩ (Slc.v ⟨none, 0, 0⟩)) ⟨bt, 3, none⟩ (.bool true))[g]? = h[g]? := fun g hg => (setH_other hg).trans (setH_other hg)
  have z9 : (setH (setH h ⟨bt, 1, none⟩ (Slc.v ⟨none, 0, 0⟩)) ⟨bt, 3, none⟩ (.bool true)).size = h.size := setH_size.trans setH_size
  generalize setH (setH h ⟨bt, 1, none⟩ (Slc.v ⟨none, 0, 0⟩)) ⟨bt, 3, none⟩ (.bool true) = h9 at *
  have cb : bc ≠ bt := Blk.diff C T (by decide)
  refine Aj4_ok (zs := []) R (X.trans ⟨by omega, fun g hg => oth g (by omega)⟩) (C.old (oth _ cb)) T9 (KOwn.nil _ _) nm1 (by simp) hb (hL _) fun h' R' U => ?_
  exact H _ _ h' (by unfold newT; rw [if_neg h1, if_neg h2, if_neg h3, if_neg h4, if_pos h5]; rfl) R' U
/-- the key is made -/
theorem Aj2_ok {bc bt : Nat} {t : S_api_Tenant} {s : Slc} {zs zs' : List Z} (R : RegAt b h0 r m L) (hb : b + 1 ≤ 1000) (A : CmdAt h0 c wr) (wl : wr.length ≤ 100000) (X : Ext h0.size h0 h) (C : Blk h bc (S_api_Command.cs c) 32) (T : Blk h bt (S_api_Tenant.cs { t with f_Keys := s }) 130)
    (O : KOwn h0.size h s zs') (ab : zs'.map absK = zs.map absK) (hbt : h0.size ≤ bt) (hz : zs.length ≤ b) (k1 : c.f_Kind = 1 ∨ c.f_Kind = 2 ∨ c.f_Kind = 3 ∨ c.f_Kind = 4 ∨ c.f_Kind = 5) (w48 : c.f_Kind = 1 ∨ c.f_Kind = 2 → wr.length = 48) (nm : c.f_Kind ≠ 1 → t.f_Name = c.f_Tenant)
    (hL : ∀ q : TZ, (mput L c.f_Tenant q).length ≤ 8)
    (H : ∀ t' zs'' h', absT (t', zs'') = newT c wr (absT (t, zs)) → RegAt (b + 1) h' r m (mput L c.f_Tenant (t', zs'')) → Upd m h0 h' → k 0 h') : reg_Reg_Apply_j2 (some ⟨r, 0, none⟩) ⟨bc, 0, none⟩ ⟨bt, 0, none⟩ k h := by
  unfold reg_Reg_Apply_j2
  have zx := X.size
  have c2 : ∀ {h'}, Blk h' bc (S_api_Command.cs c) 32 → cellH h' ((⟨bc, 0, none⟩ : Addr).add 2) = some (.int .u32 c.f_Epoch) := fun K => by rw [add_mk, K.cell]; rfl
  have c3 : ∀ {h'}, Blk h' bc (S_api_Command.cs c) 32 → CellsAt h' ((⟨bc, 0, none⟩ : Addr).add 3) (arr 12 .u8 c.f_Nonce) := fun K => by rw [add_mk]; exact K.part (n := 12) rfl
  have c15 : ∀ {h'}, Blk h' bc (S_api_Command.cs c) 32 → cellH h' ((⟨bc, 0, none⟩ : Addr).add 15) = some (Slc.v c.f_Wrapped) := fun K => by rw [add_mk, K.cell]; rfl
  have ww : IntKind.u32.wrap c.f_Epoch = c.f_Epoch := wrapU32 A.ep.1 A.ep.2
  refine ⟨_, c2 C, _, c3 C, _, c15 C, ?_, ?_⟩
  · refine Clone_ok A.wl (A.ws.ext X) (by omega) fun rw' h1 R1 X1 => ?_
    have z1 := X1.size
    have C1 := C.ext X1 C.lt
    refine ⟨c3 C1, c2 C1, _, _, rfl, rfl, ?_⟩
    have N := Blk.push h1 (S_api_Wrapped.cs zW) 132
    have W := Ext.push h1 (.cells (S_api_Wrapped.cs zW).toArray 132) (Nat.le_refl _)
    have CW := C1.ext W C1.lt
    refine ⟨c3 CW, c2 CW, _, WrsAt.of_blk N (by rw [wcs_len]; omega), rfl, ?_⟩
    have N2 := N.sets_all (vs := S_api_Wrapped.cs ⟨c.f_Epoch, c.f_Nonce, rw'⟩) rfl
    have W2 := W.trans (Ext.sets (h1.push (.cells (S_api_Wrapped.cs zW).toArray 132)) (a := ⟨h1.size, 0, none⟩) 0 (S_api_Wrapped.cs ⟨c.f_Epoch, c.f_Nonce, rw'⟩) (Nat.le_refl _))
    generalize setsH (h1.push (.cells (S_api_Wrapped.cs zW).toArray 132)) ⟨h1.size, 0, none⟩ 0 (S_api_Wrapped.cs ⟨c.f_Epoch, c.f_Nonce, rw'⟩) = h2 at *
    have X2 : Ext h.size h h2 := X1.trans (W2.mono z1)
    exact Aj3_ok R hb (X.trans (X2.mono zx)) (C.ext X2 C.lt) (T.ext X2 T.lt) N2 (O.step X2.size fun g _ g2 => X2.block g g2) ab ((R1.ext W2 fun g hg => (R1.bd hg).2).mono zx) A.wb hbt hz k1 w48 nm hL H
  · refine ⟨_, _, rfl, rfl, ?_⟩
    have N := Blk.push h (S_api_Wrapped.cs zW) 132
    have W := Ext.push h (.cells (S_api_Wrapped.cs zW).toArray 132) (Nat.le_refl _)
    have nl := N.lt
    generalize h.push (.cells (S_api_Wrapped.cs zW).toArray 132) = h1 at *
    have z1 := W.size
    have C1 := C.ext W C.lt
    refine ⟨c15 C1, c3 C1, c2 C1, Clone_ok A.wl ((A.ws.ext X).ext W) (by omega) fun rw' h2 R2 X2 => ?_⟩
    have z2 := X2.size
    have C2 := C1.ext X2 C1.lt
    have N2 := N.ext X2 nl
    refine ⟨c3 C2, c2 C2, _, WrsAt.of_blk N2 (by rw [wcs_len]; omega), rfl, ?_⟩
    have N3 := N2.sets_all (vs := S_api_Wrapped.cs ⟨c.f_Epoch, c.f_Nonce, rw'⟩) rfl
    have X3 : Ext h.size h2 (setsH h2 ⟨h.size, 0, none⟩ 0 (S_api_Wrapped.cs ⟨c.f_Epoch, c.f_Nonce, rw'⟩)) := Ext.sets _ _ _ (Nat.le_refl _)
    have R3 : Row h1.size (setsH h2 ⟨h.size, 0, none⟩ 0 (S_api_Wrapped.cs ⟨c.f_Epoch, c.f_Nonce, rw'⟩)) 5 1 rw' (b8 wr) := R2.keep fun g hg => setsH_other _ _ (by have := (R2.bd hg).1; dsimp only; omega)
    generalize setsH h2 ⟨h.size, 0, none⟩ 0 (S_api_Wrapped.cs ⟨c.f_Epoch, c.f_Nonce, rw'⟩) = h3 at *
    have X03 : Ext h.size h h3 := (W.trans (X2.mono z1)).trans X3
    exact Aj3_ok R hb (X.trans (X03.mono zx)) (C.ext X03 C.lt) (T.ext X03 T.lt) N3 (O.step X03.size fun g _ g2 => X03.block g g2) ab (R3.mono (by omega)) A.wb hbt hz k1 w48 nm hL H
theorem askA0 (ha : askA c L = 0) (k0 : c.f_Kind ≠ 0) (hn : L.length ≤ 8) : (c.f_Kind ≠ 1 → (mget L c.f_Tenant).isSome = true) ∧ ∀ q : TZ, (mput L c.f_Tenant q).length ≤ 8 := by
  unfold askA at ha
  rw [if_neg k0] at ha
  split at ha
  · cases ha
  rename_i h7
  split at ha
  · cases ha
  rename_i h8
  split at ha
  · cases ha
  rename_i h16
  have h1 : c.f_Kind ≠ 1 → (mget L c.f_Tenant).isSome = true := fun hk => by
    cases hs : (mget L c.f_Tenant).isSome with
    | true => rfl
    | false => exact absurd ⟨hk, hs⟩ h16
  refine ⟨h1, fun q => ?_⟩
  rw [mput_len]
  split
  · exact hn
  · rename_i hs
    have : c.f_Kind = 1 := Classical.byContradiction fun hk => hs (h1 hk)
    have : ¬ L.length ≥ 8 := fun h => h8 ⟨this, h⟩
    omega
theorem mayR_kind {n : Nat} (hm : mayR c n = true) (k0 : c.f_Kind ≠ 0) : (c.f_Kind = 1 ∨ c.f_Kind = 2 ∨ c.f_Kind = 3 ∨ c.f_Kind = 4 ∨ c.f_Kind = 5) ∧ (c.f_Kind = 1 ∨ c.f_Kind = 2 → n = 48) := by
  unfold mayR at hm
  rw [if_neg k0] at hm
  by_cases h12 : c.f_Kind = 1 ∨ c.f_Kind = 2
  · rw [if_pos h12, Bool.and_eq_true, beq_iff_eq] at hm
    exact ⟨by omega, fun _ => by omega⟩
  · rw [if_neg h12] at hm
    by_cases h345 : c.f_Kind = 3 ∨ c.f_Kind = 4 ∨ c.f_Kind = 5
    · exact ⟨by omega, fun h => absurd h h12⟩
    · rw [if_neg h345] at hm; cases hm
/-- a command is applied -/
theorem Apply_ok (R : RegAt b h r m L) (hb : b + 1 ≤ 1000) (A : CmdAt h c wr) (ht : c.f_Tenant.size ≤ 100000) (wl : wr.length ≤ 100000)
    (H0 : ∀ h', applyE c wr.length L ≠ 0 ∨ c.f_Kind = 0 → Ext h.size h h' → k (applyE c wr.length L) h')
    (H1 : ∀ t' zs' h', applyE c wr.length L = 0 → c.f_Kind ≠ 0 → absT (t', zs') = newT c wr (absT ((mget L c.f_Tenant).getD zTZ)) → RegAt (b + 1) h' r m (mput L c.f_Tenant (t', zs')) → Upd m h h' → k 0 h') : reg_Reg_Apply (some ⟨r, 0, none⟩) c k h := by
  unfold reg_Reg_Apply
  refine ⟨_, _, rfl, rfl, ?_⟩
  have P := Blk.push h (S_api_Command.cs c) 32
  have W := Ext.push h (.cells (S_api_Command.cs c).toArray 32) (Nat.le_refl _)
  obtain ⟨h2, e2⟩ : ∃ y, y = h.push (.cells (S_api_Command.cs c).toArray 32) := ⟨_, rfl⟩
  rw [← e2] at P W ⊢
  have z2 := W.size
  have pl := P.lt
  rw [if_neg (by simp)]
  refine ⟨c, CellsAt.of_blk P, May_ok A.wl (by omega) fun h3 X3 => ?_⟩
  have z3 := X3.size
  have X03 : Ext h.size h h3 := W.trans (X3.mono z2)
  unfold reg_Reg_Apply_g1
  unfold applyE at H0 H1
  cases hm : mayR c wr.length with
  | false =>
    rw [hm] at H0
    rw [show (!false) = true from rfl, if_pos rfl]
    have := H0 h3 (.inl (by simp)) X03
    rw [if_neg (by simp)] at this; exact this
  | true =>
    simp only [hm, if_true] at H0 H1
    rw [show (!true) = false from rfl, if_neg (by simp)]
    have P3 := P.ext X3 pl
    refine ⟨c, CellsAt.of_blk P3, asks_ok (R.ext X03) fun h4 X4 => ?_⟩
    have z4 := X4.size
    have X04 := X03.trans (X4.mono X03.size)
    by_cases ha : askA c L = 0
    · rw [if_neg (by simp [ha])]
      have R4 := R.ext X04
      have P4 := P3.ext X4 P3.lt
      obtain ⟨KA, kb⟩ := R.key c.f_Tenant
      refine ⟨_, rfl, some m, by rw [R4.P.cell]; rfl, c.f_Tenant, by rw [add_mk, P4.cell]; rfl, _, R4.M, ?_⟩
      rw [R4.look, getD_map]
      have nm : ∀ q, mget L c.f_Tenant = some q → q.1.f_Name = c.f_Tenant := fun q hq => (R.T _ (mget_mem hq)).1
      obtain ⟨t, et⟩ : ∃ t, t = (mget L c.f_Tenant).getD zTZ := ⟨_, rfl⟩
      rw [← et] at KA kb ⊢
      have zx := X04.size
      have hb1 := R.hb
      have body : ∀ {bt : Nat} {s : Slc} {zs' : List Z} {h' : Heap}, Ext h.size h h' → Blk h' h.size (S_api_Command.cs c) 32 → Blk h' bt (S_api_Tenant.cs { t.1 with f_Keys := s }) 130 → KOwn h.size h' s zs' → zs'.map absK = t.2.map absK → h.size ≤ bt → reg_Reg_Apply_j2 (some ⟨r, 0, none⟩) ⟨h.size, 0, none⟩ ⟨bt, 0, none⟩ k h' := fun {bt s zs' h'} X C T O ab hbt => by
        by_cases k0 : c.f_Kind = 0
        · -- nothing is asked
          unfold reg_Reg_Apply_j2
          have c2 : ∀ {h'}, Blk h' h.size (S_api_Command.cs c) 32 → cellH h' ((⟨h.size, 0, none⟩ : Addr).add 2) = some (.int .u32 c.f_Epoch) := fun K => by rw [add_mk, K.cell]; rfl
          have c3 : ∀ {h'}, Blk h' h.size (S_api_Command.cs c) 32 → CellsAt h' ((⟨h.size, 0, none⟩ : Addr).add 3) (arr 12 .u8 c.f_Nonce) := fun K => by rw [add_mk]; exact K.part (n := 12) rfl
          have c15 : ∀ {h'}, Blk h' h.size (S_api_Command.cs c) 32 → cellH h' ((⟨h.size, 0, none⟩ : Addr).add 15) = some (Slc.v c.f_Wrapped) := fun K => by rw [add_mk, K.cell]; rfl
          have j3 : ∀ {bk : Nat} {h2 : Heap}, Ext h'.size h' h2 → reg_Reg_Apply_j3 (some ⟨r, 0, none⟩) ⟨h.size, 0, none⟩ ⟨bt, 0, none⟩ ⟨bk, 0, none⟩ k h2 := fun {bk h2} X2 => by
            unfold reg_Reg_Apply_j3
            refine ⟨c.f_Kind, by rw [(C.ext X2 C.lt).cell]; rfl, ?_⟩
            rw [if_pos (by simp [k0])]
            have := H0 h2 (.inr k0) (X.trans (X2.mono X.size))
            rw [ha] at this; exact this
          refine ⟨_, c2 C, _, c3 C, _, c15 C, ?_, ?_⟩
          · refine Clone_ok A.wl (A.ws.ext X) (by omega) fun rw' h1 R1 X1 => ?_
            have C1 := C.ext X1 C.lt
            refine ⟨c3 C1, c2 C1, _, _, rfl, rfl, ?_⟩
            have N := Blk.push h1 (S_api_Wrapped.cs zW) 132
            have W := Ext.push h1 (.cells (S_api_Wrapped.cs zW).toArray 132) (Nat.le_refl _)
            have CW := C1.ext W C1.lt
            refine ⟨c3 CW, c2 CW, _, WrsAt.of_blk N (by rw [wcs_len]; omega), rfl, j3 ?_⟩
            exact X1.trans ((W.trans (Ext.sets _ _ _ (Nat.le_refl _))).mono X1.size)
          · refine ⟨_, _, rfl, rfl, ?_⟩
            have N := Blk.push h' (S_api_Wrapped.cs zW) 132
            have W := Ext.push h' (.cells (S_api_Wrapped.cs zW).toArray 132) (Nat.le_refl _)
            have nl := N.lt
            generalize h'.push (.cells (S_api_Wrapped.cs zW).toArray 132) = h1 at *
            have C1 := C.ext W C.lt
            refine ⟨c15 C1, c3 C1, c2 C1, Clone_ok A.wl ((A.ws.ext X).ext W) (by omega) fun rw' h2 R2 X2 => ?_⟩
            have C2 := C1.ext X2 C1.lt
            refine ⟨c3 C2, c2 C2, _, WrsAt.of_blk (N.ext X2 nl) (by rw [wcs_len]; omega), rfl, j3 ?_⟩
            exact (W.trans (X2.mono W.size)).trans (Ext.sets _ _ _ (Nat.le_refl _))
        · obtain ⟨hk1, h48⟩ := mayR_kind hm k0
          obtain ⟨hsm, hL⟩ := askA0 ha k0 R.n
          refine Aj2_ok R hb A wl X C T O ab hbt kb hk1 h48 (fun hne => ?_) hL fun t' zs'' h'' e R' U => H1 t' zs'' h'' ha k0 (by rw [← et]; exact e) R' U
          have hs := hsm hne
          cases hg : mget L c.f_Tenant with
          | none => rw [hg] at hs; cases hs
          | some q => rw [hg] at et; rw [et]; exact nm q hg
      refine ⟨Copied_ok (KA.ext X04) (by omega) fun s zs' h5 O5 ab X5 => ?_, ?_⟩
      · have z5 := X5.size
        have X05 := X04.trans (X5.mono zx)
        refine ⟨_, _, rfl, rfl, ?_⟩
        have Q := Blk.push h5 (S_api_Tenant.cs zT) 130
        have W6 := (Ext.push h5 (.cells (S_api_Tenant.cs zT).toArray 130) (Nat.le_refl _)).trans (Ext.sets _ (a := ⟨h5.size, 0, none⟩) 0 (S_api_Tenant.cs { t.1 with f_Keys := s }) (Nat.le_refl _))
        refine ⟨_, WrsAt.of_blk Q (by rw [tcs_len]; omega), rfl, ?_⟩
        have Q2 := Q.sets_all (vs := S_api_Tenant.cs { t.1 with f_Keys := s }) rfl
        generalize setsH (h5.push (.cells (S_api_Tenant.cs zT).toArray 130)) ⟨h5.size, 0, none⟩ 0 (S_api_Tenant.cs { t.1 with f_Keys := s }) = h6 at *
        exact body (X05.trans (W6.mono X05.size)) ((P4.ext X5 P4.lt).ext W6 (by have := P4.lt; omega)) Q2 ((O5.step W6.size fun g _ g2 => W6.block g g2).mono zx) ab (by omega)
      · refine ⟨_, _, rfl, rfl, ?_⟩
        have Q := Blk.push h4 (S_api_Tenant.cs zT) 130
        have W5 := Ext.push h4 (.cells (S_api_Tenant.cs zT).toArray 130) (Nat.le_refl _)
        have ql := Q.lt
        generalize h4.push (.cells (S_api_Tenant.cs zT).toArray 130) = h5 at *
        have z5 := W5.size
        have R5 := R4.ext W5
        have P5 := P4.ext W5 P4.lt
        refine ⟨R5.M, by rw [add_mk, P5.cell]; rfl, by rw [R5.P.cell]; rfl, Copied_ok ((KA.ext X04).ext W5) (by omega) fun s zs' h6 O6 ab X6 => ?_⟩
        have z6 := X6.size
        have Q6 := Q.ext X6 ql
        refine ⟨_, WrsAt.of_blk Q6 (by rw [tcs_len]; omega), rfl, ?_⟩
        have Q7 := Q6.sets_all (vs := S_api_Tenant.cs { t.1 with f_Keys := s }) rfl
        have oth : ∀ g, g ≠ h4.size → (setsH h6 ⟨h4.size, 0, none⟩ 0 (S_api_Tenant.cs { t.1 with f_Keys := s }))[g]? = h6[g]? := fun g hg => setsH_other _ _ hg
        have z7 : (setsH h6 ⟨h4.size, 0, none⟩ 0 (S_api_Tenant.cs { t.1 with f_Keys := s })).size = h6.size := setsH_size _ _
        generalize setsH h6 ⟨h4.size, 0, none⟩ 0 (S_api_Tenant.cs { t.1 with f_Keys := s }) = h7 at *
        have X67 : Ext h4.size h6 h7 := ⟨by omega, fun g hg => oth g (by omega)⟩
        have X47 : Ext h4.size h4 h7 := (W5.trans (X6.mono z5)).trans X67
        exact body (X04.trans (X47.mono zx)) (P4.ext X47 P4.lt) Q7 ((O6.step (by omega) fun g g1 g2 => oth g (by omega)).mono (by omega)) ab zx
    · rw [if_pos (by simpa using ha)]
      exact H0 h4 (.inl ha) X04
end
end Go.Q.Yb
set_option linter.unusedVariables false
set_option linter.unusedSimpArgs false
namespace Go.Q.Yb
/-! ### what is asked, of what is told of a tenant -/
def epB (ks : List AK) : Int := match ks.getLast? with | none => 0 | some a => a.1
theorem epA_abs (zs : List Z) : epA zs = epB (zs.map absK) := by
  unfold epA epB
  rw [List.getLast?_map]
  cases zs.getLast? <;> rfl
def askB (c : S_api_Command) (o : Option (Int × Bool × List AK)) (n : Nat) : Int :=
  if c.f_Kind = 0 then 0 else if c.f_Kind = 1 ∧ o.isSome = true then 7 else if c.f_Kind = 1 ∧ n ≥ 8 then 8 else if c.f_Kind ≠ 1 ∧ o.isSome = false then 16
  else if (o.getD (0, false, [])).2.1 = true ∧ c.f_Kind ≠ 5 then 17
  else if (if c.f_Kind = 1 then c.f_Epoch != 1 else if c.f_Kind = 2 then (if epB (o.getD (0, false, [])).2.2 = 4294967295 then true else c.f_Epoch != IntKind.u32.wrap (epB (o.getD (0, false, [])).2.2 + 1)) else if c.f_Kind = 3 then decide (c.f_Epoch > epB (o.getD (0, false, [])).2.2) else if c.f_Kind = 4 then decide (c.f_Horizon < (o.getD (0, false, [])).1) else false) = true then 13 else 0
theorem askA_abs (c : S_api_Command) (L : List (ByteArray × TZ)) : askA c L = askB c ((mget L c.f_Tenant).map absT) L.length := by
  unfold askA askB staleA
  have h1 : ((mget L c.f_Tenant).map absT).isSome = (mget L c.f_Tenant).isSome := by cases mget L c.f_Tenant <;> rfl
  have h2 : ((mget L c.f_Tenant).map absT).getD (0, false, []) = absT ((mget L c.f_Tenant).getD zTZ) := by cases mget L c.f_Tenant <;> rfl
  rw [h1, h2]
  simp only [epA_abs]
  rfl
section
variable {b : Nat} {h : Heap} {r m : Nat} {L : List (ByteArray × TZ)}
theorem New_ok {k : Option Addr → Heap → Prop} (H : ∀ r m h', RegAt 0 h' r m [] → h.size ≤ r → h.size ≤ m → Ext h.size h h' → k (some ⟨r, 0, none⟩) h') : reg_New k h := by
  unfold reg_New
  refine ⟨_, _, rfl, rfl, _, _, rfl, rfl, ?_⟩
  have W := Ext.push h (.map #[] 0) (Nat.le_refl _)
  have M : MapAt (K := ByteArray) (V := S_api_Tenant) .string Value.string vT (h.push (.map #[] 0)) (some h.size) [] := MapAt.mk0
  have ml := M.lt
  generalize h.push (.map #[] 0) = h2 at *
  have P := Blk.push h2 (S_reg_Reg.cs ⟨some h.size⟩) 212
  have W2 := Ext.push h2 (.cells (S_reg_Reg.cs ⟨some h.size⟩).toArray 212) (Nat.le_refl _)
  have z2 := W.size
  exact H _ h.size _ ⟨P, by omega, M.ext W2 ml, fun q hq => (by cases hq), Nat.zero_le _, by decide⟩ z2 (Nat.le_refl _) (W.trans (W2.mono z2))
theorem Tenant_ok {name : ByteArray} {k : S_api_Tenant × Int → Heap → Prop} (R : RegAt b h r m L)
    (H0 : ∀ h', mget L name = none → Ext h.size h h' → k (zT, 16) h')
    (H1 : ∀ t s zs' h', mget L name = some t → KOwn h.size h' s zs' → zs'.map absK = t.2.map absK → Ext h.size h h' → k ({ t.1 with f_Keys := s }, 0) h') : reg_Reg_Tenant (some ⟨r, 0, none⟩) name k h := by
  unfold reg_Reg_Tenant
  refine ⟨_, _, rfl, rfl, ?_⟩
  have P := Blk.push h (S_api_Tenant.cs zT) 130
  have W := Ext.push h (.cells (S_api_Tenant.cs zT).toArray 130) (Nat.le_refl _)
  have pl := P.lt
  generalize h.push (.cells (S_api_Tenant.cs zT).toArray 130) = h2 at *
  have z2 := W.size
  rw [if_neg (by simp)]
  have R2 := R.ext W
  refine ⟨_, rfl, some m, by rw [R2.P.cell]; rfl, _, R2.M, _, _, rfl, rfl, ?_⟩
  rw [R2.look, getD_map, isSome_map]
  have Q := Blk.push h2 (S_api_Tenant.cs zT) 130
  have W3 := (Ext.push h2 (.cells (S_api_Tenant.cs zT).toArray 130) (Nat.le_refl _)).trans (Ext.sets _ (a := ⟨h2.size, 0, none⟩) 0 (S_api_Tenant.cs ((mget L name).getD zTZ).1) (Nat.le_refl _))
  refine ⟨_, WrsAt.of_blk Q (by rw [tcs_len]; omega), rfl, ?_⟩
  have Q2 := Q.sets_all (vs := S_api_Tenant.cs ((mget L name).getD zTZ).1) rfl
  generalize setsH (h2.push (.cells (S_api_Tenant.cs zT).toArray 130)) ⟨h2.size, 0, none⟩ 0 (S_api_Tenant.cs ((mget L name).getD zTZ).1) = h3 at *
  have z3 := W3.size
  have P3 := P.ext W3 pl
  have X03 : Ext h.size h h3 := W.trans (W3.mono z2)
  obtain ⟨KA, kb⟩ := R.key name
  have hb := R.hb
  cases hg : mget L name with
  | none =>
    rw [if_pos (by simp)]
    exact ⟨_, WrsAt.of_blk P3 (by rw [tcs_len]; omega), rfl, _, CellsAt.of_blk (P3.sets_all (vs := S_api_Tenant.cs zT) rfl), H0 _ hg (X03.trans (Ext.sets _ _ _ (Nat.le_refl _)))⟩
  | some t =>
    rw [if_neg (by simp)]
    rw [hg] at KA kb Q2
    refine ⟨t.1, CellsAt.of_blk Q2, Copied_ok (KA.ext X03) (by show t.2.length ≤ 1000000; have : t.2.length ≤ b := kb; omega) fun s zs' h5 O5 ab X5 => ?_⟩
    have P5 := P3.ext X5 P3.lt
    refine ⟨_, WrsAt.of_blk P5 (by rw [tcs_len]; omega), rfl, _, CellsAt.of_blk (P5.sets_all (vs := S_api_Tenant.cs { t.1 with f_Keys := s }) rfl), ?_⟩
    have oth : ∀ g, g ≠ h.size → (setsH h5 ⟨h.size, 0, none⟩ 0 (S_api_Tenant.cs { t.1 with f_Keys := s }))[g]? = h5[g]? := fun g hg => setsH_other _ _ hg
    have z6 : (setsH h5 ⟨h.size, 0, none⟩ 0 (S_api_Tenant.cs { t.1 with f_Keys := s })).size = h5.size := setsH_size _ _
    have z5 := X5.size
    generalize setsH h5 ⟨h.size, 0, none⟩ 0 (S_api_Tenant.cs { t.1 with f_Keys := s }) = h6 at *
    exact H1 t s zs' h6 hg ((O5.step (by omega) fun g g1 g2 => oth g (by omega)).mono (by omega)) ab (X03.trans ((X5.mono X03.size).trans ⟨by omega, fun g hg => oth g (by omega)⟩))
theorem REpoch_ok {name : ByteArray} {k : Int → Heap → Prop} (R : RegAt b h r m L) (H : ∀ h', Ext h.size h h' → k (epB ((mget L name).getD zTZ |> absT).2.2) h') : reg_Reg_Epoch (some ⟨r, 0, none⟩) name k h := by
  unfold reg_Reg_Epoch
  rw [if_neg (by simp)]
  refine ⟨_, rfl, some m, by rw [R.P.cell]; rfl, _, R.M, ?_⟩
  rw [R.look, getD_map]
  obtain ⟨KA, kb⟩ := R.key name
  have hb := R.hb
  refine Epoch_ok KA (by omega) fun h' X => ?_
  rw [epA_abs]; exact H h' X
end
/-! ### the example -/
abbrev tN : ByteArray := ⟨#[116]⟩
theorem tN_ok : nameOk tN = true := by decide +kernel
theorem applyE_of {c : S_api_Command} {n : Nat} {L : List (ByteArray × TZ)} {e : Int} (hm : mayR c n = true) (he : askB c ((mget L c.f_Tenant).map absT) L.length = e) : applyE c n L = e := by
  unfold applyE; rw [if_pos hm, askA_abs, he]
theorem awake25_ok {k : Bool → Heap → Prop} {h : Heap} (H : ∀ h', Ext h.size h h' → k true h') : law25_awake k h := by
  unfold law25_awake
  refine New_ok fun r m h2 R2 r0 m0 X2 => ?_
  have z2 := X2.size
  refine ⟨_, _, by omega, by omega, by omega, by omega, rfl, rfl, ?_⟩
  obtain ⟨wr, ewr⟩ : ∃ wr : List Int, wr = List.replicate 48 0 := ⟨_, rfl⟩
  have wrl : wr.length = 48 := by rw [ewr]; rfl
  have wB : isB wr := by rw [ewr]; intro x hx; have := (List.mem_replicate.1 hx).2; omega
  have ez : zrow [.int .u8 0] (48 : Int).toNat = b8 wr := by rw [ewr]; rfl
  rw [ez]
  have B := Blk.push h2 (b8 wr) 5
  have W3 := Ext.push h2 (.cells (b8 wr).toArray 5) (Nat.le_refl _)
  have bl := B.lt
  have ml := R2.M.lt
  obtain ⟨b3, eb3⟩ : ∃ x, x = h2.size := ⟨_, rfl⟩
  rw [← eb3] at B bl ml ⊢
  generalize h2.push (.cells (b8 wr).toArray 5) = h3 at *
  have z3 := W3.size
  have R3 := R2.ext W3
  have X3 : Ext h.size h h3 := X2.trans (W3.mono z2)
  have bm : b3 ≠ m := by omega
  have S : ∀ {h'}, Blk h' b3 (b8 wr) 5 → SlcAt h' ⟨some ⟨b3, 0, none⟩, (48 : Int).toNat, (48 : Int).toNat⟩ (b8 wr) := fun K => SlcAt.of_blk (ys := []) (by rw [List.append_nil]; exact K)
  have A : ∀ {h' : Heap} {kd ep : Int}, 0 ≤ ep ∧ ep < 4294967296 → Blk h' b3 (b8 wr) 5 → CmdAt h' ⟨kd, tN, ep, [], ⟨some ⟨b3, 0, none⟩, (48 : Int).toNat, (48 : Int).toNat⟩, 0⟩ wr := fun {h' kd ep} e K => ⟨S K, by rw [wrl]; rfl, wB, e, by show (-9223372036854775808 : Int) ≤ 0 ∧ (0 : Int) < 9223372036854775808; decide⟩
  -- it is made
  have e1 : applyE ⟨1, tN, 1, [], ⟨some ⟨b3, 0, none⟩, (48 : Int).toNat, (48 : Int).toNat⟩, 0⟩ wr.length [] = 0 := applyE_of (by rw [wrl]; show (nameOk tN && ((48 : Nat) : Int) == 48) = true; rw [tN_ok]; rfl) rfl
  refine Apply_ok R3 (by decide) (A (by omega) B) (by show tN.size ≤ 100000; decide) (by omega) (fun h' hh => absurd hh (by rw [e1]; simp)) fun t1 zs1 h4 _ _ ab1 R4 U4 => ?_
  have B4 := U4.blk B bm
  have ab1' : absT (t1, zs1) = (-9223372036854775808, false, [(1, nrm 12 [], wr)]) := ab1
  have z4 := U4.size
  -- its key is changed
  have g1 : mget (mput ([] : List (ByteArray × TZ)) tN (t1, zs1)) tN = some (t1, zs1) := by simp [mput, mget]
  have e2 : applyE ⟨2, tN, 2, [], ⟨some ⟨b3, 0, none⟩, (48 : Int).toNat, (48 : Int).toNat⟩, 0⟩ wr.length (mput [] tN (t1, zs1)) = 0 := applyE_of (by rw [wrl]; show (nameOk tN && ((48 : Nat) : Int) == 48) = true; rw [tN_ok]; rfl) (by
    show askB _ ((mget (mput [] tN (t1, zs1)) tN).map absT) _ = 0
    rw [g1, Option.map_some, ab1']; rfl)
  refine Apply_ok R4 (by decide) (A (by omega) B4) (by show tN.size ≤ 100000; decide) (by omega) (fun h' hh => absurd hh (by rw [e2]; simp)) fun t2 zs2 h5 _ _ ab2 R5 U5 => ?_
  have B5 := U5.blk B4 bm
  have z5 := U5.size
  have ab2' : absT (t2, zs2) = (-9223372036854775808, false, [(1, nrm 12 [], wr), (2, nrm 12 [], wr)]) := by
    rw [ab2]
    show newT _ _ (absT ((mget (mput [] tN (t1, zs1)) tN).getD zTZ)) = _
    rw [g1, Option.getD_some, ab1']; rfl
  -- the elder one is dropped
  have g2 : mget (mput (mput ([] : List (ByteArray × TZ)) tN (t1, zs1)) tN (t2, zs2)) tN = some (t2, zs2) := by simp [mput, mget]
  have e3 : applyE ⟨3, tN, 2, [], ⟨none, 0, 0⟩, 0⟩ ([] : List Int).length (mput (mput [] tN (t1, zs1)) tN (t2, zs2)) = 0 := applyE_of tN_ok (by
    show askB _ ((mget (mput (mput [] tN (t1, zs1)) tN (t2, zs2)) tN).map absT) _ = 0
    rw [g2, Option.map_some, ab2']; rfl)
  refine Apply_ok (wr := []) R5 (by decide) ⟨⟨fun _ => rfl, fun a ha => by cases ha⟩, rfl, (by intro x hx; cases hx), by decide, by decide⟩ (by decide) (by decide) (fun h' hh => absurd hh (by rw [e3]; simp)) fun t3 zs3 h6 _ _ ab3 R6 U6 => ?_
  have z6 := U6.size
  have ab3' : absT (t3, zs3) = (-9223372036854775808, false, [(2, nrm 12 [], wr)]) := by
    rw [ab3]
    show newT _ _ (absT ((mget (mput (mput [] tN (t1, zs1)) tN (t2, zs2)) tN).getD zTZ)) = _
    rw [g2, Option.getD_some, ab2']; rfl
  have g3 : mget (mput (mput (mput ([] : List (ByteArray × TZ)) tN (t1, zs1)) tN (t2, zs2)) tN (t3, zs3)) tN = some (t3, zs3) := by simp [mput, mget]
  have X6 : Ext h.size h h6 := X3.trans ((U4.trans (U5.trans U6)).ext m0 X3.size)
  refine Tenant_ok R6 (fun h' hg => by rw [g3] at hg; cases hg) fun t s zs' h7 hg O7 ab X7 => ?_
  rw [g3] at hg
  cases hg
  have z7 := X7.size
  have ks : zs3.map absK = [(2, nrm 12 [], wr)] := (Prod.mk.inj (Prod.mk.inj ab3').2).2
  rw [ks] at ab
  obtain ⟨z, hz⟩ : ∃ z, zs' = [z] := by
    have := congrArg List.length ab
    simp at this
    exact List.length_eq_one_iff.1 this
  subst hz
  have ze : z.1.f_Epoch = 2 := by
    simp only [List.map_cons, List.map_nil, List.cons.injEq, and_true, absK] at ab
    exact (Prod.mk.inj ab).1
  have R7 := R6.ext X7
  refine ⟨_, _, rfl, rfl, ?_⟩
  have Q := Blk.push h7 (S_api_Tenant.cs zT) 130
  have W8 := (Ext.push h7 (.cells (S_api_Tenant.cs zT).toArray 130) (Nat.le_refl _)).trans (Ext.sets _ (a := ⟨h7.size, 0, none⟩) 0 (S_api_Tenant.cs { t3 with f_Keys := s }) (Nat.le_refl _))
  refine ⟨_, WrsAt.of_blk Q (by rw [tcs_len]; omega), rfl, ?_⟩
  have Q2 := Q.sets_all (vs := S_api_Tenant.cs { t3 with f_Keys := s }) rfl
  dsimp only
  generalize setsH (h7.push (.cells (S_api_Tenant.cs zT).toArray 130)) ⟨h7.size, 0, none⟩ 0 (S_api_Tenant.cs { t3 with f_Keys := s }) = h8 at *
  have z8 := W8.size
  have R8 := R7.ext W8
  have O8 := O7.step z8 fun g _ g2 => W8.block g g2
  have sl := O8.2.1
  rw [if_pos (by decide)]
  have c1 : cellH h8 ((⟨h7.size, 0, none⟩ : Addr).add 1) = some (Slc.v s) := by rw [add_mk, Q2.cell]; rfl
  refine ⟨s, c1, ?_⟩
  unfold law25_awake_g1
  rw [if_pos (by rw [sl]; rfl)]
  obtain ⟨a, ha, C⟩ := O8.held.now.1.at' 0 z.1 rfl
  refine ⟨s, c1, a, ha, by omega, by rw [sl]; simp, z.1.f_Epoch, C 0 _ rfl, ?_⟩
  unfold law25_awake_g2
  rw [ze, if_pos (by decide)]
  refine REpoch_ok R8 fun h9 X9 => ?_
  unfold law25_awake_g3
  rw [g3, Option.getD_some]
  show k (epB (absT (t3, zs3)).2.2 == 2) h9
  rw [ab3']
  exact H h9 (X6.trans ((X7.trans ((W8.trans (X9.mono z8)).mono z7)).mono X6.size))
end Go.Q.Yb
