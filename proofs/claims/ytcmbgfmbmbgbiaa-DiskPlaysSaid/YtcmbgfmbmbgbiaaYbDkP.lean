/- A part of the proof of statements of this seat: lemmas, no statement of their own. -/
import Derived.Test.YtcmbgfmbmbgbiaaYbDkZ
set_option linter.unusedVariables false
set_option linter.unusedSimpArgs false
namespace Go.Q.Yb
/-! ### the two disks, plainly -/
def vw (b : List Int) (t : Bool) : List Int × Bool := if t = true then ([], true) else (b, false)
def vS (x : Sec) : List Int × Bool := vw (secB x) x.f_torn
def vN (x : AP) : List Int × Bool := vw x.now x.torn
def vW (x : AP) : List Int × Bool := vw x.was x.old
def opnA (o : Option AP) : Option AP := match o with
  | some x => if x.opn = true then some x else none
  | none => none
def ats (L : List AP) : List Int := L.map fun x => x.at'
structure Rel (X : DK) (Y : AR) : Prop where
  sorted : (ats Y.L).Pairwise (· < ·)
  now : ∀ a, (mget X.now a).map vS = (lookA Y.L a).map vN
  safe : ∀ a, (mget X.safe a).map vS = (opnA (lookA Y.L a)).map vW
  nd : (X.safe.map (·.1)).Nodup
  fuse : X.fuse = Y.fuse
  f0 : 0 ≤ X.fuse
  f1 : X.fuse ≤ 9223372036854775807
  dead : X.dead = Y.dead
  ops : X.ops = Y.ops
theorem Rel.zero : Rel ⟨[], [], 0, false, 0⟩ ⟨[], 0, false, 0⟩ := ⟨List.Pairwise.nil, fun _ => rfl, fun _ => rfl, List.nodup_nil, rfl, by decide, by decide, rfl, rfl⟩
/-! ### places looked up -/
theorem modL_ats {a : Int} {f : AP → AP} (hf : ∀ x, (f x).at' = x.at') : ∀ L, ats (modL a f L) = ats L
  | [] => rfl
  | x :: r => by
    have ih := modL_ats hf (a := a) r
    unfold modL
    split
    · show (f x).at' :: ats r = x.at' :: ats r; rw [hf]
    · show x.at' :: ats (modL a f r) = x.at' :: ats r; rw [ih]
theorem modL_look {a b : Int} {f : AP → AP} (hf : ∀ x, (f x).at' = x.at') : ∀ L, lookA (modL a f L) b = if b = a then (lookA L a).map f else lookA L b
  | [] => by show lookA [] b = _; unfold lookA; split <;> rfl
  | x :: r => by
    have ih := modL_look hf (a := a) (b := b) r
    unfold modL
    by_cases hx : x.at' = a
    · rw [if_pos hx]
      unfold lookA
      rw [hf]
      by_cases hb : b = a
      · rw [if_pos (hx.trans hb.symm), if_pos hb, if_pos hx]; rfl
      · rw [if_neg (fun e => hb (e.symm.trans hx)), if_neg hb, if_neg (fun e => hb (e.symm.trans hx))]
    · rw [if_neg hx]
      unfold lookA
      rw [ih]
      by_cases hb : b = a
      · rw [if_pos hb, if_pos hb, if_neg (fun e => hx (e.trans hb)), if_neg hx]
      · rw [if_neg hb, if_neg hb]
theorem look_mem {a : Int} {x : AP} : ∀ {L : List AP}, lookA L a = some x → x ∈ L ∧ x.at' = a
  | [], h => by cases h
  | y :: r, h => by
    unfold lookA at h
    split at h
    · cases h; exact ⟨by simp, by assumption⟩
    · obtain ⟨h1, h2⟩ := look_mem h; exact ⟨List.mem_cons_of_mem _ h1, h2⟩
theorem look_of {x : AP} : ∀ {L : List AP}, (ats L).Pairwise (· < ·) → x ∈ L → lookA L x.at' = some x
  | [], _, h => by simp at h
  | y :: r, hs, h => by
    have hs' : (y.at' :: ats r).Pairwise (· < ·) := hs
    rw [List.pairwise_cons] at hs'
    unfold lookA
    rcases List.mem_cons.1 h with rfl | h
    · rw [if_pos rfl]
    · have : y.at' < x.at' := hs'.1 _ (List.mem_map.2 ⟨x, h, rfl⟩)
      rw [if_neg (by omega)]
      exact look_of hs'.2 h
theorem ins_split {a : Int} : ∀ L : List AP, (ats L).Pairwise (· < ·) → lookA L a = none → (ats ((L.takeWhile fun x => decide (x.at' < a)) ++ newA a :: (L.dropWhile fun x => decide (x.at' < a)))).Pairwise (· < ·) ∧
    ∀ b, lookA ((L.takeWhile fun x => decide (x.at' < a)) ++ newA a :: (L.dropWhile fun x => decide (x.at' < a))) b = if b = a then some (newA a) else lookA L b
  | [], _, _ => ⟨List.pairwise_singleton _ _, fun b => by
      show lookA [newA a] b = _
      unfold lookA
      by_cases hb : b = a
      · rw [if_pos (by exact hb.symm), if_pos hb]
      · rw [if_neg (show ¬ (newA a).at' = b from fun e => hb e.symm), if_neg hb]; rfl⟩
  | y :: r, hs, hn => by
    have hs' : (y.at' :: ats r).Pairwise (· < ·) := hs
    rw [List.pairwise_cons] at hs'
    have hn' := hn
    unfold lookA at hn'
    have hya : y.at' ≠ a := fun e => by rw [if_pos e] at hn'; cases hn'
    rw [if_neg hya] at hn'
    obtain ⟨i1, i2⟩ := ins_split r hs'.2 hn'
    by_cases hy : y.at' < a
    · rw [List.takeWhile_cons, List.dropWhile_cons, if_pos (by simpa using hy), if_pos (by simpa using hy)]
      refine ⟨?_, fun b => ?_⟩
      · show (y.at' :: ats _).Pairwise (· < ·)
        rw [List.pairwise_cons]
        refine ⟨fun z hz => ?_, i1⟩
        obtain ⟨x, hx, rfl⟩ := List.mem_map.1 hz
        rcases List.mem_append.1 hx with hx | hx
        · exact hs'.1 _ (List.mem_map.2 ⟨x, (List.takeWhile_prefix _).subset hx, rfl⟩)
        · rcases List.mem_cons.1 hx with rfl | hx
          · exact hy
          · exact hs'.1 _ (List.mem_map.2 ⟨x, (List.dropWhile_suffix _).subset hx, rfl⟩)
      · show lookA (y :: _) b = if b = a then some (newA a) else lookA (y :: r) b
        unfold lookA
        by_cases hb : y.at' = b
        · rw [if_pos hb, if_neg (fun e => hya (hb.trans e)), if_pos hb]
        · rw [if_neg hb, if_neg hb]; exact i2 b
    · rw [List.takeWhile_cons, List.dropWhile_cons, if_neg (by simpa using hy), if_neg (by simpa using hy)]
      refine ⟨?_, fun b => ?_⟩
      · show (a :: y.at' :: ats r).Pairwise (· < ·)
        rw [List.pairwise_cons]
        refine ⟨fun z hz => ?_, hs⟩
        rcases List.mem_cons.1 hz with rfl | hz
        · omega
        · have := hs'.1 z hz; omega
      · show lookA (newA a :: y :: r) b = _
        by_cases hb : b = a
        · rw [if_pos hb]; unfold lookA; rw [if_pos (by exact hb.symm)]
        · rw [if_neg hb]
          show (if (newA a).at' = b then some (newA a) else lookA (y :: r) b) = _
          rw [if_neg (show ¬ (newA a).at' = b from fun e => hb e.symm)]
theorem ins_ok {a : Int} {L : List AP} (hs : (ats L).Pairwise (· < ·)) : (ats (insA L a)).Pairwise (· < ·) ∧ ∀ b, lookA (insA L a) b = if b = a then some ((lookA L a).getD (newA a)) else lookA L b := by
  unfold insA
  cases hl : lookA L a with
  | some x =>
    rw [if_pos (show (some x).isSome = true from rfl)]
    refine ⟨hs, fun b => ?_⟩
    by_cases hb : b = a
    · rw [if_pos hb, hb, hl]; rfl
    · rw [if_neg hb]
  | none =>
    rw [if_neg (by simp)]
    exact ins_split L hs hl
/-! ### what is done to both -/
theorem keys_put {K V : Type} [DecidableEq K] (k : K) (v : V) : ∀ l : List (K × V), (l.map (·.1)).Nodup → ((mput l k v).map (·.1)).Nodup
  | [], _ => by show [k].Nodup; simp
  | p :: r, h => by
    rw [List.map_cons, List.nodup_cons] at h
    unfold mput
    by_cases hp : p.1 = k
    · rw [if_pos hp, List.map_cons, List.nodup_cons]
      exact ⟨by rw [← hp]; exact h.1, h.2⟩
    · rw [if_neg hp, List.map_cons, List.nodup_cons]
      refine ⟨fun hm => ?_, keys_put k v r h.2⟩
      obtain ⟨q, hq, e⟩ := List.mem_map.1 hm
      rcases mput_in hq with rfl | hq
      · exact hp e.symm
      · exact h.1 (List.mem_map.2 ⟨q, hq, e⟩)
theorem mget_mem {K V : Type} [DecidableEq K] {k : K} : ∀ {l : List (K × V)}, k ∈ l.map (·.1) ↔ (mget l k).isSome = true
  | [] => by simp [mget]
  | p :: r => by
    have ih := mget_mem (k := k) (l := r)
    unfold mget
    rw [List.map_cons, List.mem_cons]
    by_cases hp : p.1 = k
    · rw [if_pos hp]; simp [hp]
    · rw [if_neg hp, ← ih]
      exact ⟨fun h => h.elim (fun e => absurd e.symm hp) id, .inr⟩
theorem vS_pad {bs : List Int} (hl : bs.length ≤ 128) : vS ⟨padB bs, false⟩ = (padB bs, false) := by
  unfold vS vw
  rw [if_neg (by simp)]
  show (nrm 128 (padB bs), false) = _
  rw [nrm_id (pad_len hl)]
theorem vS_zero : vS zSec = (zB, false) := by
  unfold vS vw
  rw [if_neg (by simp)]
  show (nrm 128 [], false) = _
  rw [nrm_nil]; rfl
section
variable {X : DK} {Y : AR}
theorem Rel.read (R : Rel X Y) (a : Int) : readD X a = readA Y a := by
  unfold readD readA
  by_cases ha : a < 0 ∨ a ≥ 1024
  · rw [if_pos ha, if_pos ha]
  rw [if_neg ha, if_neg ha]
  have h := R.now a
  cases hm : mget X.now a with
  | none =>
    rw [hm] at h
    cases hl : lookA Y.L a with
    | none =>
      dsimp only
      rw [if_neg (by simp)]
      show (nrm 128 [], (0 : Int)) = _
      rw [nrm_nil]; rfl
    | some x => rw [hl] at h; cases h
  | some s =>
    rw [hm] at h
    cases hl : lookA Y.L a with
    | none => rw [hl] at h; cases h
    | some x =>
      rw [hl] at h
      have h' : vS s = vN x := Option.some.inj h
      unfold vS vN vw at h'
      dsimp only
      show (if s.f_torn = true then (([] : List Int), (9 : Int)) else (secB s, 0)) = _
      cases hs : s.f_torn <;> cases ht : x.torn <;> rw [hs, ht] at h' <;> simp at h' ⊢
      exact h'
theorem Rel.burn (R : Rel X Y) (hd : X.dead = false) : (burnD X).1 = (burnA Y).1 ∧ Rel (burnD X).2 (burnA Y).2 := by
  have hf := R.fuse
  have h0 := R.f0
  have h1 := R.f1
  have hdY : Y.dead = false := R.dead ▸ hd
  have ho := R.ops
  unfold burnD burnA
  by_cases hz : X.fuse = 0
  · rw [if_pos hz, if_neg (by omega)]
    exact ⟨rfl, R.sorted, R.now, R.safe, R.nd, R.fuse, R.f0, R.f1, R.dead, by show IntKind.i64.wrap _ = IntKind.i64.wrap _; rw [ho]⟩
  · rw [if_neg hz, if_pos (by omega), ← hf]
    have w : IntKind.i64.wrap (X.fuse - 1) = X.fuse - 1 := wrapI64 (by omega) (by omega)
    refine ⟨rfl, R.sorted, R.now, R.safe, R.nd, rfl, by show 0 ≤ IntKind.i64.wrap (X.fuse - 1); rw [w]; omega, by show IntKind.i64.wrap (X.fuse - 1) ≤ _; rw [w]; omega, ?_, by show IntKind.i64.wrap _ = IntKind.i64.wrap _; rw [ho]⟩
    show (IntKind.i64.wrap (X.fuse - 1) == 0) = if IntKind.i64.wrap (X.fuse - 1) = 0 then true else Y.dead
    rw [hdY]
    by_cases hw : IntKind.i64.wrap (X.fuse - 1) = 0
    · rw [if_pos hw, hw]; rfl
    · rw [if_neg hw]; simpa using hw
theorem Rel.laid (R : Rel X Y) (a : Int) {bs : List Int} (hl : bs.length ≤ 128) : Rel (laidD X a bs) { Y with L := modL a (updA bs) (insA Y.L a) } := by
  obtain ⟨s1, s2⟩ := ins_ok (a := a) R.sorted
  have hu : ∀ x, (updA bs x).at' = x.at' := fun _ => rfl
  have look : ∀ b, lookA (modL a (updA bs) (insA Y.L a)) b = if b = a then some (updA bs ((lookA Y.L a).getD (newA a))) else lookA Y.L b := fun b => by
    rw [modL_look hu, s2, s2, if_pos rfl]
    by_cases hb : b = a
    · rw [if_pos hb, if_pos hb]; rfl
    · rw [if_neg hb, if_neg hb, if_neg hb]
  have hn := R.now a
  have hs := R.safe a
  refine ⟨by show (ats (modL a (updA bs) (insA Y.L a))).Pairwise _; rw [modL_ats hu]; exact s1, fun b => ?_, fun b => ?_, ?_, R.fuse, R.f0, R.f1, R.dead, R.ops⟩
  · show (mget (mput X.now a ⟨padB bs, false⟩) b).map vS = (lookA (modL a (updA bs) (insA Y.L a)) b).map vN
    rw [mget_put, look]
    by_cases hb : b = a
    · rw [if_pos hb, if_pos hb]
      show some (vS ⟨padB bs, false⟩) = some (vN (updA bs _))
      rw [vS_pad hl]; rfl
    · rw [if_neg hb, if_neg hb]; exact R.now b
  · show (mget (if (mget X.safe a).isSome = true then X.safe else mput X.safe a ((mget X.now a).getD zSec)) b).map vS = (opnA (lookA (modL a (updA bs) (insA Y.L a)) b)).map vW
    rw [look]
    by_cases hb : b = a
    · rw [if_pos hb, hb]
      have eY : (opnA (some (updA bs ((lookA Y.L a).getD (newA a))))).map vW = some (vW (updA bs ((lookA Y.L a).getD (newA a)))) := rfl
      rw [eY]
      cases hm : mget X.safe a with
      | some x =>
        rw [hm] at hs
        rw [if_pos (show (some x).isSome = true from rfl), hm]
        cases hlk : lookA Y.L a with
        | none => rw [hlk] at hs; cases hs
        | some y =>
          rw [hlk] at hs
          cases ho : y.opn with
          | false => simp [opnA, ho] at hs
          | true =>
            simp only [opnA, ho, if_true] at hs
            rw [hs]
            show some (vW y) = some (vw (if y.opn = true then y.was else y.now) (if y.opn = true then y.old else y.torn))
            rw [ho]; rfl
      | none =>
        rw [hm] at hs
        rw [if_neg (by simp), mget_put, if_pos rfl]
        cases hlk : lookA Y.L a with
        | none =>
          rw [hlk] at hn
          have : mget X.now a = none := by
            cases h : mget X.now a with
            | none => rfl
            | some z => rw [h] at hn; cases hn
          rw [this]
          show some (vS zSec) = some (vw zB false)
          rw [vS_zero]; rfl
        | some y =>
          rw [hlk] at hs hn
          cases ho : y.opn with
          | true => simp [opnA, ho] at hs
          | false =>
            cases h : mget X.now a with
            | none => rw [h] at hn; cases hn
            | some z =>
              rw [h] at hn
              have hn' : vS z = vN y := Option.some.inj hn
              show some (vS z) = some (vw (if y.opn = true then y.was else y.now) (if y.opn = true then y.old else y.torn))
              rw [ho, hn']; rfl
    · rw [if_neg hb]
      have : mget (if (mget X.safe a).isSome = true then X.safe else mput X.safe a ((mget X.now a).getD zSec)) b = mget X.safe b := by
        split
        · rfl
        · rw [mget_put, if_neg hb]
      rw [this]; exact R.safe b
  · show ((if (mget X.safe a).isSome = true then X.safe else mput X.safe a ((mget X.now a).getD zSec)).map (·.1)).Nodup
    split
    · exact R.nd
    · exact keys_put _ _ _ R.nd
theorem Rel.write (R : Rel X Y) (a : Int) (bs : List Int) : (writeD X a bs).1 = (writeA Y a bs).1 ∧ Rel (writeD X a bs).2 (writeA Y a bs).2 := by
  unfold writeD writeA
  have hY : Y.dead = X.dead := R.dead.symm
  by_cases hd : X.dead = true
  · rw [if_pos hd, if_pos (show Y.dead = true from hY.trans hd)]; exact ⟨rfl, R⟩
  rw [if_neg hd, if_neg (show ¬ Y.dead = true from fun e => hd (hY.symm.trans e))]
  by_cases ha : a < 0 ∨ a ≥ 1024
  · rw [if_pos ha, if_pos ha]; exact ⟨rfl, R⟩
  rw [if_neg ha, if_neg ha]
  by_cases hl : bs.length > 128
  · rw [if_pos hl, if_pos hl]; exact ⟨rfl, R⟩
  rw [if_neg hl, if_neg hl]
  have L := R.laid a (bs := bs) (by omega)
  obtain ⟨b1, b2⟩ := L.burn (show X.dead = false by simpa using hd)
  exact ⟨congrArg endD b1, b2⟩
theorem closeA_look (a : Int) : ∀ L : List AP, lookA (L.map closeA) a = (lookA L a).map closeA
  | [] => rfl
  | x :: r => by
    have ih := closeA_look a r
    rw [List.map_cons]
    unfold lookA
    show (if x.at' = a then some (closeA x) else lookA (r.map closeA) a) = _
    split
    · rfl
    · exact ih
theorem Rel.sync (R : Rel X Y) : (syncD X).1 = (syncA Y).1 ∧ Rel (syncD X).2 (syncA Y).2 := by
  unfold syncD syncA
  have hY : Y.dead = X.dead := R.dead.symm
  by_cases hd : X.dead = true
  · rw [if_pos hd, if_pos (show Y.dead = true from hY.trans hd)]; exact ⟨rfl, R⟩
  rw [if_neg hd, if_neg (show ¬ Y.dead = true from fun e => hd (hY.symm.trans e))]
  obtain ⟨b1, b2⟩ := R.burn (by simpa using hd)
  rw [← b1]
  cases hb : (burnD X).1 with
  | true => rw [if_pos rfl, if_pos rfl]; exact ⟨rfl, b2⟩
  | false =>
    rw [if_neg (by simp), if_neg (by simp)]
    refine ⟨rfl, ?_, fun a => ?_, fun a => ?_, List.nodup_nil, b2.fuse, b2.f0, b2.f1, b2.dead, b2.ops⟩
    · show (ats ((burnA Y).2.L.map closeA)).Pairwise _
      have : ats ((burnA Y).2.L.map closeA) = ats (burnA Y).2.L := by unfold ats; rw [List.map_map]; rfl
      rw [this]; exact b2.sorted
    · show (mget (burnD X).2.now a).map vS = (lookA ((burnA Y).2.L.map closeA) a).map vN
      rw [closeA_look, b2.now a]
      cases lookA (burnA Y).2.L a <;> rfl
    · show none = (opnA (lookA ((burnA Y).2.L.map closeA) a)).map vW
      rw [closeA_look]
      cases lookA (burnA Y).2.L a <;> rfl
theorem Rel.fuseN (R : Rel X Y) (n : Int) (hn : n ≤ 9223372036854775807) : (fuseD X n).1 = (if Y.dead = true then 10 else 0) ∧ Rel (fuseD X n).2 (if Y.dead = true then Y else { Y with fuse := if 0 > n then 0 else n }) := by
  unfold fuseD
  have hY : Y.dead = X.dead := R.dead.symm
  by_cases hd : X.dead = true
  · rw [if_pos hd, if_pos (show Y.dead = true from hY.trans hd), if_pos (show Y.dead = true from hY.trans hd)]; exact ⟨rfl, R⟩
  rw [if_neg hd, if_neg (show ¬ Y.dead = true from fun e => hd (hY.symm.trans e)), if_neg (show ¬ Y.dead = true from fun e => hd (hY.symm.trans e))]
  exact ⟨rfl, R.sorted, R.now, R.safe, R.nd, rfl, by show 0 ≤ (if 0 > n then 0 else n); split <;> omega, by show (if 0 > n then 0 else n) ≤ _; split <;> omega, R.dead, R.ops⟩
/-! ### the power comes back, on both -/
def valD (f : Int) (safe now : List (Int × Sec)) (a : Int) : Option Sec := if f = 0 then some ((mget safe a).getD zSec) else if f = 2 then some ⟨[], true⟩ else mget now a
theorem bootGo_get {fs : List Int} {safe now : List (Int × Sec)} {ks : List Int} (nd : ks.Nodup) (a : Int) : ∀ n, n ≤ ks.length →
    (∀ j, j < n → ks[j]? = some a → mget (bootGo fs safe ks n now) a = valD (fateD fs j) safe now a) ∧ ((∀ j, j < n → ks[j]? ≠ some a) → mget (bootGo fs safe ks n now) a = mget now a)
  | 0, _ => ⟨fun j hj => by omega, fun _ => rfl⟩
  | n + 1, hn => by
    obtain ⟨i1, i2⟩ := bootGo_get (fs := fs) (safe := safe) (now := now) nd a n (by omega)
    have hk : ks[n]? = some (ks.getD n 0) := by
      rw [List.getD_eq_getElem?_getD, List.getElem?_eq_getElem (by omega)]; rfl
    have step : mget (bootGo fs safe ks (n + 1) now) a = if a = ks.getD n 0 then (if fateD fs n = 0 then some ((mget safe a).getD zSec) else if fateD fs n = 2 then some ⟨[], true⟩ else mget (bootGo fs safe ks n now) a) else mget (bootGo fs safe ks n now) a := by
      show mget (bootOne fs safe n (ks.getD n 0) (bootGo fs safe ks n now)) a = _
      unfold bootOne
      by_cases ha : a = ks.getD n 0
      · rw [if_pos ha]
        split
        · rw [mget_put, if_pos ha, ← ha]
        · split
          · rw [mget_put, if_pos ha]
          · rfl
      · rw [if_neg ha]
        split
        · rw [mget_put, if_neg ha]
        · split
          · rw [mget_put, if_neg ha]
          · rfl
    refine ⟨fun j hj hja => ?_, fun hno => ?_⟩
    · rw [step]
      by_cases hjn : j = n
      · subst hjn
        rw [hk] at hja
        have ha : ks.getD j 0 = a := Option.some.inj hja
        rw [if_pos ha.symm]
        have : mget (bootGo fs safe ks j now) a = mget now a := i2 fun i hi hia => by
          have := (List.getElem?_inj (i := i) (j := j) (by omega) nd).1 (hia.trans (by rw [hk, ha])); omega
        rw [this]; rfl
      · have ha : a ≠ ks.getD n 0 := fun e => by
          have := (List.getElem?_inj (i := j) (j := n) (by omega) nd).1 (hja.trans (by rw [hk, ← e])); omega
        rw [if_neg ha]
        exact i1 j (by omega) hja
    · rw [step, if_neg (fun e => hno n (by omega) (by rw [hk, ← e]))]
      exact i2 fun j hj => hno j (by omega)
theorem opn_at : ∀ {L : List AP} {i : Nat} {x : AP}, L[i]? = some x → x.opn = true → (L.filter fun x => x.opn)[cntA L i]? = some x
  | [], i, x, h, _ => by simp at h
  | y :: r, 0, x, h, ho => by
    simp at h; subst h
    unfold cntA
    simp [ho]
  | y :: r, i + 1, x, h, ho => by
    have ih := opn_at (L := r) (i := i) (x := x) (by simpa using h) ho
    unfold cntA at ih ⊢
    rw [List.take_succ_cons]
    cases hy : y.opn <;> simp [hy] <;> simpa using ih
theorem look_idx {a : Int} {x : AP} : ∀ {L : List AP}, lookA L a = some x → ∃ i : Nat, L[i]? = some x ∧ ∀ (j : Nat) (y : AP), j < i → L[j]? = some y → y.at' ≠ a
  | [], h => by cases h
  | y :: r, h => by
    unfold lookA at h
    split at h
    · cases h; exact ⟨0, rfl, fun j y hj => by omega⟩
    · rename_i hy
      obtain ⟨i, h1, h2⟩ := look_idx h
      refine ⟨i + 1, by simpa using h1, fun j z hj hz => ?_⟩
      cases j with
      | zero => simp at hz; subst hz; exact hy
      | succ j => exact h2 j z (by omega) (by simpa using hz)
theorem Rel.keys (R : Rel X Y) : keysD X = ats (Y.L.filter fun x => x.opn) := by
  have srt : (ats (Y.L.filter fun x => x.opn)).Pairwise (· < ·) := by
    have := R.sorted
    unfold ats at this ⊢
    rw [List.pairwise_map] at this ⊢
    exact this.filter _
  have nd2 : (ats (Y.L.filter fun x => x.opn)).Nodup := List.nodup_iff_pairwise_ne.2 (srt.imp fun h => by omega)
  have pm : (X.safe.map (·.1)).Perm (ats (Y.L.filter fun x => x.opn)) := (List.perm_ext_iff_of_nodup R.nd nd2).2 fun a => by
    rw [mget_mem]
    have h := R.safe a
    constructor
    · intro hs
      cases hm : mget X.safe a with
      | none => rw [hm] at hs; cases hs
      | some z =>
        rw [hm] at h
        cases hl : lookA Y.L a with
        | none => rw [hl] at h; cases h
        | some x =>
          rw [hl] at h
          cases ho : x.opn with
          | false => simp [opnA, ho] at h
          | true =>
            obtain ⟨h1, h2⟩ := look_mem hl
            exact List.mem_map.2 ⟨x, List.mem_filter.2 ⟨h1, ho⟩, h2⟩
    · intro hm
      obtain ⟨x, hx, e⟩ := List.mem_map.1 hm
      obtain ⟨h1, h2⟩ := List.mem_filter.1 hx
      have hl := look_of R.sorted h1
      rw [e] at hl
      rw [hl] at h
      have h2' : x.opn = true := h2
      simp only [opnA, h2', if_true] at h
      cases hm : mget X.safe a with
      | none => rw [hm] at h; cases h
      | some z => rfl
  unfold keysD srtI
  have e1 := Go.mergeSort_of_perm_i pm
  have e2 : (ats (Y.L.filter fun x => x.opn)).mergeSort Go.leI = ats (Y.L.filter fun x => x.opn) := List.mergeSort_of_pairwise (srt.imp fun h => by simp only [Go.leI, decide_eq_true_eq]; omega)
  exact e1.trans e2
theorem boot_look {F : Nat → AP → AP} (hF : ∀ i x, (F i x).at' = x.at') (a : Int) : ∀ (L : List AP) (F : Nat → AP → AP), (∀ i x, (F i x).at' = x.at') → (lookA L a = none → lookA (L.mapIdx F) a = none) ∧ ∀ (i : Nat) (x : AP), L[i]? = some x → x.at' = a → (∀ (j : Nat) (y : AP), j < i → L[j]? = some y → y.at' ≠ a) → lookA (L.mapIdx F) a = some (F i x)
  | [], F, _ => ⟨fun _ => rfl, fun i x h => by simp at h⟩
  | y :: r, F, hF' => by
    obtain ⟨i1, i2⟩ := boot_look hF a r (fun i => F (i + 1)) fun i x => hF' _ _
    rw [List.mapIdx_cons]
    refine ⟨fun hn => ?_, fun i x hx ha hp => ?_⟩
    · unfold lookA at hn ⊢
      rw [hF']
      split at hn
      · cases hn
      · rename_i hy
        rw [if_neg hy]; exact i1 hn
    · unfold lookA
      rw [hF']
      cases i with
      | zero => simp at hx; subst hx; rw [if_pos ha]
      | succ i =>
        rw [if_neg (hp 0 y (by omega) rfl)]
        exact i2 i x (by simpa using hx) ha fun j z hj hz => hp (j + 1) z (by omega) (by simpa using hz)
theorem step_at (fs : List Int) (L : List AP) (i : Nat) (x : AP) : (stepA fs L i x).at' = x.at' := by unfold stepA; split <;> rfl
theorem step_opn (fs : List Int) (L : List AP) (i : Nat) (x : AP) : (stepA fs L i x).opn = false := by
  unfold stepA
  cases h : x.opn
  · rw [if_neg (by simp)]; exact h
  · rw [if_pos rfl]; rfl
theorem Rel.boot (R : Rel X Y) (fs : List Int) : Rel (bootD X fs) (bootA Y fs) := by
  have hk := R.keys
  have ndk : (keysD X).Nodup := by
    unfold keysD srtI
    exact (List.mergeSort_perm _ _).nodup_iff.2 R.nd
  have kl : X.safe.length = (keysD X).length := keysD_len.symm
  refine ⟨?_, fun a => ?_, fun a => ?_, List.nodup_nil, rfl, by show (0 : Int) ≤ 0; omega, by show (0 : Int) ≤ _; omega, rfl, R.ops⟩
  · show (ats (Y.L.mapIdx (stepA fs Y.L))).Pairwise _
    have : ats (Y.L.mapIdx (stepA fs Y.L)) = ats Y.L := by
      unfold ats
      rw [map_mapIdx2]
      have : (fun (i : Nat) (x : AP) => (stepA fs Y.L i x).at') = fun _ x => x.at' := by funext i x; exact step_at fs Y.L i x
      rw [this]; exact map_const (f := fun x : AP => x.at') _
    rw [this]; exact R.sorted
  · show (mget (bootGo fs X.safe (keysD X) X.safe.length X.now) a).map vS = (lookA (Y.L.mapIdx (stepA fs Y.L)) a).map vN
    obtain ⟨g1, g2⟩ := bootGo_get (fs := fs) (safe := X.safe) (now := X.now) ndk a X.safe.length (by omega)
    obtain ⟨l1, l2⟩ := boot_look (F := stepA fs Y.L) (step_at fs Y.L) a Y.L (stepA fs Y.L) (step_at fs Y.L)
    have hn := R.now a
    have hs := R.safe a
    have no : opnA (lookA Y.L a) = none → mget (bootGo fs X.safe (keysD X) X.safe.length X.now) a = mget X.now a := fun ho => g2 fun j hj hja => by
      rw [ho] at hs
      have : a ∈ X.safe.map (·.1) := by
        have : a ∈ keysD X := List.mem_of_getElem? hja
        unfold keysD srtI at this
        exact (List.mergeSort_perm _ _).mem_iff.1 this
      rw [mget_mem] at this
      cases hm : mget X.safe a with
      | none => rw [hm] at this; cases this
      | some z => rw [hm] at hs; cases hs
    cases hl : lookA Y.L a with
    | none =>
      rw [l1 hl, no (by rw [hl]; rfl), hn, hl]
    | some x =>
      obtain ⟨i, hi, hp⟩ := look_idx hl
      have hxa := (look_mem hl).2
      rw [l2 i x hi hxa hp]
      cases ho : x.opn with
      | false =>
        rw [no (by rw [hl]; simp [opnA, ho]), hn, hl]
        unfold stepA; rw [ho, if_neg (by simp)]
      | true =>
        have hj : (keysD X)[cntA Y.L i]? = some a := by
          rw [hk]
          unfold ats
          rw [List.getElem?_map, opn_at hi ho]
          show some x.at' = some a
          rw [hxa]
        have hjl : cntA Y.L i < X.safe.length := by rw [kl]; exact (List.getElem?_eq_some_iff.1 hj).1
        rw [g1 _ hjl hj]
        unfold stepA
        rw [if_pos ho]
        rw [hl] at hs hn
        simp only [opnA, ho, if_true] at hs
        generalize fateD fs (cntA Y.L i) = f
        unfold valD boot1
        by_cases f0 : f = 0
        · rw [if_pos f0]
          cases hm : mget X.safe a with
          | none => rw [hm] at hs; cases hs
          | some z =>
            rw [hm] at hs
            have h' : vS z = vW x := Option.some.inj hs
            show some (vS z) = some (vw (if f = 0 then x.was else x.now) (if f = 0 then x.old else if f = 2 then true else x.torn))
            rw [if_pos f0, if_pos f0, h']; rfl
        · rw [if_neg f0]
          by_cases f2 : f = 2
          · rw [if_pos f2]
            show some (vS ⟨[], true⟩) = some (vw (if f = 0 then x.was else x.now) (if f = 0 then x.old else if f = 2 then true else x.torn))
            rw [if_neg f0, if_neg f0, if_pos f2]; rfl
          · rw [if_neg f2, hn]
            show some (vN x) = some (vw (if f = 0 then x.was else x.now) (if f = 0 then x.old else if f = 2 then true else x.torn))
            rw [if_neg f0, if_neg f0, if_neg f2]; rfl
  · show none = (opnA (lookA (Y.L.mapIdx (stepA fs Y.L)) a)).map vW
    obtain ⟨l1, l2⟩ := boot_look (F := stepA fs Y.L) (step_at fs Y.L) a Y.L (stepA fs Y.L) (step_at fs Y.L)
    cases hl : lookA Y.L a with
    | none => rw [l1 hl]; rfl
    | some x =>
      obtain ⟨i, hi, hp⟩ := look_idx hl
      rw [l2 i x hi (look_mem hl).2 hp]
      show none = (if (stepA fs Y.L i x).opn = true then some (stepA fs Y.L i x) else none).map vW
      rw [step_opn, if_neg (by simp)]; rfl
end
end Go.Q.Yb
