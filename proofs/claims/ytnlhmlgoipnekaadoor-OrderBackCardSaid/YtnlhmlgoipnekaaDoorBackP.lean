/- Bytes that are read are the only ones; none begins another one's: the plain law. No walk here. -/
import Derived.Test.YtnlhmlgoipnekaaDoorPln
namespace Go.Proofs.YtnlhmlgoipnekaaDoor
open Go.RowKit

theorem get_put (c : Cmd) (o o' : Nat) (x : Int) (h1 : 1 ≤ o) (h9 : o ≤ 9) (h1' : 1 ≤ o') (h9' : o' ≤ 9) : (c.put o x).get o' = if o = o' then x else c.get o' := by
  have h : o = 1 ∨ o = 2 ∨ o = 3 ∨ o = 4 ∨ o = 5 ∨ o = 6 ∨ o = 7 ∨ o = 8 ∨ o = 9 := by omega
  have h' : o' = 1 ∨ o' = 2 ∨ o' = 3 ∨ o' = 4 ∨ o' = 5 ∨ o' = 6 ∨ o' = 7 ∨ o' = 8 ∨ o' = 9 := by omega
  rcases h with rfl | rfl | rfl | rfl | rfl | rfl | rfl | rfl | rfl <;> rcases h' with rfl | rfl | rfl | rfl | rfl | rfl | rfl | rfl | rfl <;> rfl

theorem put_vs (c : Cmd) (o : Nat) (x : Int) : (c.put o x).v0 = c.v0 ∧ (c.put o x).v1 = c.v1 ∧ (c.put o x).v2 = c.v2 ∧ (c.put o x).v3 = c.v3 ∧ (c.put o x).flag = c.flag := by
  unfold Cmd.put; repeat' split
  all_goals exact ⟨rfl, rfl, rfl, rfl, rfl⟩

theorem get_putV (c : Cmd) (v : Int × Int × Int × Int) (o : Nat) : (c.putV v).get o = c.get o := by
  unfold Cmd.putV Cmd.get; rfl
theorem get_putF (c : Cmd) (b : Bool) (o : Nat) : (c.putF b).get o = c.get o := by
  unfold Cmd.putF Cmd.get; rfl

theorem put_ok (c : Cmd) (hc : c.Ok) (o : Nat) (x : Int) (h1 : 1 ≤ o) (h9 : o ≤ 9) (hx : I64 x) : (c.put o x).Ok := by
  obtain ⟨hk, hn, v0, v1, v2, v3⟩ := hc
  obtain ⟨e0, e1, e2, e3, _⟩ := put_vs c o x
  refine ⟨by rw [Cmd.put_kind]; exact hk, fun o' h1' h9' => ?_, by rw [e0]; exact v0, by rw [e1]; exact v1, by rw [e2]; exact v2, by rw [e3]; exact v3⟩
  rw [get_put c o o' x h1 h9 h1' h9']
  split
  · exact hx
  · exact hn o' h1' h9'

/-- One step keeps the numbers ints and the kind. -/
theorem rdF_ok (S : ByteArray) (s : Cmd × RS) (f : Fld) (hs : s.1.Ok) (hf : f.ok) : (rdF S s f).1.Ok := by
  cases f with
  | num o => exact put_ok _ hs o _ (Fld.ok_num hf).1 (Fld.ok_num hf).2 (rdInt_range S s.2)
  | vec =>
    obtain ⟨hk, hn, _, _, _, _⟩ := hs
    have z : I64 0 := I64.zero
    unfold rdF rdVec
    refine ⟨hk, fun o h1 h9 => ?_, ?_, ?_, ?_, ?_⟩
    · show I64 ((s.1.putV _).get o)
      rw [get_putV]; exact hn o h1 h9
    all_goals
      simp only [Cmd.putV]
      split
      · exact rdInt_range S _
      · exact z
  | flag =>
    obtain ⟨hk, hn, v0, v1, v2, v3⟩ := hs
    exact ⟨hk, fun o h1 h9 => by show I64 ((s.1.putF _).get o); rw [get_putF]; exact hn o h1 h9, v0, v1, v2, v3⟩

theorem rdF_kind (S : ByteArray) (s : Cmd × RS) (f : Fld) : (rdF S s f).1.kind = s.1.kind := by
  cases f with
  | num o => exact Cmd.put_kind _ _ _
  | vec => rfl
  | flag => rfl

theorem rdFs_ok (S : ByteArray) : ∀ (l : List Fld) (s : Cmd × RS), (∀ f ∈ l, f.ok) → s.1.Ok → (l.foldl (rdF S) s).1.Ok := by
  intro l
  induction l with
  | nil => intro s _ h; exact h
  | cons f l ih => intro s hl h; exact ih _ (fun g hg => hl g (by simp [hg])) (rdF_ok S s f h (hl f (by simp)))

theorem rdFs_kind (S : ByteArray) : ∀ (l : List Fld) (s : Cmd × RS), (l.foldl (rdF S) s).1.kind = s.1.kind := by
  intro l
  induction l with
  | nil => intro s; rfl
  | cons f l ih => intro s; rw [List.foldl_cons, ih, rdF_kind]

/-- What is wrong stays wrong. -/
theorem rdInt_bad (S : ByteArray) (st : RS) (h : st.bad ≠ none) : rdInt S st = (0, st) := by
  unfold rdInt
  cases hb : st.bad with
  | none => exact absurd hb h
  | some p => rfl

theorem rdF_bad (S : ByteArray) (s : Cmd × RS) (f : Fld) (h : s.2.bad ≠ none) : (rdF S s f).2.bad ≠ none := by
  cases f with
  | num o => unfold rdF; simp only [rdInt_bad S s.2 h]; exact h
  | vec => unfold rdF rdVec rd4; simp only [rdInt_bad S s.2 h]; exact h
  | flag => unfold rdF rdBool; simp only [rdInt_bad S s.2 h]; exact h

theorem rdFs_bad (S : ByteArray) : ∀ (l : List Fld) (s : Cmd × RS), s.2.bad ≠ none → (l.foldl (rdF S) s).2.bad ≠ none := by
  intro l
  induction l with
  | nil => intro s h; exact h
  | cons f l ih => intro s h; exact ih _ (rdF_bad S s f h)

theorem rdInt_none (S : ByteArray) (st : RS) (hb : st.bad = none) : rdInt S st = match rawDec 0 0 (S.data.toList.drop st.pos) with
    | some (u, n) => (unzig u, ⟨st.pos + n, none⟩)
    | none => (0, ⟨S.size, some st.pos⟩) := by
  unfold rdInt
  rw [hb]
  rfl

theorem rdInt_back (S : ByteArray) (st : RS) (h : (rdInt S st).2.bad = none) : ∃ r, S.data.toList.drop st.pos = enc (zig (rdInt S st).1) ++ r ∧ (rdInt S st).2.pos = st.pos + (enc (zig (rdInt S st).1)).length := by
  by_cases hb : st.bad = none
  · rw [rdInt_none S st hb] at h ⊢
    cases hd : rawDec 0 0 (S.data.toList.drop st.pos) with
    | none => rw [hd] at h; cases h
    | some un =>
      obtain ⟨u, n⟩ := un
      obtain ⟨u', r, h1, h2, h3, _⟩ := rawDec_back _ _ _ _ _ hd
      have hu : u = u' := by simpa using h1
      subst hu
      refine ⟨r, ?_, ?_⟩
      · show _ = enc (zig (unzig u)) ++ r
        rw [zig_unzig]; exact h3
      · show st.pos + n = st.pos + (enc (zig (unzig u))).length
        rw [zig_unzig, h2]; omega
  · rw [rdInt_bad S st hb] at h; exact absurd h hb

theorem wrF_put (c : Cmd) (o : Nat) (x : Int) (h1 : 1 ≤ o) (h9 : o ≤ 9) (g : Fld) (hg : g.ok) (hne : g ≠ .num o) : wrF (c.put o x) g = wrF c g := by
  obtain ⟨e0, e1, e2, e3, e4⟩ := put_vs c o x
  cases g with
  | num o' =>
    unfold wrF
    simp only []
    rw [get_put c o o' x h1 h9 (Fld.ok_num hg).1 (Fld.ok_num hg).2, if_neg (fun e => hne (by rw [e]))]
  | vec => unfold wrF; simp only [e0, e1, e2, e3]
  | flag => unfold wrF; simp only [e4]

theorem wrF_rdF (S : ByteArray) (s : Cmd × RS) (f g : Fld) (hf : f.ok) (hg : g.ok) (hne : g ≠ f) : wrF (rdF S s f).1 g = wrF s.1 g := by
  cases f with
  | num o => exact wrF_put _ o _ (Fld.ok_num hf).1 (Fld.ok_num hf).2 g hg hne
  | vec =>
    cases g with
    | num o' => unfold wrF rdF; simp only [get_putV]
    | vec => exact absurd rfl hne
    | flag => rfl
  | flag =>
    cases g with
    | num o' => unfold wrF rdF; simp only [get_putF]
    | vec => rfl
    | flag => exact absurd rfl hne

theorem wrF_rdFs (S : ByteArray) (g : Fld) (hg : g.ok) : ∀ (l : List Fld) (s : Cmd × RS), (∀ f ∈ l, f.ok) → g ∉ l → wrF (l.foldl (rdF S) s).1 g = wrF s.1 g := by
  intro l
  induction l with
  | nil => intro s _ _; rfl
  | cons f l ih =>
    intro s hl hn
    rw [List.foldl_cons, ih _ (fun g hg => hl g (by simp [hg])) (fun h => hn (by simp [h])), wrF_rdF S s f g (hl f (by simp)) hg (fun e => hn (by simp [e]))]

theorem rdF_back (S : ByteArray) (s : Cmd × RS) (f : Fld) (hf : f.ok) (h : (rdF S s f).2.bad = none) : ∃ r, S.data.toList.drop s.2.pos = wrF (rdF S s f).1 f ++ r ∧ (rdF S s f).2.pos = s.2.pos + (wrF (rdF S s f).1 f).length := by
  cases f with
  | num o =>
    obtain ⟨h1, h9⟩ := Fld.ok_num hf
    obtain ⟨r, e1, e2⟩ := rdInt_back S s.2 h
    have e : wrF (rdF S s (.num o)).1 (.num o) = enc (zig (rdInt S s.2).1) := by
      unfold wrF rdF
      simp only []
      rw [get_put _ o o _ h1 h9 h1 h9, if_pos rfl]
    rw [e]
    exact ⟨r, e1, e2⟩
  | vec =>
    have hb : (rd4 S s.2).bad = none := h
    have nb : ∀ st : RS, (rdInt S st).2.bad = none → st.bad = none := fun st h => by
      by_cases h' : st.bad = none
      · exact h'
      · rw [rdInt_bad S st h'] at h; exact h
    unfold rd4 at hb
    have b3 := nb _ hb
    have b2 := nb _ b3
    have b1 := nb _ b2
    obtain ⟨r0, d0, p0⟩ := rdInt_back S s.2 b1
    obtain ⟨r1, d1, p1⟩ := rdInt_back S _ b2
    obtain ⟨r2, d2, p2⟩ := rdInt_back S _ b3
    obtain ⟨r3, d3, p3⟩ := rdInt_back S _ hb
    have q1 := drop_more d0
    rw [← p0, d1] at q1
    have q2 := drop_more d1
    rw [← p1, d2] at q2
    have q3 := drop_more d2
    rw [← p2, d3] at q3
    have e : wrF (rdF S s .vec).1 .vec = enc (zig (rdInt S s.2).1) ++ enc (zig (rdInt S (rdInt S s.2).2).1) ++ enc (zig (rdInt S (rdInt S (rdInt S s.2).2).2).1) ++ enc (zig (rdInt S (rdInt S (rdInt S (rdInt S s.2).2).2).2).1) := by
      unfold wrF rdF rdVec
      have hb' : (rd4 S s.2).bad = none := h
      simp only [hb', Cmd.putV]
    rw [e]
    refine ⟨r3, ?_, ?_⟩
    · rw [d0, ← q1, ← q2, ← q3]; simp
    · show (rdInt S (rdInt S (rdInt S (rdInt S s.2).2).2).2).2.pos = _
      rw [p3, p2, p1, p0]
      simp only [List.length_append]
      omega
  | flag =>
    unfold rdF rdBool at h
    simp only at h
    have nb : ∀ x : Bool, (rdF S s .flag) = (s.1.putF x, (rdInt S s.2).2) → (rdInt S s.2).1 = (if x then 1 else 0) → (rdInt S s.2).2.bad = none → ∃ r, S.data.toList.drop s.2.pos = wrF (rdF S s .flag).1 .flag ++ r ∧ (rdF S s .flag).2.pos = s.2.pos + (wrF (rdF S s .flag).1 .flag).length := fun x e hx hb => by
      obtain ⟨r, e1, e2⟩ := rdInt_back S s.2 hb
      rw [hx] at e1 e2
      rw [e]
      exact ⟨r, e1, e2⟩
    by_cases h0 : (rdInt S s.2).1 = 0
    · rw [if_pos h0] at h
      exact nb false (by unfold rdF rdBool; rw [if_pos h0]) (by simpa using h0) h
    · rw [if_neg h0] at h
      by_cases h1 : (rdInt S s.2).1 = 1
      · rw [if_pos h1] at h
        exact nb true (by unfold rdF rdBool; rw [if_neg h0, if_pos h1]) (by simpa using h1) h
      · rw [if_neg h1] at h
        cases h

theorem rdFs_back (S : ByteArray) : ∀ (l : List Fld) (s : Cmd × RS), (∀ f ∈ l, f.ok) → l.Nodup → (l.foldl (rdF S) s).2.bad = none →
    ∃ r, S.data.toList.drop s.2.pos = l.flatMap (wrF (l.foldl (rdF S) s).1) ++ r ∧ (l.foldl (rdF S) s).2.pos = s.2.pos + (l.flatMap (wrF (l.foldl (rdF S) s).1)).length := by
  intro l
  induction l with
  | nil => intro s _ _ _; exact ⟨S.data.toList.drop s.2.pos, by simp, by simp⟩
  | cons f l ih =>
    intro s hl hn h
    obtain ⟨hnf, hnl⟩ := List.nodup_cons.1 hn
    have hf := hl f (by simp)
    have hl' : ∀ g ∈ l, g.ok := fun g hg => hl g (by simp [hg])
    rw [List.foldl_cons] at h ⊢
    have hb : (rdF S s f).2.bad = none := by
      by_cases h' : (rdF S s f).2.bad = none
      · exact h'
      · exact absurd h (rdFs_bad S l _ h')
    obtain ⟨r, e1, e2⟩ := rdF_back S s f hf hb
    obtain ⟨r', e3, e4⟩ := ih _ hl' hnl h
    have q := drop_more e1
    rw [← e2, e3] at q
    rw [List.flatMap_cons, wrF_rdFs S f hf l _ hl' hnf]
    refine ⟨r', ?_, ?_⟩
    · rw [e1, ← q, List.append_assoc]
    · rw [e4, e2, List.length_append]; omega

theorem overF_nodup (k : Int) (h1 : 1 ≤ k) (h2 : k ≤ 21) : (overF k).Nodup := by
  rcases kinds h1 h2 with rfl | rfl | rfl | rfl | rfl | rfl | rfl | rfl | rfl | rfl | rfl | rfl | rfl | rfl | rfl | rfl | rfl | rfl | rfl | rfl | rfl <;> simp [overF, tailF]

/-- Bytes that are read are the only ones. -/
theorem readC_back (S : ByteArray) (h : (readC S).2 = none) : (readC S).1.Ok ∧ (readC S).1.good = true ∧ S.data.toList = (readC S).1.bytes := by
  by_cases hk : (readK S).2.bad = none ∧ 1 ≤ (readK S).1 ∧ (readK S).1 ≤ 21
  · obtain ⟨hb, h1, h2⟩ := id hk
    obtain ⟨st, hst⟩ : ∃ st, st = (overF (readK S).1).foldl (rdF S) (Cmd.zero (readK S).1, (readK S).2) := ⟨_, rfl⟩
    have e : readC S = match endP S st.2 with | some p => (Cmd.zero 0, some p) | none => (st.1, none) := by
      unfold readC
      rw [if_pos hk, ← hst]
      rfl
    cases hend : endP S st.2 with
    | some p => rw [e, hend] at h; cases h
    | none =>
      have hr : readC S = (st.1, none) := by rw [e, hend]
      have hck : st.1.kind = (readK S).1 := by rw [hst, rdFs_kind]; rfl
      have hcr : I64 (readK S).1 := rdInt_range S _
      have hco : st.1.Ok := by rw [hst]; exact rdFs_ok S _ _ (overF_ok _) (Cmd.zero_ok _ hcr)
      have hb2 : st.2.bad = none := by
        unfold endP at hend
        cases hbb : st.2.bad with
        | none => rfl
        | some q => rw [hbb] at hend; cases hend
      have hpos : ¬ st.2.pos < S.size := by
        intro hlt
        unfold endP at hend
        rw [hb2] at hend
        simp only [hlt, if_true] at hend
        cases hend
      obtain ⟨r0, d0, p0⟩ := rdInt_back S ⟨0, none⟩ hb
      obtain ⟨r, e1, e2⟩ := rdFs_back S (overF (readK S).1) (Cmd.zero (readK S).1, (readK S).2) (overF_ok _) (overF_nodup _ h1 h2) (by rw [← hst]; exact hb2)
      rw [← hst] at e1 e2
      have q := drop_more d0
      have p0' : (readK S).2.pos = 0 + (enc (zig (readK S).1)).length := p0
      have d0' : S.data.toList.drop 0 = enc (zig (readK S).1) ++ r0 := d0
      rw [show (⟨0, none⟩ : RS).pos + (enc (zig (rdInt S ⟨0, none⟩).1)).length = (readK S).2.pos from p0.symm] at q
      have e1' : S.data.toList.drop (readK S).2.pos = (overF (readK S).1).flatMap (wrF st.1) ++ r := e1
      have e2' : st.2.pos = (readK S).2.pos + ((overF (readK S).1).flatMap (wrF st.1)).length := e2
      rw [e1'] at q
      rw [← q, List.drop_zero] at d0'
      have hlen : S.size = S.data.toList.length := by rw [Array.length_toList]; rfl
      have hr0 : r = [] := by
        have hl := congrArg List.length d0'
        simp only [List.length_append] at hl
        exact List.length_eq_zero_iff.1 (by omega)
      have hbytes : S.data.toList = st.1.bytes := by
        rw [d0', hr0]
        unfold Cmd.bytes
        rw [hck, List.append_nil]
      have hS : S = ⟨st.1.bytes.toArray⟩ := by rw [← hbytes]
      have hcp : st.1 = st.1.proj := by
        have a := readC_bytes st.1 hco (by rw [hck]; exact h1) (by rw [hck]; exact h2)
        rw [← hS, hr] at a
        exact (Prod.mk.inj a).1
      rw [hr]
      refine ⟨hco, ?_, hbytes⟩
      show st.1.good = true
      rw [hcp]
      exact proj_good st.1 (by rw [hck]; exact h1) (by rw [hck]; exact h2)
  · unfold readC at h
    rw [if_neg hk] at h
    cases h

theorem readC_wrong (S : ByteArray) (p : Nat) (h : (readC S).2 = some p) : (readC S).1 = Cmd.zero 0 := by
  unfold readC at h ⊢
  split
  · rename_i hk
    rw [if_pos hk] at h
    split
    · rfl
    · rename_i he
      simp only [he] at h
      cases h
  · rfl

/-- No command's bytes begin another one's. -/
theorem bytes_prefix (x y : Cmd) (hx : x.Ok) (hy : y.Ok) (gx : x.good = true) (gy : y.good = true) (r : List UInt8) (h : y.bytes = x.bytes ++ r) : x = y := by
  have kx : 1 ≤ x.kind ∧ x.kind ≤ 21 := by have := of_decide_eq_true gx; exact ⟨this.1, this.2.1⟩
  have S : ∀ S : ByteArray, S.data.toList = y.bytes → x = y := fun S hS => by
    have hdx : S.data.toList.drop 0 = enc (zig x.kind) ++ ((overF x.kind).flatMap (wrF x) ++ r) := by
      rw [List.drop_zero, hS, h]; unfold Cmd.bytes; simp
    have hdy : S.data.toList.drop 0 = enc (zig y.kind) ++ ((overF y.kind).flatMap (wrF y) ++ []) := by
      rw [List.drop_zero, hS]; unfold Cmd.bytes; simp
    have e1 := rdInt_enc S 0 x.kind _ hx.1 hdx
    have e2 := rdInt_enc S 0 y.kind _ hy.1 hdy
    have hk : x.kind = y.kind := (Prod.mk.inj (e1.symm.trans e2)).1
    have f1 := rd_wr S x hx (overF x.kind) (Cmd.zero x.kind) _ r (overF_ok _) (drop_more hdx)
    have f2 := rd_wr S y hy (overF y.kind) (Cmd.zero y.kind) _ [] (overF_ok _) (drop_more hdy)
    rw [← hk] at f2
    have e := (Prod.mk.inj (f1.symm.trans f2)).1
    have ex : x.proj = x := good_proj x gx
    have ey : y.proj = y := good_proj y gy
    rw [← ex, ← ey]
    unfold Cmd.proj
    rw [← hk]
    exact e
  exact S ⟨y.bytes.toArray⟩ (by simp)

theorem bytes_inj' (x y : Cmd) (hx : x.Ok) (hy : y.Ok) (gx : x.good = true) (gy : y.good = true) (h : x.bytes = y.bytes) : x = y :=
  bytes_prefix x y hx hy gx gy [] (by simp [h])

end Go.Proofs.YtnlhmlgoipnekaaDoor
