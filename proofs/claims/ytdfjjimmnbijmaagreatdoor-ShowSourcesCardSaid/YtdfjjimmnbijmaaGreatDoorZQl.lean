import Derived.Test.YtdfjjimmnbijmaaGreatDoorZQk
namespace Go.Proofs.YtdfjjimmnbijmaaGreatDoor.ZQ
open Go.RowKit Go.Proofs.YtdfjjimmnbijmaaGreatDoorW.PrintWords Go.Proofs.YtdfjjimmnbijmaaGreatDoorW.PrintLast Go.Proofs.YtdfjjimmnbijmaaGreatDoorW.PrintMore Go.Proofs.YtdfjjimmnbijmaaGreatDoor.Base
attribute [local go_sem] max2_int min2_int max_two min_two max_three min_three max_four min_four
set_option linter.unusedVariables false
set_option linter.unusedSimpArgs false
def T10 (ls : List ByteArray) : ByteArray := joinT ⟨#[10]⟩ ls ++ ⟨#[10]⟩
def outP (v : ByteArray × Bool) : ByteArray × Int := if v.2 = true then (v.1, 0) else (⟨#[]⟩, 1)
theorem tailT_app (b : ByteArray) : ∀ p q : List ByteArray, tailT b (p ++ q) = tailT b p ++ tailT b q
  | [], q => by rw [List.nil_append, tailT_nil, nil_app]
  | x :: p, q => by rw [List.cons_append, tailT_cons, tailT_cons, tailT_app b p q, app_assoc (b ++ x)]
theorem T10_snoc (acc : List ByteArray) (x : ByteArray) (h : acc ≠ []) : T10 (acc ++ [x]) = T10 acc ++ x ++ ⟨#[10]⟩ := by
  cases acc with
  | nil => exact absurd rfl h
  | cons a q =>
    unfold T10
    rw [List.cons_append, joinT_cons, joinT_cons, tailT_app, tailT_cons, tailT_nil]
    apply jt_ext; simp
theorem snoc_ne (acc : List ByteArray) (x : ByteArray) : acc ++ [x] ≠ [] := by simp
theorem T10_snoc_size (acc : List ByteArray) (x : ByteArray) (h : acc ≠ []) : (T10 (acc ++ [x])).size = (T10 acc).size + x.size + 1 := by
  rw [T10_snoc acc x h, sz_app, sz_app]; rfl
theorem lines_mono : ∀ (rs : List RN) (long : Nat) (acc ls : List ByteArray), acc ≠ [] → linesS long rs acc = some ls → (T10 acc).size ≤ (T10 ls).size
  | [], long, acc, ls, h, e => by rw [linesS] at e; cases e; exact Nat.le_refl _
  | r :: t, long, acc, ls, h, e => by
    rw [linesS] at e
    split at e
    · have h1 := lines_mono t _ _ ls (snoc_ne _ _) e
      rw [T10_snoc_size acc _ h] at h1
      omega
    · cases e
theorem outP_ok (v : ByteArray × Bool) : ((outP v).2 == 0) = v.2 := by
  unfold outP
  cases h : v.2 with
  | true => rfl
  | false => rfl
theorem print_f (a d : ByteArray) (n : Int) (rs : List RN) (hn0 : 0 ≤ n) (hn1 : n < 18446744073709551616) (hok : ∀ r ∈ rs, okR r) : show_Print.f a d n rs = some (outP (sourceS a d n rs)) := by
  unfold show_Print.f show_source.f outP
  rw [if_pos ⟨⟨hn0, hn1⟩, hok⟩, Option.bind_some]
  cases h : (sourceS a d n rs).2 with
  | true => rfl
  | false => rfl
/-! ### a condition's tokens, a rule's, a policy's -/
def ampK : Key := (3, ⟨#[38]⟩)
def notK : Key := (1, ⟨#[110, 111, 116]⟩)
def andK : Key := (1, ⟨#[97, 110, 100]⟩)
def orK : Key := (1, ⟨#[111, 114]⟩)
def ifK : Key := (1, ⟨#[105, 102]⟩)
def archK : Key := (1, ⟨#[97, 114, 99, 104]⟩)
def defK : Key := (1, ⟨#[100, 101, 102, 97, 117, 108, 116]⟩)
def joinK (s : Key) : List (List Key) → List Key
  | [] => []
  | [x] => x
  | x :: y :: r => x ++ s :: joinK s (y :: r)
mutual
def tokC : S28 → List Key
  | ⟨a, l, b, d, e, f⟩ =>
    if a = 4 then (1, argT b) :: ((if d = 18446744073709551615 then [] else [ampK, (2, numT d)]) ++ [(3, e), (2, numT f)])
    else if a = 3 then notK :: (tokF l).headD []
    else if a = 1 then joinK andK (tokF l)
    else joinK orK (tokO l)
def tokF : List S28 → List (List Key)
  | [] => []
  | c :: r => (if c.f0 = 1 ∨ c.f0 = 2 then opK :: (tokC c ++ [clK]) else tokC c) :: tokF r
def tokO : List S28 → List (List Key)
  | [] => []
  | c :: r => (if c.f0 = 1 then tokC c else if c.f0 = 1 ∨ c.f0 = 2 then opK :: (tokC c ++ [clK]) else tokC c) :: tokO r
end
def factK (c : CN) : List Key := if c.f0 = 1 ∨ c.f0 = 2 then opK :: (tokC c ++ [clK]) else tokC c
def partK (c : CN) : List Key := if c.f0 = 1 then tokC c else factK c
theorem tokF_eq : ∀ l : List CN, tokF l = l.map factK
  | [] => rfl
  | c :: r => by rw [tokF, tokF_eq r]; rfl
theorem tokO_eq : ∀ l : List CN, tokO l = l.map partK
  | [] => rfl
  | c :: r => by rw [tokO, tokO_eq r]; rfl
theorem tokC_test {c : CN} (h : c.f0 = 4) : tokC c = (1, argT c.f2) :: ((if c.f3 = 18446744073709551615 then [] else [ampK, (2, numT c.f3)]) ++ [(3, c.f4), (2, numT c.f5)]) := by
  cases c; simp only at h; rw [tokC, if_pos h]
theorem tokC_not {c k : CN} (h : c.f0 = 3) (hk : c.f1 = [k]) : tokC c = notK :: factK k := by
  cases c; simp only at h hk; subst hk; rw [tokC, if_neg (by omega), if_pos h, tokF_eq]; rfl
theorem tokC_and {c : CN} (h : c.f0 = 1) : tokC c = joinK andK (c.f1.map factK) := by
  cases c; simp only at h; rw [tokC, if_neg (by omega), if_neg (by omega), if_pos h, tokF_eq]
theorem tokC_or {c : CN} (h : c.f0 = 2) : tokC c = joinK orK (c.f1.map partK) := by
  cases c; simp only at h; rw [tokC, if_neg (by omega), if_neg (by omega), if_neg (by omega), tokO_eq]
theorem joinT_two (b x y : ByteArray) (r : List ByteArray) : joinT b (x :: y :: r) = x ++ b ++ joinT b (y :: r) := by
  rw [joinT_cons, joinT_cons, tailT_cons]; apply jt_ext; simp
theorem joinT_one (b x : ByteArray) : joinT b [x] = x := by rw [joinT_cons, tailT_nil, app_nil]
theorem Tk_join {sep : ByteArray} {w : List UInt8} {kw : Key} (hsep : bts sep = 32 :: (w ++ [32])) (hw : Tk w [kw]) (f : CN → ByteArray) (g : CN → List Key) : ∀ l : List CN, l ≠ [] → (∀ k ∈ l, Tk (bts (f k)) (g k)) → Tk (bts (joinT sep (l.map f))) (joinK kw (l.map g))
  | [], h, _ => absurd rfl h
  | [c], _, h => by
    rw [List.map_singleton, List.map_singleton, joinT_one, joinK]
    exact h c List.mem_cons_self
  | c :: c2 :: r, _, h => by
    have ih := Tk_join hsep hw f g (c2 :: r) (by simp) (fun k hk => h k (List.mem_cons_of_mem _ hk))
    rw [List.map_cons, List.map_cons] at ih
    rw [List.map_cons, List.map_cons, List.map_cons, List.map_cons, joinT_two, joinK, bts_app, bts_app, hsep]
    have e := Tk_sp (h c List.mem_cons_self) (Tk_sp hw ih)
    simpa using e
theorem Tk_and : Tk [97, 110, 100] [andK] := Tk_one (by decide) (by decide) (by decide)
theorem Tk_or : Tk [111, 114] [orK] := Tk_one (by decide) (by decide) (by decide)
theorem Tk_not : Tk [110, 111, 116] [notK] := Tk_one (by decide) (by decide) (by decide)
theorem Tk_if : Tk [105, 102] [ifK] := Tk_one (by decide) (by decide) (by decide)
theorem Tk_arch : Tk [97, 114, 99, 104] [archK] := Tk_one (by decide) (by decide) (by decide)
theorem Tk_def : Tk [100, 101, 102, 97, 117, 108, 116] [defK] := Tk_one (by decide) (by decide) (by decide)
theorem Tk_amp : Tk [38] [ampK] := Tk_one (by decide) (by decide) (by decide)
theorem Tk_two {x y : ByteArray} {tx ty : List Key} (hx : Tk (bts x) tx) (hy : Tk (bts y) ty) : Tk (bts (x ++ ⟨#[32]⟩ ++ y)) (tx ++ ty) := by
  have e := Tk_sp hx hy
  have h2 : bts (x ++ ⟨#[32]⟩ ++ y) = bts x ++ 32 :: bts y := by simp [bts]
  rw [h2]; exact e
theorem Tk_fact {c : CN} (h : Tk (bts (writeC c)) (tokC c)) : Tk (bts (factC c)) (factK c) := by
  unfold factC factK
  by_cases hg : c.f0 = 1 ∨ c.f0 = 2
  · rw [if_pos hg, if_pos hg]
    have h2 : bts (⟨#[40]⟩ ++ writeC c ++ ⟨#[41]⟩) = 40 :: (bts (writeC c) ++ [41]) := by simp [bts]
    rw [h2]; exact Tk_paren h
  · rw [if_neg hg, if_neg hg]; exact h
theorem Tk_part {c : CN} (h : Tk (bts (writeC c)) (tokC c)) : Tk (bts (orC c)) (partK c) := by
  unfold orC partK
  by_cases hg : c.f0 = 1
  · rw [if_pos hg, if_pos hg]; exact h
  · rw [if_neg hg, if_neg hg]; exact Tk_fact h
theorem Tk_cond : ∀ c : CN, fitsC c = true → rngC c = true → Tk (bts (writeC c)) (tokC c) := by
  refine cond_ind fun c ih hf hr => ?_
  rw [fitsC_eq, Bool.and_eq_true] at hf
  rw [rngC_iff] at hr
  have hk : ∀ k ∈ c.f1, Tk (bts (writeC k)) (tokC k) := fun k hk => ih k hk (fitsL_all hf.2 k hk) (rngL_all hr.2 k hk)
  obtain ⟨r1, r2, r3, r4, r5, r6⟩ := hr.1
  rcases one_cases hf.1 with ⟨h4, a0, a5, hs, _⟩ | ⟨_, h12, hl⟩ | ⟨_, h3, k, ek⟩
  · rw [writeC_test h4, tokC_test h4, joinT_two]
    have t1 := Tk_arg c.f2 a0 a5
    have t2 : Tk (bts (joinT ⟨#[32]⟩ [c.f4, numT c.f5])) [(3, c.f4), (2, numT c.f5)] := by
      rw [joinT_two, joinT_one]
      have e := Tk_two (Tk_sign hs) (Tk_num c.f5 r5 r6)
      rw [List.cons_append, List.nil_append] at e; exact e
    by_cases hm : c.f3 = 18446744073709551615
    · rw [if_pos hm, if_pos hm]
      have e := Tk_two t1 t2
      rw [List.cons_append, List.nil_append] at e
      rw [List.nil_append]; exact e
    · rw [if_neg hm, if_neg hm]
      have t3 : Tk (bts (joinT ⟨#[32, 38, 32]⟩ [argT c.f2, numT c.f3])) ([(1, argT c.f2)] ++ ([ampK] ++ [(2, numT c.f3)])) := by
        have e := Tk_sp t1 (Tk_sp Tk_amp (Tk_num c.f3 r3 r4))
        have h2 : bts (joinT ⟨#[32, 38, 32]⟩ [argT c.f2, numT c.f3]) = bts (argT c.f2) ++ 32 :: ([38] ++ 32 :: bts (numT c.f3)) := by rw [joinT_two, joinT_one]; simp [bts]
        rw [h2]; exact e
      have e := Tk_two t3 t2
      simp only [List.cons_append, List.nil_append] at e ⊢
      exact e
  · have hne : c.f1 ≠ [] := by intro e; rw [e] at hl; simp at hl
    rcases h12 with h1 | h2
    · rw [writeC_and h1, tokC_and h1]
      exact Tk_join rfl Tk_and factC factK c.f1 hne (fun k hk' => Tk_fact (hk k hk'))
    · rw [writeC_or h2, tokC_or h2]
      exact Tk_join rfl Tk_or orC partK c.f1 hne (fun k hk' => Tk_part (hk k hk'))
  · rw [writeC_not h3 ek, tokC_not h3 ek, joinT_two, joinT_one]
    exact Tk_two (x := ⟨#[110, 111, 116]⟩) Tk_not (Tk_fact (hk k (by rw [ek]; exact List.mem_cons_self)))
def actK (n : ByteArray) (d : Int) : List Key := (1, n) :: (if d = 0 then [] else [(2, numT d)])
def nameK (s : ByteArray) : Key := (1, s)
def tokR (r : RN) : List Key := actK r.f0 r.f1 ++ (r.f2.map nameK ++ (if noneS r.f3 = true then [] else ifK :: tokC r.f3))
theorem Tk_act {n : ByteArray} {d : Int} (hn : wordS n = true) (h0 : 0 ≤ d) (h1 : d < 18446744073709551616) : Tk (bts (actS n d)) (actK n d) := by
  unfold actS actK
  by_cases hd : d = 0
  · rw [if_pos hd, if_pos hd]; exact Tk_word hn
  · rw [if_neg hd, if_neg hd, joinT_two, joinT_one]
    exact Tk_two (Tk_word hn) (Tk_num d h0 h1)
theorem Tk_names : ∀ l : List ByteArray, l ≠ [] → (∀ s ∈ l, wordS s = true) → Tk (bts (joinT ⟨#[32]⟩ l)) (l.map nameK)
  | [], h, _ => absurd rfl h
  | [s], _, h => by rw [joinT_one]; exact Tk_word (h s List.mem_cons_self)
  | s :: t :: r, _, h => by
    have ih := Tk_names (t :: r) (by simp) (fun x hx => h x (List.mem_cons_of_mem _ hx))
    rw [joinT_two]
    exact Tk_two (Tk_word (h s List.mem_cons_self)) ih
theorem words_all {l : List ByteArray} (h : (l.any fun s => !wordS s) = false) : ∀ s ∈ l, wordS s = true := by
  intro s hs
  rw [List.any_eq_false] at h
  simpa using h s hs
/-- What a rule is that can be written. -/
theorem rule_ok {r : RN} (h : (ruleS r).2 = true) : wordS r.f0 = true ∧ r.f2 ≠ [] ∧ (∀ s ∈ r.f2, wordS s = true) ∧ ((noneS r.f3 = true ∧ (ruleS r).1 = outS r) ∨ (noneS r.f3 = false ∧ nodesC r.f3 ≤ 100 ∧ fitsC r.f3 = true ∧ depthC r.f3 ≤ 8 ∧ (ruleS r).1 = joinT ⟨#[32, 105, 102, 32]⟩ [outS r, writeC r.f3])) := by
  unfold ruleS at h ⊢
  split at h
  · rename_i hw
    rw [if_pos hw]
    refine ⟨hw.1, fun e => hw.2.1 (by rw [e]; rfl), words_all hw.2.2, ?_⟩
    split at h
    · rename_i hn
      rw [if_pos hn]; exact Or.inl ⟨hn, rfl⟩
    · rename_i hn
      rw [if_neg hn]
      split at h
      · rename_i hk
        rw [if_pos hk]
        have h_ := hk.1
        unfold rightS at h_
        rw [Bool.and_eq_true, decide_eq_true_eq] at h_
        exact Or.inr ⟨by simpa using hn, h_.1, h_.2, hk.2, rfl⟩
      · cases h
  · cases h
theorem Tk_rule {r : RN} (hr : rngC r.f3 = true ∧ 0 ≤ r.f1 ∧ r.f1 < 18446744073709551616) (h : (ruleS r).2 = true) : Tk (bts (ruleS r).1) (tokR r) := by
  obtain ⟨h1, h2, h3, h4⟩ := rule_ok h
  have ho : Tk (bts (outS r)) (actK r.f0 r.f1 ++ r.f2.map nameK) := by
    unfold outS
    rw [joinT_two, joinT_one]
    exact Tk_two (Tk_act h1 hr.2.1 hr.2.2) (Tk_names r.f2 h2 h3)
  unfold tokR
  rcases h4 with ⟨hn, e⟩ | ⟨hn, h5, h6, h7, e⟩
  · rw [if_pos hn, List.append_nil, e]; exact ho
  · rw [if_neg (by rw [hn]; decide), e, joinT_two, joinT_one]
    have t := Tk_sp ho (Tk_sp Tk_if (Tk_cond r.f3 h6 hr.1))
    have h8 : bts (outS r ++ ⟨#[32, 105, 102, 32]⟩ ++ writeC r.f3) = bts (outS r) ++ 32 :: ([105, 102] ++ 32 :: bts (writeC r.f3)) := by simp [bts]
    rw [h8]
    simpa using t
theorem tail10 : ∀ r : List ByteArray, bts (tailT ⟨#[10]⟩ r) ++ [10] = 10 :: (r.flatMap fun y => bts y ++ [10])
  | [] => rfl
  | y :: r => by
    have ih := tail10 r
    rw [tailT_cons, bts_app, bts_app, List.append_assoc, ih, List.flatMap_cons]
    simp [bts]
theorem bts_T10 (x : ByteArray) (r : List ByteArray) : bts (T10 (x :: r)) = bts x ++ 10 :: (r.flatMap fun y => bts y ++ [10]) := by
  unfold T10
  rw [joinT_cons, bts_app, bts_app, List.append_assoc, show bts (⟨#[10]⟩ : ByteArray) = [10] from rfl, tail10]
theorem Lx_rules : ∀ rs : List RN, (∀ r ∈ rs, Tk (bts (ruleS r).1) (tokR r)) → Lx ((rs.map fun r => (ruleS r).1).flatMap fun y => bts y ++ [10]) (rs.flatMap fun r => tokR r ++ [nlK])
  | [], _ => Lx_nil
  | r :: t, h => by
    rw [List.map_cons, List.flatMap_cons, List.flatMap_cons, List.append_assoc, List.append_assoc]
    exact Lx_line (h r List.mem_cons_self) (Lx_rules t fun q hq => h q (List.mem_cons_of_mem _ hq))
def toksP (a d : ByteArray) (n : Int) (rs : List RN) : List Key := archK :: (1, a) :: nlK :: defK :: (actK d n ++ nlK :: rs.flatMap fun r => tokR r ++ [nlK])
theorem Lx_source {a d : ByteArray} {n : Int} {rs : List RN} (ha : wordS a = true) (hd : wordS d = true) (h0 : 0 ≤ n) (h1 : n < 18446744073709551616) (hr : ∀ r ∈ rs, Tk (bts (ruleS r).1) (tokR r)) : Lx (bts (T10 ([headA a, headD d n] ++ rs.map fun r => (ruleS r).1))) (toksP a d n rs) := by
  rw [List.cons_append, List.cons_append, List.nil_append, bts_T10, List.flatMap_cons, List.append_assoc]
  have t1 : Tk (bts (headA a)) [archK, (1, a)] := by
    unfold headA
    rw [joinT_two, joinT_one]
    exact Tk_two (x := ⟨#[97, 114, 99, 104]⟩) Tk_arch (Tk_word ha)
  have t2 : Tk (bts (headD d n)) (defK :: actK d n) := by
    unfold headD
    rw [joinT_two, joinT_one]
    exact Tk_two (x := ⟨#[100, 101, 102, 97, 117, 108, 116]⟩) Tk_def (Tk_act hd h0 h1)
  have h := Lx_line t1 (Lx_line t2 (Lx_rules rs hr))
  exact h
theorem lexS_Lx {s : ByteArray} {ks : List Key} (hs : s.size ≤ 2000) (h : Lx (bts s) ks) : ∃ ts, lexS s = (ts, 0, 0) ∧ ts.map key = ks ++ [(0, ⟨#[]⟩)] := by
  obtain ⟨ts, h1, h2⟩ := h 0
  have e : lexG s s.size 0 = .ok ts := by
    rw [LX_B s s.size 0 (Nat.zero_le _), List.drop_zero, ← h1]
    unfold LB bts
    rw [← Lib.size_eq]
  refine ⟨ts ++ [⟨0, s.extract s.size s.size, s.size⟩], ?_, ?_⟩
  · unfold lexS
    rw [if_neg (by omega), e]; rfl
  · rw [List.map_append, h2]
    have : s.extract s.size s.size = ⟨#[]⟩ := by
      apply jt_ext
      have : (s.extract s.size s.size).size = 0 := by rw [ByteArray.size_extract]; omega
      rw [Lib.size_eq] at this
      exact List.length_eq_zero_iff.1 this
    rw [this]; rfl
theorem lines_all : ∀ (rs : List RN) (long : Nat) (acc ls : List ByteArray), linesS long rs acc = some ls → ls = acc ++ rs.map (fun r => (ruleS r).1) ∧ (∀ r ∈ rs, (ruleS r).2 = true) ∧ (rs ≠ [] → long + sumZ (rs.map (fun r => (ruleS r).1)) ≤ 2000)
  | [], long, acc, ls, h => by rw [linesS] at h; cases h; exact ⟨by simp, fun r hr => (by cases hr), fun h => absurd rfl h⟩
  | r :: t, long, acc, ls, h => by
    rw [linesS] at h
    split at h
    · rename_i hc
      obtain ⟨h1, h2, h3⟩ := lines_all t _ _ ls h
      refine ⟨by rw [h1]; simp, fun q hq => ?_, fun _ => ?_⟩
      · rcases List.mem_cons.1 hq with e | e
        · rw [e]; exact hc.1
        · exact h2 q e
      · rw [List.map_cons, sumZ_cons]
        cases t with
        | nil => have := hc.2; simp [sumZ_nil]; exact this
        | cons u v => have := h3 (by simp); omega
    · cases h
theorem source_ok {a d : ByteArray} {n : Int} {rs : List RN} (h : (sourceS a d n rs).2 = true) : (wordS a = true ∧ wordS d = true) ∧ rs.length ≤ 2000 ∧ (∀ r ∈ rs, (ruleS r).2 = true) ∧ (rs ≠ [] → sumZ (rs.map (fun r => (ruleS r).1)) ≤ 2000) ∧ (sourceS a d n rs).1 = T10 ([headA a, headD d n] ++ rs.map (fun r => (ruleS r).1)) ∧ (T10 ([headA a, headD d n] ++ rs.map (fun r => (ruleS r).1))).size ≤ 2000 := by
  unfold sourceS at h ⊢
  split at h
  · rename_i hw
    rw [if_pos hw]
    cases hL : linesS 0 rs [headA a, headD d n] with
    | none => rw [hL] at h; cases h
    | some ls =>
      rw [hL] at h
      obtain ⟨h1, h2, h3⟩ := lines_all rs 0 _ ls hL
      have h4 : (T10 ls).size ≤ 2000 := of_decide_eq_true h
      rw [h1] at h4
      refine ⟨⟨hw.1, hw.2.1⟩, hw.2.2, h2, fun q => by have := h3 q; omega, ?_, h4⟩
      show T10 ls = _
      rw [h1]
  · cases h

end Go.Proofs.YtdfjjimmnbijmaaGreatDoor.ZQ
