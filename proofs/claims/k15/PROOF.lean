import PyProof.Rows.All
import Wide.All
import OpenK.AllK
import Wide.FinOn
import HandS.ForMost
import HandS.ForExc
import HandS.Flow
import HandS.Defaults
import HandS.MakeKwOnly
import HandS.MakeKw
import HandS.ExcInit
import HandS.ExcField
import HandS.ExcIs
import HandS.IsInst
import HandS.WrittenGet
import HandS.Property
import HandS.OwnEq
import HandS.DictEq
import HandS.DeepEq
import HandS.TupAny
import HandS.CallSlots
import HandS.FStr
import HandS.RaiseMore
import HandS.Codes
import HandS.Deep
import HandS.Rev
import HandS.Head2
import HandS.HeadEnd
import HandS.HeadHook4
import HandS.HeadWalk
import HandS.Style
import HandS.Conv
import HandS.DictComp
import HandS.Strs
import KE.KSuper
import HandS.Nested
import PySem.Challenge.RW_stickymarks_k15_build_step
set_option Elab.async false
set_option linter.all false
set_option maxRecDepth 100000
set_option maxHeartbeats 4000000
/-! Base rules of our own over the hand layer. -/
namespace L2.MP
open PySem PySem.Spec PyProof.Rows

/-! ### weaker readings -/
section
variable {X : Cx}
theorem wkE {e : Expr} {t t' : TE} (h : PE X e t) (w : ∀ σ H Q, t' σ H Q → t σ H Q) : PE X e t' :=
  ⟨fun pins s σ H Q I q => h.run pins s σ H Q I (w σ H Q q)⟩
theorem wkO {f : Value → Value → Sem Value} {r r' : R2} (h : OpR X f r) (w : ∀ x y H Q, r' x y H Q → r x y H Q) : OpR X f r' :=
  fun pins s σ H x y v u Q I rx ry q => h pins s σ H x y v u Q I rx ry (w x y H Q q)
theorem wkC {f : Value} {r r' : List V → Hp → VK → Prop} (h : CallR X f r) (w : ∀ xs H Q, r' xs H Q → r xs H Q) : CallR X f r' :=
  fun pins s σ H xs us Q I rv q => h pins s σ H xs us Q I rv (w xs H Q q)
theorem orO {f : Value → Value → Sem Value} {r r' : R2} (h : OpR X f r) (h' : OpR X f r') : OpR X f (fun x y H Q => r x y H Q ∨ r' x y H Q) :=
  fun pins s σ H x y v u Q I rx ry q => q.elim (h pins s σ H x y v u Q I rx ry) (h' pins s σ H x y v u Q I rx ry)
end

/-! ### calls whose exceptions are wished for at the slots: made instances, methods, properties -/
section
variable {X : Cx} {CX : CXT} {k n : Nat} {f C p g : Addr} {fd : FuncData} {ps : List Str} {sp : Sp} {dvs : List V} {ds : List Value} {E : St → XK}
variable {x m : Str} {pp pos apos : Pos} {e o : Expr} {es : List Expr} {ta : TE} {t : TA}

/-- what an answer of a callee gives -/
theorem back_of {pins : List (Addr × Obj)} {σ : St} {H : Hp} {s s' : Shared} {Q : VK} {E₁ : XK} {r : Result} (hx : PassesAt CX X σ E₁) (I : Inv X pins σ H s)
    (hq : CR CX X.stack X.prog X.w H s Q E₁ r s') : wants (EP X pins σ Q) X.xe r s' := by
  rcases r with er | fl
  · exact hx pins H s er s' I hq
  · cases fl <;> first | exact I.after hq | exact hq.elim

theorem pe_call0S (F : FnOk X.prog X.w X.K X.mg X.base CX k f fd ps sp) (hr : Room k X.A) (hg : Gl X x) (hm : X.mg x = some (.ref f)) (hk : PySem.W.keepIn X.K (.ref f) = true) (hb : Binds X.K fd ps ds) (hd : Vals dvs ds)
    (hx : ∀ σ, PassesAt CX X σ (E σ)) (hdb : (x == ("__debug__" : Str)) = false := by decide) : PE X (.Call (.Name x pp) [] [] pos) (tCallSD sp dvs E tNil) :=
  ⟨fun pins s σ H Q I h => wpAny_Call_Name_kw (ld_glob I hg hm (PySem.W.callWith_K0 I.kIn hk (run_fnSD (us := []) F hr hb hd (hx σ) I .nil h)) hdb)⟩

/-- C(..), what is raised wished for at the slots -/
def tMakeS (C : Addr) (sp : Sp) (dvs : List V) (E : St → XK) (t : TA) : TE := fun σ H Q => t σ H fun vs H1 => ∀ x dx, H1 x = none → H1 dx = none → dx ≠ x →
  sp (.ref x :: (vs ++ dvs)) (upd (upd H1 dx (.own x)) x (.ins C dx [])) (fun v H2 => v = .non ∧ Q (.ref x) H2) (E σ)
theorem run_mk {pins : List (Addr × Obj)} {σ : St} {H : Hp} {s : Shared} {Q : VK} {us : List Value} {kws : List (Str × Value)} {ws : List Value} {vs : List V} {E₁ : XK} (M : Mk X.K C f) (F : FnOk X.prog X.w X.K X.mg X.base CX k f fd ps sp) (hr : Room (k + 1) X.A)
    (hx : PassesAt CX X σ E₁) (I : Inv X pins σ H s)
    (hb : ∀ (s' : Shared) (a : Addr), X.K.In s'.heap → BindsTo s' fd ⟨.ref a :: us, kws⟩ (ps.zip (ws.set 0 (.ref a)))) (rv : ∀ a, Vals (vs.set 0 (.ref a)) (ws.set 0 (.ref a)))
    (h : ∀ x dx, H x = none → H dx = none → dx ≠ x → sp (vs.set 0 (.ref x)) (upd (upd H dx (.own x)) x (.ins C dx [])) (fun v H2 => v = .non ∧ Q (.ref x) H2) E₁) :
    wpAny (model X.prog X.w) X.A (call (.ref C) us kws) (EP X pins σ Q) X.xe s := by
  have J := Inv.made (C := C) I
  have hq := h (s.heap.objs.size + 1) s.heap.objs.size (I.hok.fresh (Nat.le_succ _)) (I.hok.fresh (Nat.le_refl _)) (Nat.ne_of_lt (Nat.lt_succ_self _))
  refine wpAny_call (make_map (f := f) I.kIn M.makes M.init (beq_iff_eq.mp M.fn) ?_)
  refine codeAny_mono (F.run _ X.stack _ _ _ _ _ _ _ (hr.make C us kws) (J.env0.make C us kws) (hb _ _ J.kIn) (rv _) hq) fun r s' hr' => ?_
  rcases r with er | fl
  · exact hx pins _ _ er s' J hr'
  · cases fl with
    | ret u =>
      obtain ⟨v, H', I3, rv, ev, q3⟩ := J.after hr'
      subst ev
      exact ⟨rv, .ref (s.heap.objs.size + 1), H', I3, rfl, q3⟩
    | _ => exact hr'.elim
theorem mk_binds {us : List Value} (hb : Binds X.K fd ps ds) (hl : us.length + 1 + ds.length = ps.length) (s' : Shared) (a : Addr) (hk : X.K.In s'.heap) :
    BindsTo s' fd ⟨.ref a :: us, []⟩ (ps.zip ((Value.none :: (us ++ ds)).set 0 (.ref a))) :=
  hb s' (.ref a :: us) hk (by simpa [Nat.add_right_comm] using hl)
theorem mk_len {H : Hp} {Q : VK} {E₁ : XK} {us : List Value} {vs : List V} (F : FnOk X.prog X.w X.K X.mg X.base CX k f fd ps sp) (r : Vals vs us) (hd : Vals dvs ds) {a : Addr} (h : sp (.ref a :: (vs ++ dvs)) H Q E₁) : us.length + 1 + ds.length = ps.length := by
  have := F.len _ _ _ _ h
  have l1 := r.length
  have l2 := hd.length
  simp at this
  omega
theorem run_mkP {pins : List (Addr × Obj)} {σ : St} {H : Hp} {s : Shared} {Q : VK} {us : List Value} {vs : List V} (M : Mk X.K C f) (F : FnOk X.prog X.w X.K X.mg X.base CX k f fd ps sp) (hr : Room (k + 1) X.A) (hb : Binds X.K fd ps ds) (hd : Vals dvs ds)
    (hx : PassesAt CX X σ (E σ)) (I : Inv X pins σ H s) (r : Vals vs us)
    (h : ∀ x dx, H x = none → H dx = none → dx ≠ x → sp (.ref x :: (vs ++ dvs)) (upd (upd H dx (.own x)) x (.ins C dx [])) (fun v H2 => v = .non ∧ Q (.ref x) H2) (E σ)) :
    wpAny (model X.prog X.w) X.A (call (.ref C) us) (EP X pins σ Q) X.xe s := by
  have hl := mk_len F r hd (h (s.heap.objs.size + 1) s.heap.objs.size (I.hok.fresh (Nat.le_succ _)) (I.hok.fresh (Nat.le_refl _)) (Nat.ne_of_lt (Nat.lt_succ_self _)))
  exact run_mk (kws := []) (ws := Value.none :: (us ++ ds)) (vs := V.non :: (vs ++ dvs)) M F hr hx I (mk_binds hb hl) (fun a => .cons rfl (r.append hd)) h
theorem pe_makeS (M : Mk X.K C f) (F : FnOk X.prog X.w X.K X.mg X.base CX k f fd ps sp) (hr : Room (k + 1) X.A) (hg : Gl X x) (hm : X.mg x = some (.ref C)) (hb : Binds X.K fd ps ds) (hd : Vals dvs ds) (hx : ∀ σ, PassesAt CX X σ (E σ))
    (ha : PA X (e :: es) t) (hdb : (x == ("__debug__" : Str)) = false := by decide) (he : starEach (e :: es) X.env = (false, eval e X.env) :: starEach es X.env := by rfl) (hpl : (backTo pos (starEach es X.env)).any (·.1) = false := by rfl) :
    PE X (.Call (.Name x pp) (e :: es) [] pos) (tMakeS C sp dvs E t) :=
  ⟨fun pins s σ H Q I h => wpAny_Call_Name_kw (ld_glob I hg hm (PySem.W.callWith_K (h₀ := X.base) I.ok.mod.kin M.kp
    (thn (ha.run pos pins s σ H _ I h) fun us s1 ⟨vs, H1, I1, r, q⟩ => ⟨I1.kIn, run_mkP M F hr hb hd (hx σ) I1 r q⟩) he hpl) hdb)⟩
theorem pe_make0S (M : Mk X.K C f) (F : FnOk X.prog X.w X.K X.mg X.base CX k f fd ps sp) (hr : Room (k + 1) X.A) (hg : Gl X x) (hm : X.mg x = some (.ref C)) (hb : Binds X.K fd ps ds) (hd : Vals dvs ds) (hx : ∀ σ, PassesAt CX X σ (E σ))
    (hdb : (x == ("__debug__" : Str)) = false := by decide) : PE X (.Call (.Name x pp) [] [] pos) (tMakeS C sp dvs E tNil) :=
  ⟨fun pins s σ H Q I h => wpAny_Call_Name_kw (ld_glob I hg hm (PySem.W.callWith_K0 I.kIn M.kp (run_mkP (us := []) M F hr hb hd (hx σ) I .nil h)) hdb)⟩

/-- C(k = v, ..): keywords alone -/
def tMakeKS (C : Addr) (m : Nat) (sp : Sp) (gV : List V → List V → List V) (E : St → XK) (tk : TA) : TE := fun σ H Q => tk σ H fun zs H1 => zs.length = m ∧ ∀ x dx, H1 x = none → H1 dx = none → dx ≠ x →
  sp (gV [.ref x] zs) (upd (upd H1 dx (.own x)) x (.ins C dx [])) (fun v H2 => v = .non ∧ Q (.ref x) H2) (E σ)
theorem run_mkK {ks : List Str} {G : List Value → List Value → List Value} {gV : List V → List V → List V} {pins : List (Addr × Obj)} {σ : St} {H : Hp} {s : Shared} {Q : VK} {ws : List Value} {zs : List V} (M : Mk X.K C f)
    (F : FnOk X.prog X.w X.K X.mg X.base CX k f fd ps sp) (hr : Room (k + 1) X.A) (hb : KBn X.K fd ps 1 ks G gV) (hx : PassesAt CX X σ (E σ)) (I : Inv X pins σ H s) (rz : Vals zs ws) (l2 : zs.length = ks.length)
    (h : ∀ x dx, H x = none → H dx = none → dx ≠ x → sp (gV [.ref x] zs) (upd (upd H dx (.own x)) x (.ins C dx [])) (fun v H2 => v = .non ∧ Q (.ref x) H2) (E σ)) :
    wpAny (model X.prog X.w) X.A (call (.ref C) [] (ks.zip ws)) (EP X pins σ Q) X.xe s := by
  have J := Inv.made (C := C) I
  have hq := h (s.heap.objs.size + 1) s.heap.objs.size (I.hok.fresh (Nat.le_succ _)) (I.hok.fresh (Nat.le_refl _)) (Nat.ne_of_lt (Nat.lt_succ_self _))
  have rv := hb.rel (vs := [V.ref (s.heap.objs.size + 1)]) (us := [Value.ref (s.heap.objs.size + 1)]) (.cons rfl .nil) rz
  refine wpAny_call (make_map (f := f) I.kIn M.makes M.init (beq_iff_eq.mp M.fn) ?_)
  refine codeAny_mono (F.run _ X.stack _ _ _ _ _ _ _ (hr.make C [] (ks.zip ws)) (J.env0.make C [] (ks.zip ws)) (hb.to _ _ ws J.kIn rfl (rz.length.symm.trans l2)) rv hq) fun r s' hr' => ?_
  rcases r with er | fl
  · exact hx pins _ _ er s' J hr'
  · cases fl with
    | ret u =>
      obtain ⟨v, H', I3, rv, ev, q3⟩ := J.after hr'
      subst ev
      exact ⟨rv, .ref (s.heap.objs.size + 1), H', I3, rfl, q3⟩
    | _ => exact hr'.elim
theorem pe_makeKS {ks : List Str} {G : List Value → List Value → List Value} {gV : List V → List V → List V} {kws : List Keyword} {tk : TA} (M : Mk X.K C f) (F : FnOk X.prog X.w X.K X.mg X.base CX k f fd ps sp) (hr : Room (k + 1) X.A) (hg : Gl X x) (hm : X.mg x = some (.ref C))
    (hb : KBn X.K fd ps 1 ks G gV) (hx : ∀ σ, PassesAt CX X σ (E σ)) (hkw : PK X kws tk)
    (hall : (backToKw pos (keywordEach kws X.env)).all (·.1.isSome) = true := by rfl) (hks : (backToKw pos (keywordEach kws X.env)).filterMap (·.1) = ks := by rfl) (hdb : (x == ("__debug__" : Str)) = false := by decide)
    (hpl : ((backTo pos (starEach [] X.env)).any (·.1) || (backToKw pos (keywordEach kws X.env)).any (·.1.isNone)) = false := by rfl) :
    PE X (.Call (.Name x pp) [] kws pos) (tMakeKS C ks.length sp gV E tk) :=
  ⟨fun pins s σ H Q I h => wpAny_Call_Name_kw (ld_glob I hg hm (PySem.W.callWith_KW0 (h₀ := X.base) I.ok.mod.kin M.kp hall
    (thn (hkw.run pos pins s σ H _ I h) fun ws s2 ⟨zs, H2, I2, rz, l2, q2⟩ => ⟨I2.kIn, hks ▸ run_mkK M F hr hb (hx σ) I2 rz l2 q2⟩) hpl) hdb)⟩

/-- o.m(..) of an instance of the class at C -/
def tMethS (C : Addr) (m : Str) (sp : Sp) (dvs : List V) (E : St → XK) (ta : TE) (t : TA) : TE := fun σ H Q => ta σ H fun x H1 => ∃ a dx fs, x = .ref a ∧ H1 a = some (.ins C dx fs) ∧ fs.lookup m = none ∧
  t σ H1 fun vs H2 => sp (x :: (vs ++ dvs)) H2 Q (E σ)
theorem pe_methS {pl : Sem Bool} (he : PE X o ta) (c : Cls X.K C) (hm : Meth X.K C m f) (F : FnOk X.prog X.w X.K X.mg X.base CX k f fd ps sp) (hr : Room k X.A) (hb : Binds X.K fd ps ds) (hd : Vals dvs ds) (hx : ∀ σ, PassesAt CX X σ (E σ)) (ha : PA X (e :: es) t)
    (hst : starEach (e :: es) X.env = (false, eval e X.env) :: starEach es X.env := by rfl) (hpl : (backTo pos (starEach es X.env)).any (·.1) = false := by rfl)
    (ht : eval (.Call (.Attribute o m apos) (e :: es) [] pos) X.env = (eval o X.env >>= fun ov => standAt apos.atName >>= fun _ => holding [ov] (getMethod ov m pl) >>= fun z =>
      callWith pos z.1 z.2 (backTo pos (starEach (e :: es) X.env)) (backToKw pos (keywordEach [] X.env))) := by rfl) :
    PE X (.Call (.Attribute o m apos) (e :: es) [] pos) (tMethS C m sp dvs E ta t) := by
  refine ⟨fun pins s σ H Q I h => PySem.W.methodCall_KW (pl := pl) (thn (he.run pins s σ H _ I h) ?_) ht⟩
  rintro u s1 ⟨x, H1, I1, rx, a, dx, fs, rfl, ea, l, q⟩
  obtain rfl : u = Value.ref a := rx
  exact getmeth_ok I1 ea c hm l (PySem.W.callWith_K (first := [.ref a]) (h₀ := X.base) I.ok.mod.kin hm.kp
    (thn (ha.run pos pins s1 σ H1 _ I1 q) fun us s2 ⟨vs, H2, I2, r, q2⟩ => ⟨I2.kIn, run_fnSD (us := .ref a :: us) (vs := .ref a :: vs) F hr hb hd (hx σ) I2 (.cons rfl r) q2⟩) hst hpl)
theorem pe_meth0S {pl : Sem Bool} (he : PE X o ta) (c : Cls X.K C) (hm : Meth X.K C m f) (F : FnOk X.prog X.w X.K X.mg X.base CX k f fd ps sp) (hr : Room k X.A) (hb : Binds X.K fd ps ds) (hd : Vals dvs ds) (hx : ∀ σ, PassesAt CX X σ (E σ))
    (ht : eval (.Call (.Attribute o m apos) [] [] pos) X.env = (eval o X.env >>= fun ov => standAt apos.atName >>= fun _ => holding [ov] (getMethod ov m pl) >>= fun z =>
      callWith pos z.1 z.2 (backTo pos (starEach [] X.env)) (backToKw pos (keywordEach [] X.env))) := by rfl) :
    PE X (.Call (.Attribute o m apos) [] [] pos) (tMethS C m sp dvs E ta tNil) := by
  refine ⟨fun pins s σ H Q I h => PySem.W.methodCall_KW (pl := pl) (thn (he.run pins s σ H _ I h) ?_) ht⟩
  rintro u s1 ⟨x, H1, I1, rx, a, dx, fs, rfl, ea, l, q⟩
  obtain rfl : u = Value.ref a := rx
  exact getmeth_ok I1 ea c hm l (PySem.W.callWith_K0 (first := [.ref a]) I1.kIn hm.kp (run_fnSD (us := [.ref a]) (vs := [.ref a]) F hr hb hd (hx σ) I1 (.cons rfl .nil) q))
end

/-! ### operators and comparisons that an own class defines (nothing is raised) -/
section
variable {X : Cx} {k : Nat} {f C a dx : Addr} {fd : FuncData} {ps : List Str} {sp : Sp} {fs : List (Str × V)}
/-- the special method m of the class at C is the def at f -/
structure Spc (K : PySem.W.Frag) (C : Addr) (m : Str) (f : Addr) : Prop where
  at_ : PySem.W.findIn K (.ref C) m = some (some (.ref f))
  fn : PySem.W.isFn K (.ref f) = true
theorem cmpBack {v : V} {u : Value} {s : Shared} {Q : Value → Shared → Prop} (r : RelV v u) (q : Q u s) : PySem.W.CmpBack Q u s := by
  cases v <;> first
    | (obtain ⟨t, rfl⟩ := r; exact q)
    | (cases r; exact q)
theorem inst_of {pins : List (Addr × Obj)} {σ : St} {H : Hp} {s : Shared} (I : Inv X pins σ H s) (e : H a = some (.ins C dx fs)) : ∃ od, PySem.W.InstAt s.heap a (PySem.W.instObj C dx) C (some od) := by
  obtain ⟨mA, O, _⟩ := ins_get I.hok e
  obtain ⟨od, J, _⟩ := O.look
  exact ⟨od, J⟩
/-- both of the class at C -/
def rOwn (C : Addr) (sp : Sp) : R2 := fun x y H Q => ∃ a dx fs b dy gs, x = .ref a ∧ y = .ref b ∧ H a = some (.ins C dx fs) ∧ H b = some (.ins C dy gs) ∧ sp [.ref a, .ref b] H Q E0
/-- the left one of the class at C, the right one an int -/
def rOwnI (C : Addr) (sp : Sp) : R2 := fun x y H Q => ∃ a dx fs i, x = .ref a ∧ y = .int i ∧ H a = some (.ins C dx fs) ∧ sp [.ref a, .int i] H Q E0
/-- the left one of the class at C, the right one anything -/
def rOwnA (C : Addr) (sp : Sp) : R2 := fun x y H Q => ∃ a dx fs, x = .ref a ∧ H a = some (.ins C dx fs) ∧ sp [.ref a, y] H Q E0
theorem op_own {op : Operator} (F : FnOk X.prog X.w X.K X.mg X.base (L2.CX X.prog X.w) k f fd ps sp) (hr : Room k X.A) (hb : Binds X.K fd ps []) (hc : PySem.W.selfFirst X.K C = true) (hs : Spc X.K C (PySem.dunder op.info.2) f) : OpR X (binaryOp op) (rOwn C sp) := by
  rintro pins s σ H x y v u Q I rx ry ⟨a, dx, fs, b, dy, gs, rfl, rfl, ha, hbb, q⟩
  cases rx
  cases ry
  obtain ⟨od, J⟩ := inst_of I ha
  obtain ⟨od2, J2⟩ := inst_of I hbb
  obtain ⟨m, fr⟩ := I.fr
  refine PySem.W.binop_K fr I.mod.kin J J2.type hc hs.at_ hs.fn (thn (run_fn (us := [.ref a, .ref b]) (vs := [.ref a, .ref b]) (dvs := []) F hr hb .nil passL I (.cons rfl (.cons rfl .nil)) q) ?_)
  rintro u s1 ⟨w, H1, I1, rw', q1⟩
  exact cmpBack rw' ⟨w, H1, I1, rw', q1⟩
theorem op_ownI {op : Operator} {fo ro rc : Option Value} (F : FnOk X.prog X.w X.K X.mg X.base (L2.CX X.prog X.w) k f fd ps sp) (hr : Room k X.A) (hb : Binds X.K fd ps []) (hc : PySem.W.selfFirst X.K C = true) (hs : Spc X.K C (PySem.dunder op.info.2) f)
    (hrf : PySem.W.findIn X.K (.ref C) (PySem.dunderR op.info.2) = some rc) (hp : rc = none ∨ ∃ g : Addr, rc = some (.ref g)) (h1 : PySem.W.findIn X.K (.type "int") (PySem.dunder op.info.2) = some fo)
    (h2 : PySem.W.findIn X.K (.type "int") (PySem.dunderR op.info.2) = some ro) (hsub : PySem.W.subIn X.K (.type "int") (.ref C) = some false) : OpR X (binaryOp op) (rOwnI C sp) := by
  rintro pins s σ H x y v u Q I rx ry ⟨a, dx, fs, i, rfl, rfl, ha, q⟩
  cases rx
  obtain ⟨t, rfl⟩ := ry
  obtain ⟨od, J⟩ := inst_of I ha
  obtain ⟨m, fr⟩ := I.fr
  refine PySem.W.ksp_binT (T := "int") fr I.mod.kin J rfl hc hs.at_ hs.fn hrf hp h1 h2 hsub (thn (run_fn (us := [.ref a, .int i t]) (vs := [.ref a, .int i]) (dvs := []) F hr hb .nil passL I (.cons rfl (.cons ⟨t, rfl⟩ .nil)) q) ?_)
  rintro u s1 ⟨w, H1, I1, rw', q1⟩
  exact cmpBack rw' ⟨w, H1, I1, rw', q1⟩
theorem iop_own {op : Operator} (F : FnOk X.prog X.w X.K X.mg X.base (L2.CX X.prog X.w) k f fd ps sp) (hr : Room k X.A) (hb : Binds X.K fd ps []) (hc : PySem.W.selfFirst X.K C = true) (hs : Spc X.K C (PySem.dunderI op.info.2) f) : OpR X (inplaceOp op) (rOwnA C sp) := by
  rintro pins s σ H x y v u Q I rx ry ⟨a, dx, fs, rfl, ha, q⟩
  cases rx
  obtain ⟨od, J⟩ := inst_of I ha
  obtain ⟨m, fr⟩ := I.fr
  refine PySem.W.ksp_inplace fr I.mod.kin J hc hs.at_ hs.fn (thn (run_fn (us := [.ref a, u]) (vs := [.ref a, y]) (dvs := []) F hr hb .nil passL I (.cons rfl (.cons ry .nil)) q) ?_)
  rintro u s1 ⟨w, H1, I1, rw', q1⟩
  exact cmpBack rw' ⟨w, H1, I1, rw', q1⟩
theorem rc_own {op : CmpOp} (F : FnOk X.prog X.w X.K X.mg X.base (L2.CX X.prog X.w) k f fd ps sp) (hr : Room k X.A) (hb : Binds X.K fd ps []) (hn : PySem.W.notFirst X.K C (.ref C) = true) (hs : Spc X.K C (cmpInfo op).2.1 f) : OpR X (richCompare op) (rOwn C sp) := by
  rintro pins s σ H x y v u Q I rx ry ⟨a, dx, fs, b, dy, gs, rfl, rfl, ha, hbb, q⟩
  cases rx
  cases ry
  obtain ⟨od, J⟩ := inst_of I ha
  obtain ⟨od2, J2⟩ := inst_of I hbb
  obtain ⟨m, fr⟩ := I.fr
  refine PySem.W.cmp_K hr.units0 fr I.mod.kin J J2.type hn hs.at_ hs.fn (thn (run_fn (us := [.ref a, .ref b]) (vs := [.ref a, .ref b]) (dvs := []) F hr hb .nil passL I (.cons rfl (.cons rfl .nil)) q) ?_)
  rintro u s1 ⟨w, H1, I1, rw', q1⟩
  exact cmpBack rw' ⟨w, H1, I1, rw', q1⟩

/-- o[i] by an own __getitem__ -/
def tOwnIx (C : Addr) (sp : Sp) (E : St → XK) (ta tb : TE) : TE := fun σ H Q => ta σ H fun x H1 => tb σ H1 fun y H2 => ∃ a dx fs, x = .ref a ∧ H2 a = some (.ins C dx fs) ∧ sp [.ref a, y] H2 Q (E σ)
/-- o[i] = v by an own __setitem__ -/
def sOwnPut (C : Addr) (sp : Sp) (E : St → XK) (to ti tv : TE) : TS := fun D σ H => tv σ H fun v H1 => to σ H1 fun x H2 => ti σ H2 fun y H3 => ∃ a dx fs, x = .ref a ∧ H3 a = some (.ins C dx fs) ∧ sp [.ref a, y, v] H3 (fun _ H4 => D.nx σ H4) (E σ)
end
section
variable {X : Cx} {CX : CXT} {k : Nat} {f C : Addr} {fd : FuncData} {ps : List Str} {sp : Sp} {E : St → XK} {o i value : Expr} {to ti tv : TE} {pos pos' : Pos}
theorem pe_ownIx (F : FnOk X.prog X.w X.K X.mg X.base CX k f fd ps sp) (hr : Room (k + 1) X.A) (hb : Binds X.K fd ps []) (hx : ∀ σ, PassesAt CX X σ (E σ)) (hs : Spc X.K C "__getitem__" f) (hf : PySem.W.fnIn X.K f = true) (ho : PE X o to) (hi : PE X i ti)
    (hsl : ∀ x v, subscripted i true (.ref x) v = runValue (.builtin "lifetime.subscript" ⟨[.ref x, v], []⟩) := by intro _ _; rfl) : PE X (.Subscript o i pos) (tOwnIx C sp E to ti) := by
  refine ⟨fun pins s σ H Q I h => Subscript_ (binT ho hi I h ?_)⟩
  rintro v u s2 x y H2 I2 rx ry ⟨a, dx, fs, rfl, ha, q⟩
  cases rx
  obtain ⟨od, J⟩ := inst_of I2 ha
  obtain ⟨m, fr⟩ := I2.fr
  refine PySem.W.sub_K fr I2.mod.kin J hs.at_ hf hs.fn ?_ (hsl a u)
  have rv : Vals [V.ref a, y] [Value.ref a, u] := .cons rfl (.cons ry .nil)
  refine wpAny_call (codeAny_mono (F.run X.A.in1 X.stack s2 H2 ⟨[.ref a, u], []⟩ [.ref a, u] [.ref a, y] Q (E σ) hr.in1 I2.env0.in1 (hb s2 [.ref a, u] I2.kIn ?_) rv q) fun r s' hq => back_of (hx σ) I2 hq)
  exact (F.len _ _ _ _ q)
theorem ps_ownPut (F : FnOk X.prog X.w X.K X.mg X.base CX k f fd ps sp) (hr : Room k X.A) (hb : Binds X.K fd ps []) (hx : ∀ σ, PassesAt CX X σ (E σ)) (hs : Spc X.K C "__setitem__" f) (hq : PySem.W.noSeq X.K C = true) (ho : PE X o to) (hi : PE X i ti) (hv : PE X value tv)
    (hsw : swapsWith value (some (.Subscript o i pos')) pos.line X.env = pure false) : PS X (.Assign [.Subscript o i pos'] value pos) (sOwnPut C sp E to ti tv) := by
  refine ⟨fun pins s σ H D I h => wpAny_Assign_Subscript (thn (hv.run pins s σ H _ I h) ?_) hsw⟩
  rintro r s1 ⟨v, H1, I1, rv, q1⟩
  refine thn (ho.run pins s1 σ H1 _ I1 q1) ?_
  rintro u s2 ⟨x, H2, I2, rx, q2⟩
  refine thn (hi.run pins s2 σ H2 _ I2 q2) ?_
  rintro iv s3 ⟨y, H3, I3, ry, a, dx, fs, rfl, ha, q3⟩
  cases rx
  obtain ⟨od, J⟩ := inst_of I3 ha
  obtain ⟨m, fr⟩ := I3.fr
  refine PySem.W.ksp_setItem fr I3.mod.kin J hq hs.at_ hs.fn ?_
  refine thn (run_fnSD (us := [.ref a, iv, r]) (vs := [.ref a, y, v]) (dvs := []) (E := E) F hr hb .nil (hx σ) I3 (.cons rfl (.cons ry (.cons rv .nil))) q3) ?_
  rintro _ s4 ⟨w, H4, I4, _, q4⟩
  exact ⟨σ, H4, I4, q4⟩
end
end L2.MP

set_option Elab.async false
set_option linter.all false
set_option maxRecDepth 100000
set_option maxHeartbeats 4000000
/-! The head: defs at any address that the written part tells, one Bool for all other facts, tables. -/
namespace L2.MP
open PySem PySem.Spec PyProof.Rows
/-- a def by the address that the written part gives it -/
structure DefM where
  adr : PySem.W.Frag → Addr
  name : Str
  qual : Str
  st : Stmt
  dfl : List He.Dv := []
  kwd : List (Str × He.Dv) := []
  fr : List Str := []
def dBody (s : Stmt) : List Stmt := defBody s
/-- a def's text; of its closure the names alone -/
abbrev FnV : Type := Option (Str × Str × Arguments × FuncBody × Scope × Addr × List Str × Addr)
def fnAt (K : PySem.W.Frag) (a : Addr) : FnV := match K.lookup a with
  | some ⟨_, _, .func fd, _⟩ => some (fd.name, fd.qualname, fd.params, fd.body, fd.scope, fd.globals, fd.closure.map (·.1), fd.builtins)
  | _ => none
def fdAt (K : PySem.W.Frag) (a : Addr) : FuncData := match K.lookup a with
  | some ⟨_, _, .func fd, _⟩ => fd
  | _ => PySem.W.fnOf "" "" (defArgs (.Pass ⟨0, 0, 0, 0⟩)) [] (defScope (.Pass ⟨0, 0, 0, 0⟩)) .none .none .none .none none .none .none
def DefM.val (d : DefM) : FnV := some (d.name, d.qual, defArgs d.st, .stmts (defBody d.st), defScope d.st, mainGlobals, d.fr, builtinsNs)
def DefM.dvs (K : PySem.W.Frag) (d : DefM) : List V := d.dfl.map (He.Dv.v K)
def DefM.kws (K : PySem.W.Frag) (d : DefM) : List (Str × V) := d.kwd.map fun q => (q.1, q.2.v K)
def DefM.ok (K : PySem.W.Frag) (d : DefM) : Bool := PySem.W.keepIn K (.ref (d.adr K)) && (match K.lookup (d.adr K) with
  | some ⟨_, _, .func fd, _⟩ => PySem.W.codeIn K fd.code d.qual && (He.dflB K fd.defaults (d.dvs K) && He.kwdB K fd.kwdefaults (d.kws K))
  | _ => false)
/-- a def of the text as it stands behind the top -/
abbrev FunM (K : PySem.W.Frag) (d : DefM) : Prop := FunD K d.name d.qual (defArgs d.st) (defBody d.st) (defScope d.st) (d.dvs K) (d.kws K) (d.adr K) (fdAt K (d.adr K))
theorem DefM.fun {K : PySem.W.Frag} {d : DefM} (hfr : d.fr = []) (e : fnAt K (d.adr K) = d.val) (c : d.ok K = true) : FunM K d := by
  obtain ⟨kp, c2⟩ := He.ba c
  revert e c2
  unfold FunM fnAt fdAt
  cases q : K.lookup (d.adr K) with
  | none => intro _ c2; cases c2
  | some o =>
    rcases o with ⟨oc, od, dt, osl⟩
    cases dt with
    | func fd =>
      rcases fd with ⟨n1, n2, n3, n4, n5, n6, n7, n8, n9, n10, n11, n12, n13, n14, n15⟩
      intro e c2
      have e2 : (some (n1, n2, n3, n4, n5, n6, n7.map (·.1), n15) : FnV) = some (d.name, d.qual, defArgs d.st, .stmts (defBody d.st), defScope d.st, mainGlobals, d.fr, builtinsNs) := e
      simp only [Option.some.injEq, Prod.mk.injEq] at e2
      rcases e2 with ⟨h1, h2, h3, h4, h5, h6, h7, h8⟩
      rw [hfr, List.map_eq_nil_iff] at h7
      subst h1 h2 h3 h4 h5 h6 h7 h8
      obtain ⟨k1, k2⟩ := He.ba c2
      obtain ⟨k3, k4⟩ := He.ba k2
      exact ⟨⟨oc, od, n8, n9, n10, n11, n12, n13, n14, osl, rfl, q, k1, He.dflB_ok k3, He.kwdB_ok k4⟩, kp⟩
    | _ => intro _ c2; cases c2
/-- a def that captures __class__ -/
structure FunC (K : PySem.W.Frag) (x qual : Str) (params : Arguments) (body : List Stmt) (scope : Scope) (f : Addr) (fd : FuncData) (c cc : Addr) : Prop where
  ex : ∃ (oc : Value) (od : Option Addr) (kV doc pm : Value) (an : Option Addr) (ct : Value) (osl : Array (Option Value)),
    fd = PySem.W.fnX x qual params body scope [("__class__", cc)] .none kV doc pm an (.ref c) ct ∧ K.lookup f = some ⟨oc, od, .func fd, osl⟩
  cd : PySem.W.codeIn K (.ref c) qual = true
  kp : PySem.W.keepIn K (.ref f) = true
def ccAt (K : PySem.W.Frag) (a : Addr) : Addr := match K.lookup a with
  | some ⟨_, _, .func fd, _⟩ => (match fd.closure with | (_, c) :: _ => c | _ => 0)
  | _ => 0
def cdAt (K : PySem.W.Frag) (a : Addr) : Addr := match K.lookup a with
  | some ⟨_, _, .func fd, _⟩ => (match fd.code with | .ref c => c | _ => 0)
  | _ => 0
abbrev FunMC (K : PySem.W.Frag) (d : DefM) : Prop := FunC K d.name d.qual (defArgs d.st) (defBody d.st) (defScope d.st) (d.adr K) (fdAt K (d.adr K)) (cdAt K (d.adr K)) (ccAt K (d.adr K))
theorem DefM.funC {K : PySem.W.Frag} {d : DefM} (hfr : d.fr = [("__class__" : Str)]) (hdf : d.dfl = []) (e : fnAt K (d.adr K) = d.val) (c : d.ok K = true) : FunMC K d := by
  obtain ⟨kp, c2⟩ := He.ba c
  revert e c2
  unfold FunMC fnAt fdAt ccAt cdAt
  cases q : K.lookup (d.adr K) with
  | none => intro _ c2; cases c2
  | some o =>
    rcases o with ⟨oc, od, dt, osl⟩
    cases dt with
    | func fd =>
      rcases fd with ⟨n1, n2, n3, n4, n5, n6, n7, n8, n9, n10, n11, n12, n13, n14, n15⟩
      intro e c2
      have e2 : (some (n1, n2, n3, n4, n5, n6, n7.map (·.1), n15) : FnV) = some (d.name, d.qual, defArgs d.st, .stmts (defBody d.st), defScope d.st, mainGlobals, d.fr, builtinsNs) := e
      simp only [Option.some.injEq, Prod.mk.injEq] at e2
      rcases e2 with ⟨h1, h2, h3, h4, h5, h6, h7, h8⟩
      rw [hfr] at h7
      obtain ⟨cc, rfl⟩ : ∃ cc : Addr, n7 = [(("__class__" : Str), cc)] := by
        rcases n7 with _ | ⟨⟨y, cc⟩, _ | ⟨z, r⟩⟩
        · cases h7
        · simp at h7
          exact ⟨cc, by rw [h7]⟩
        · simp at h7
      subst h1 h2 h3 h4 h5 h6 h8
      obtain ⟨k1, k2⟩ := He.ba c2
      obtain ⟨k3, k4⟩ := He.ba k2
      have k5 := He.dflB_ok k3
      rw [show d.dvs K = [] by unfold DefM.dvs; rw [hdf]; rfl] at k5
      have k6 : n8 = .none := by
        rcases k5 with ⟨_, z⟩ | ⟨z, _⟩
        · exact z
        · exact absurd rfl z
      obtain ⟨c1, rfl⟩ : ∃ c1, n13 = .ref c1 := by
        cases n13 with
        | ref c1 => exact ⟨c1, rfl⟩
        | _ => cases k1
      exact ⟨⟨oc, od, n9, n10, n11, n12, n14, osl, by rw [k6], q⟩, k1, kp⟩
    | _ => intro _ c2; cases c2
/-- the getter of the property m of the class named x -/
def pgA (x m : Str) (K : PySem.W.Frag) : Addr := match PySem.W.recIn K (He.ma K (He.ga K x) m) "property" with
  | some (.ref g :: _) => g
  | _ => 0
def propB (x m : Str) (K : PySem.W.Frag) : Bool := He.eqO (PySem.W.findIn K (.ref (He.ga K x)) m) (some (some (.ref (He.ma K (He.ga K x) m)))) &&
  (He.eqO (PySem.W.specialIn K (.ref (He.ma K (He.ga K x) m)) "__get__") (some (some (.builtin "property.__get__"))) && (decide (PySem.W.takesIn K (.ref (He.ma K (He.ga K x) m)) = some true) &&
    (match PySem.W.recIn K (He.ma K (He.ga K x) m) "property" with
    | some (.ref _ :: _) => true
    | _ => false)))
theorem propB_ok {x m : Str} {K : PySem.W.Frag} (h : propB x m K = true) : PropOf K (He.ga K x) m (He.ma K (He.ga K x) m) (pgA x m K) := by
  obtain ⟨h1, h⟩ := He.ba h
  obtain ⟨h2, h⟩ := He.ba h
  obtain ⟨h3, h4⟩ := He.ba h
  refine ⟨He.eqO_ok h1, He.eqO_ok h2, of_decide_eq_true h3, ?_⟩
  unfold pgA
  split at h4
  · rename_i g rest q
    rw [q]
    exact ⟨rest, rfl⟩
  · cases h4
def spcB (x m : Str) (K : PySem.W.Frag) : Bool := He.eqO (PySem.W.findIn K (.ref (He.ga K x)) m) (some (some (.ref (He.ma K (He.ga K x) m)))) && PySem.W.isFn K (.ref (He.ma K (He.ga K x) m))
theorem spcB_ok {x m : Str} {K : PySem.W.Frag} (h : spcB x m K = true) : Spc K (He.ga K x) m (He.ma K (He.ga K x) m) := by
  obtain ⟨h1, h2⟩ := He.ba h
  exact ⟨He.eqO_ok h1, h2⟩
/-- the Hook: all defs' texts, one Bool, tables with text keys -/
abbrev AlM : Type := List FnV × Bool × List (Option (List (Option (Str × Int))))
def obsM (fn : List DefM) (ex : PySem.W.Frag → Bool) (ts : List He.Tab) (K : PySem.W.Frag) : AlM := (fn.map (fun d => fnAt K (d.adr K)), (fn.all fun d => d.ok K) && ex K, ts.map fun t => He.dicW K (t.1 K))
def valM (fn : List DefM) (ts : List He.Tab) (w : World) : AlM := (fn.map DefM.val, true, ts.map fun t => some (He.keysIn w.params t.2))
structure SaysM (fn : List DefM) (ex : PySem.W.Frag → Bool) (ts : List He.Tab) (w : World) (K : PySem.W.Frag) : Prop where
  eq : obsM fn ex ts K = valM fn ts w
theorem SaysM.at_ {fn : List DefM} {ex : PySem.W.Frag → Bool} {ts : List He.Tab} {w : World} {K : PySem.W.Frag} (c : SaysM fn ex ts w K) (i : Nat) {d : DefM} (h : fn[i]? = some d := by rfl) : fnAt K (d.adr K) = d.val ∧ d.ok K = true := by
  have e1 : fn.map (fun d => fnAt K (d.adr K)) = fn.map DefM.val := congrArg (fun z : AlM => z.1) c.eq
  have e2 : ((fn.all fun d => d.ok K) && ex K) = true := congrArg (fun z : AlM => z.2.1) c.eq
  obtain ⟨h1, _⟩ := He.ba e2
  refine ⟨?_, List.all_eq_true.mp h1 d (List.mem_of_getElem? h)⟩
  have q := congrArg (fun l => l[i]?) e1
  simp only [List.getElem?_map, h, Option.map_some, Option.some.injEq] at q
  exact q
theorem SaysM.fun {fn : List DefM} {ex : PySem.W.Frag → Bool} {ts : List He.Tab} {w : World} {K : PySem.W.Frag} (c : SaysM fn ex ts w K) (i : Nat) {d : DefM} (hfr : d.fr = []) (h : fn[i]? = some d := by rfl) : FunM K d :=
  DefM.fun hfr (c.at_ i h).1 (c.at_ i h).2
theorem SaysM.funC {fn : List DefM} {ex : PySem.W.Frag → Bool} {ts : List He.Tab} {w : World} {K : PySem.W.Frag} (c : SaysM fn ex ts w K) (i : Nat) {d : DefM} (hfr : d.fr = [("__class__" : Str)]) (hdf : d.dfl = []) (h : fn[i]? = some d := by rfl) : FunMC K d :=
  DefM.funC hfr hdf (c.at_ i h).1 (c.at_ i h).2
theorem SaysM.more {fn : List DefM} {ex : PySem.W.Frag → Bool} {ts : List He.Tab} {w : World} {K : PySem.W.Frag} (c : SaysM fn ex ts w K) : ex K = true :=
  (He.ba (congrArg (fun z : AlM => z.2.1) c.eq : ((fn.all fun d => d.ok K) && ex K) = true)).2
theorem SaysM.tab {fn : List DefM} {ex : PySem.W.Frag → Bool} {ts : List He.Tab} {w : World} {K : PySem.W.Frag} (c : SaysM fn ex ts w K) (i : Nat) {t : He.Tab} (h : ts[i]? = some t := by rfl) : ∃ es n, KDict K w (t.1 K) es n := by
  have e : (ts.map fun t => He.dicW K (t.1 K)) = ts.map fun t => some (He.keysIn w.params t.2) := congrArg (fun z : AlM => z.2.2) c.eq
  have q := congrArg (fun l => l[i]?) e
  simp only [List.getElem?_map, h, Option.map_some, Option.some.injEq] at q
  exact He.dicW_ok q
def hookM (n : Nat) (fn : List DefM) (ex : PySem.W.Frag → Bool) (ts : List He.Tab) : PySem.W.Hook where
  α := AlM
  obs := fun s => obsM fn ex ts (He.frT s.heap.get? (He.asD s.heap.get? n))
  val := fun w => valM fn ts w
  says := fun w h => ∃ K : PySem.W.Frag, K.In h ∧ SaysM fn ex ts w K
  of := fun _ _ e => ⟨_, He.frT_in, ⟨e⟩⟩
  keeps := fun _ _ _ ⟨K, hK, c⟩ k => ⟨K, PySem.W.Frag.In.keeps hK k, c⟩
def obsMG (n : Nat) (fn : List DefM) (ex : PySem.W.Frag → Bool) (ts : List He.Tab) (s : PySem.W.SharedT) : AlM := obsM fn ex ts (He.frT (HandSHeadRun.getT s) (He.asD (HandSHeadRun.getT s) n))
theorem obsMG_eq (n : Nat) (fn : List DefM) (ex : PySem.W.Frag → Bool) (ts : List He.Tab) (s : PySem.W.SharedT) : obsMG n fn ex ts s = (hookM n fn ex ts).obs s.abs := by
  have e : HandSHeadRun.getT s = s.abs.heap.get? := funext (HandSHeadRun.getT_eq s)
  show obsM fn ex ts (He.frT (HandSHeadRun.getT s) (He.asD (HandSHeadRun.getT s) n)) = obsM fn ex ts (He.frT s.abs.heap.get? (He.asD s.abs.heap.get? n))
  rw [e]
end L2.MP

set_option Elab.async false
set_option linter.all false
set_option maxRecDepth 100000
set_option maxHeartbeats 4000000
/-! Named readings of the operators and built-in functions that the programs use. -/
namespace L2.MP
open PySem PySem.Spec PyProof.Rows
section
variable {X : Cx}
/-! ### names -/
theorem pe_gint {x : Str} {i : Int} {pos : Pos} (hg : Gl X x) (h : ∃ t, X.mg x = some (.int i t)) (hd : (x == ("__debug__" : Str)) = false := by decide) : PE X (.Name x pos) (tC (.int i)) := by
  obtain ⟨t, h⟩ := h
  exact pe_glob hg h ⟨t, rfl⟩ hd
theorem pe_gstr {x z : Str} {pos : Pos} (hg : Gl X x) (h : ∃ t, X.mg x = some (.str z t)) (hd : (x == ("__debug__" : Str)) = false := by decide) : PE X (.Name x pos) (tC (.str z)) := by
  obtain ⟨t, h⟩ := h
  exact pe_glob hg h ⟨t, rfl⟩ hd
/-! ### numbers -/
def rSubI : R2 := rI0 fun i j => .int (i - j)
def rAddI : R2 := rI0 fun i j => .int (i + j)
def rFdivI : R2 := rI CDiv fun i j => .int (i / j)
def rModI : R2 := rI (fun _ j => 0 < j) fun i j => .int (i % j)
def rPowI : R2 := rI CPow fun i j => .int (i ^ j.toNat)
def rNegI : V → Hp → VK → Prop := rU fun i => .int (-i)
theorem op_subI : OpR X (binaryOp .Sub) rSubI := op_sub
theorem op_fdivI : OpR X (binaryOp .FloorDiv) rFdivI := op_fdiv
theorem op_modI : OpR X (binaryOp .Mod) rModI := op_mod
theorem op_powI : OpR X (binaryOp .Pow) rPowI := op_pow
theorem un_negI : UnR X (unaryOp .USub) rNegI := un_neg
theorem iop_addI : OpR X (inplaceOp .Add) rAddI := iop_add
def rLtI : R2 := rI0 fun i j => .bl (decide (i < j))
def rLeI : R2 := rI0 fun i j => .bl (decide (i ≤ j))
def rGtI : R2 := rI0 fun i j => .bl (decide (j < i))
def rGeI : R2 := rI0 fun i j => .bl (decide (j ≤ i))
theorem op_ltI : OpR X (compareOp .Lt) rLtI := op_lt
theorem op_leI : OpR X (compareOp .LtE) rLeI := op_le
theorem op_gtI : OpR X (compareOp .Gt) rGtI := op_gt
theorem op_geI : OpR X (compareOp .GtE) rGeI := op_ge
/-! ### plus and times of any kind -/
def rAddA (K : PySem.W.Frag) : R2 := fun x y H Q => match x, y with
  | .int i, .int j => Q (.int (i + j)) H
  | .str i, .str j => i.length + j.length ≤ sizeLine ∧ Q (.str (i ++ j)) H
  | .ref a, .ref b => rCat (.ref a) (.ref b) H Q ∨ rCatA K (.ref a) (.ref b) H Q
  | _, _ => False
theorem op_addA : OpR X (binaryOp .Add) (rAddA X.K) := by
  intro pins s σ H x y v u Q I rx ry h
  cases x <;> cases y <;> first
    | exact op_add pins s σ H _ _ v u Q I rx ry ⟨_, _, rfl, rfl, h⟩
    | exact op_add_str pins s σ H _ _ v u Q I rx ry ⟨_, _, rfl, rfl, h.1, h.2⟩
    | exact h.elim (op_cat pins s σ H _ _ v u Q I rx ry) (op_catA pins s σ H _ _ v u Q I rx ry)
    | exact h.elim
def rMulA : R2 := fun x y H Q => match x, y with
  | .int i, .int j => CMul i j ∧ Q (.int (i * j)) H
  | .str z, .int n => MulOk z n ∧ Q (.str (Txt.mul z n)) H
  | _, _ => False
theorem op_mulA : OpR X (binaryOp .Mult) rMulA := by
  intro pins s σ H x y v u Q I rx ry h
  cases x <;> cases y <;> first
    | exact op_mul pins s σ H _ _ v u Q I rx ry ⟨_, _, rfl, rfl, h.1, h.2⟩
    | (obtain ⟨h1, q⟩ := h
       obtain ⟨t, rfl⟩ := rx
       obtain ⟨t', rfl⟩ := ry
       exact SB.mul h1 fun t2 k => ⟨.str _, H, I.tok _, ⟨_, rfl⟩, q⟩)
    | exact h.elim
/-! ### equal or not, of scalars and of nested data -/
def rEqA (K : PySem.W.Frag) : R2 := fun x y H Q => rEq x y H Q ∨ rEqD K x y H Q
def rNeA (K : PySem.W.Frag) : R2 := fun x y H Q => rNe x y H Q ∨ rNeD K x y H Q
theorem op_eqA (hu : X.A.units + 64 < cLine) : OpR X (compareOp .Eq) (rEqA X.K) := orO op_eq (op_eqD hu)
theorem op_neA (hu : X.A.units + 64 < cLine) : OpR X (compareOp .NotEq) (rNeA X.K) := orO op_ne (op_neD hu)
def rIsNone : R2 := fun x y H Q => y = .non ∧ Q (.bl (decide (x = .non))) H
def rNotNone : R2 := fun x y H Q => y = .non ∧ Q (.bl (!decide (x = .non))) H
theorem op_isNone : OpR X (compareOp .Is) rIsNone := op_isN
theorem op_notNone : OpR X (compareOp .IsNot) rNotNone := op_notN
/-! ### in -/
def rInDict (neg : Bool) : R2 := fun x y H Q => ∃ a o, y = .ref a ∧ DGet H a x o ∧ Q (.bl (if neg then !o.isSome else o.isSome)) H
theorem op_inDict (hu : X.A.units + 1 < cLine) : OpR X (compareOp .In) (rInDict false) := by
  rintro pins s σ H x y v u Q I rx ry ⟨a, o, rfl, g, q⟩
  cases ry
  exact d_in hu I g rx fun s' I' => ⟨.bl o.isSome, H, I', rfl, q⟩
theorem op_notInDict (hu : X.A.units + 1 < cLine) : OpR X (compareOp .NotIn) (rInDict true) := by
  rintro pins s σ H x y v u Q I rx ry ⟨a, o, rfl, g, q⟩
  cases ry
  exact d_notIn hu I g rx fun s' I' => ⟨.bl (!o.isSome), H, I', rfl, q⟩
def rInA (K : PySem.W.Frag) (neg : Bool) : R2 := fun x y H Q => rIn K neg x y H Q ∨ rInDict neg x y H Q
theorem op_inA (hu : X.A.units + 1 < cLine) : OpR X (compareOp .In) (rInA X.K false) := orO op_in_seq (op_inDict hu)
theorem op_notInA (hu : X.A.units + 1 < cLine) : OpR X (compareOp .NotIn) (rInA X.K true) := orO op_notIn_seq (op_notInDict hu)
/-! ### built-in functions -/
def rAbsI : List V → Hp → VK → Prop := fun xs H Q => match xs with
  | [.int i] => Q (.int (if i < 0 then -i else i)) H
  | _ => False
theorem call_absI : CallR X (.builtin "abs") rAbsI := wkC call_abs fun xs H Q q => by
  rcases xs with _ | ⟨x, _ | ⟨y, r⟩⟩
  · exact q.elim
  · cases x <;> first | exact ⟨_, rfl, q⟩ | exact q.elim
  · cases x <;> exact q.elim
def rMax2I : List V → Hp → VK → Prop := fun xs H Q => match xs with
  | [.int i, .int j] => Q (.int (if j > i then j else i)) H
  | _ => False
theorem two_of {P : List V → Prop} {F : Int → Int → Prop} {xs : List V} (h : match xs with | [.int i, .int j] => F i j | _ => False) : ∃ i j, xs = [.int i, .int j] ∧ F i j := by
  split at h
  · exact ⟨_, _, rfl, h⟩
  · exact h.elim
theorem call_max2I (hc : X.calm = true) : CallR X (.builtin "max") rMax2I := wkC (call_max2 hc) fun xs H Q q => two_of (P := fun _ => True) q
def rMin2I : List V → Hp → VK → Prop := fun xs H Q => match xs with
  | [.int i, .int j] => Q (.int (if j < i then j else i)) H
  | _ => False
theorem call_min2I (hc : X.calm = true) : CallR X (.builtin "min") rMin2I := wkC (call_min2 hc) fun xs H Q q => two_of (P := fun _ => True) q
def rIntA : List V → Hp → VK → Prop := fun xs H Q => match xs with
  | [.int i] => Q (.int i) H
  | [.bl k] => Q (.int (if k then 1 else 0)) H
  | _ => False
theorem call_intA : CallR X (.type "int") rIntA := wkC call_int1 fun xs H Q q => by
  unfold rIntA at q
  split at q
  · exact .inl ⟨_, rfl, q⟩
  · exact .inr ⟨_, rfl, q⟩
  · exact q.elim
def rLenA (K : PySem.W.Frag) : List V → Hp → VK → Prop := fun xs H Q => ∃ x n, xs = [x] ∧ LenV K x H n ∧ Q (.int n) H
theorem call_lenA : CallR X (.builtin "len") (rLenA X.K) := call_len
def rLenD : List V → Hp → VK → Prop := fun xs H Q => ∃ a kvs, xs = [V.ref a] ∧ H a = some (.dK kvs) ∧ Q (.int kvs.length) H
theorem call_lenDI : CallR X (.builtin "len") rLenD := call_lenD
def rListA (K : PySem.W.Frag) : List V → Hp → VK → Prop := fun xs H Q => ∃ p ys, xs = [.ref p] ∧ (SqL K H p ys ∨ SqT K H p ys) ∧ ∀ l, H l = none → Q (.ref l) (upd H l (.lst ys))
theorem call_listA : CallR X (.type "list") (rListA X.K) := call_list_of
def rTupleA (K : PySem.W.Frag) : List V → Hp → VK → Prop := fun xs H Q => ∃ p ys, xs = [.ref p] ∧ ((SqL K H p ys ∧ ∀ l, H l = none → Q (.ref l) (upd H l (.tup ys))) ∨ (SqT K H p ys ∧ Q (.ref p) H))
theorem call_tupleA : CallR X (.type "tuple") (rTupleA X.K) := call_tuple_of
def rStrI : List V → Hp → VK → Prop := fun xs H Q => ∃ i, xs = [.int i] ∧ i.natAbs.log2 < 1920 ∧ Q (.str (toString i)) H
theorem call_strI : CallR X (.type "str") rStrI := call_str_int
/-! ### texts -/
def rSplitA : V → List V → Hp → VK → Prop := fun x xs H Q => ∃ a b, x = V.str a ∧ xs = [V.str b] ∧ (b.length == 0) = false ∧ a.length + 2 ≤ sizeLine ∧ rNewStrs (Txt.split a b) H Q
theorem pe_splitA {o e : Expr} {to te : TE} {apos pos : Pos} (ho : PE X o to) (he : PE X e te) (h1 : starEach [e] X.env = [(false, eval e X.env)] := by rfl) (h2 : attributeBase o "split" X.env (eval o X.env) = eval o X.env := by rfl)
    (h3 : (apos.endLine == pos.line) = true := by rfl) : PE X (.Call (.Attribute o "split" apos) [e] [] pos) (tM1 rSplitA to te) := pe_split ho he h1 h2 h3
def rJoinA (K : PySem.W.Frag) : V → List V → Hp → VK → Prop := fun x xs H Q => ∃ a p ys, x = V.str a ∧ xs = [V.ref p] ∧ (SqL K H p (ys.map V.str) ∨ SqT K H p (ys.map V.str)) ∧ (ys.map (·.length)).sum + ys.length * a.length ≤ 16777216 ∧ Q (V.str (Txt.join a ys)) H
theorem pe_joinA {o e : Expr} {to te : TE} {apos pos : Pos} (ho : PE X o to) (he : PE X e te) (h1 : starEach [e] X.env = [(false, eval e X.env)] := by rfl) (h2 : attributeBase o "join" X.env (eval o X.env) = eval o X.env := by rfl)
    (h3 : (apos.endLine == pos.line) = true := by rfl) : PE X (.Call (.Attribute o "join" apos) [e] [] pos) (tM1 (rJoinA X.K) to te) := pe_join ho he h1 h2 h3
def rSlAny (K : PySem.W.Frag) : V → Option Int → Option Int → Hp → VK → Prop := fun x lo hi H Q => rSlL K x lo hi H Q ∨ rSlA K x lo hi H Q ∨ rSlS x lo hi H Q
theorem sl_Any : SlR X (rSlAny X.K) := sl_list.or (sl_tupA.or sl_str)
/-! ### raising -/
def tRaiseE (E : XK) (cls : Value) : TS := fun _ _ H => E cls none H
end
theorem passL0 {X : Cx} {σ : St} : PassesAt (L2.CX X.prog X.w) X σ E0 := fun pins H s e s' I c => passL pins σ H s e s' I c
/-! ### facts by Bools, the end -/
def excM (x : Str) (K : PySem.W.Frag) : Bool := PySem.W.excIn K (He.ga K x) He.veBase "ValueError.__new__" && (PySem.W.keepIn K (.ref (He.ga K x)) && (decide (PySem.W.subIn K (.ref (He.ga K x)) (.type "BaseException") = some true) && decide (PySem.W.typeIn K (.ref (He.ga K x)) = some (.type "type"))))
theorem excM_ok {x : Str} {K : PySem.W.Frag} (h : excM x K = true) : PySem.W.excIn K (He.ga K x) He.veBase "ValueError.__new__" = true ∧ PySem.W.keepIn K (.ref (He.ga K x)) = true ∧ PySem.W.subIn K (.ref (He.ga K x)) (.type "BaseException") = some true ∧ PySem.W.typeIn K (.ref (He.ga K x)) = some (.type "type") := by
  obtain ⟨h1, h⟩ := He.ba h
  obtain ⟨h2, h⟩ := He.ba h
  obtain ⟨h3, h4⟩ := He.ba h
  exact ⟨h1, h2, of_decide_eq_true h3, of_decide_eq_true h4⟩
def orIntB (x : Str) (K : PySem.W.Frag) : Bool := (PySem.W.findIn K (.type "int") "__or__").isSome && ((PySem.W.findIn K (.type "int") "__ror__").isSome && (decide (PySem.W.subIn K (.type "int") (.ref (He.ga K x)) = some false) &&
  (match PySem.W.findIn K (.ref (He.ga K x)) "__ror__" with
  | some none => true
  | some (some (.ref _)) => true
  | _ => false)))
theorem orIntB_ok {x : Str} {K : PySem.W.Frag} (h : orIntB x K = true) : (∃ fo, PySem.W.findIn K (.type "int") "__or__" = some fo) ∧ (∃ ro, PySem.W.findIn K (.type "int") "__ror__" = some ro) ∧ PySem.W.subIn K (.type "int") (.ref (He.ga K x)) = some false ∧
    (∃ rc, PySem.W.findIn K (.ref (He.ga K x)) "__ror__" = some rc ∧ (rc = none ∨ ∃ g : Addr, rc = some (.ref g))) := by
  obtain ⟨h1, h⟩ := He.ba h
  obtain ⟨h2, h⟩ := He.ba h
  obtain ⟨h3, h4⟩ := He.ba h
  refine ⟨Option.isSome_iff_exists.mp h1, Option.isSome_iff_exists.mp h2, of_decide_eq_true h3, ?_⟩
  split at h4
  · rename_i q; exact ⟨none, q, .inl rfl⟩
  · rename_i g q; exact ⟨some (.ref g), q, .inr ⟨g, rfl⟩⟩
  · cases h4
theorem op_ownI2 {X : Cx} {k : Nat} {f C : Addr} {fd : FuncData} {ps : List Str} {sp : Sp} (hf : (∃ fo, PySem.W.findIn X.K (.type "int") "__or__" = some fo) ∧ (∃ ro, PySem.W.findIn X.K (.type "int") "__ror__" = some ro) ∧ PySem.W.subIn X.K (.type "int") (.ref C) = some false ∧
    (∃ rc, PySem.W.findIn X.K (.ref C) "__ror__" = some rc ∧ (rc = none ∨ ∃ g : Addr, rc = some (.ref g))))
    (F : FnOk X.prog X.w X.K X.mg X.base (L2.CX X.prog X.w) k f fd ps sp) (hr : Room k X.A) (hb : Binds X.K fd ps []) (hc : PySem.W.selfFirst X.K C = true) (hs : Spc X.K C "__or__" f) : OpR X (binaryOp .BitOr) (rOwnI C sp) := by
  obtain ⟨⟨fo, h1⟩, ⟨ro, h2⟩, h3, rc, h4, h5⟩ := hf
  exact op_ownI (op := .BitOr) F hr hb hc hs h4 h5 h1 h2 h3
theorem fact_of {l : List (PySem.W.Frag → Bool)} {K : PySem.W.Frag} (h : (l.all fun f => f K) = true) (i : Nat) {f : PySem.W.Frag → Bool} (e : l[i]? = some f := by rfl) : f K = true :=
  List.all_eq_true.mp h f (List.mem_of_getElem? e)
/-- a def from which nothing that is raised comes -/
theorem fn_close {P : Program} {w : World} {K : PySem.W.Frag} {mg : Str → Option Value} {base : Heap} {k : Nat} {f : Addr} {fd : FuncData} {ps : List Str} {sp : Sp} (F : FnOk P w K mg base (L2.CX P w) k f fd ps sp) :
    FnOk P w K mg base CX0 k f fd ps (fun vs H Q _ => sp vs H Q E0) := by
  refine ⟨fun vs H Q _ h => F.len vs H Q E0 h, fun A outer s H args us vs Q E hr he hb hv h => codeAny_mono (F.run A outer s H args us vs Q E0 hr he hb hv h) fun r s' hq => ?_⟩
  rcases r with e | fl
  · obtain ⟨_, _, _, _, _, _, _, _, _, _, _, _, z⟩ := (show L2.CX P w outer H s E0 e s' from hq)
    exact z.elim
  · cases fl <;> exact hq
end L2.MP

set_option Elab.async false
set_option linter.all false
set_option maxRecDepth 100000
set_option maxHeartbeats 4000000
/-! Reading step by step: one lemma a combinator, and the tactic that takes them. -/
namespace L2.MP
open PySem PySem.Spec PyProof.Rows
/-- all that is tracked stays -/
def Ex (H H' : Hp) : Prop := ∀ a o, H a = some o → H' a = some o
theorem Ex.refl (H : Hp) : Ex H H := fun _ _ h => h
theorem Ex.trans {H H1 H2 : Hp} (a : Ex H H1) (b : Ex H1 H2) : Ex H H2 := fun x o h => b x o (a x o h)
theorem Ex.new {H : Hp} {p : Addr} {o : HO} (h : H p = none) : Ex H (upd H p o) := fun a u e => by rw [upd_ne (ne_of_none e h)]; exact e
theorem Ex.new' {H H' : Hp} {p : Addr} {o : HO} (e : Ex H H') (h : H p = none) : Ex H (upd H' p o) := fun a u ha => by rw [upd_ne (ne_of_none ha h)]; exact e a u ha
theorem Ex.at {H H' : Hp} {a : Addr} {o : HO} (e : Ex H H') (h : H a = some o) : H' a = some o := e a o h
theorem Ex.none {H H' : Hp} {a : Addr} (e : Ex H H') (h : H' a = none) : H a = none := by
  cases q : H a with
  | none => rfl
  | some o => rw [e a o q] at h; cases h
theorem Ex.sqL {K : PySem.W.Frag} {H H' : Hp} {a : Addr} {xs : List V} (e : Ex H H') (h : SqL K H a xs) : SqL K H' a xs := Same.seq e h
theorem Ex.sqT {K : PySem.W.Frag} {H H' : Hp} {a : Addr} {xs : List V} (e : Ex H H') (h : SqT K H a xs) : SqT K H' a xs := by
  rcases h with (h | ⟨o, h⟩) | h
  · exact .inl (.inl (e _ _ h))
  · exact .inl (.inr ⟨o, e _ _ h⟩)
  · exact .inr h
theorem up_new {H : Hp} {p a : Addr} {o u : HO} (hp : H p = none) (h : H a = some u) : upd H p o a = some u := (Ex.new hp).at h
theorem up_ne {H : Hp} {p a : Addr} {o u : HO} (hn : a ≠ p) (h : H a = some u) : upd H p o a = some u := by rw [upd_ne hn]; exact h
theorem up_none {H : Hp} {p a : Addr} {o : HO} (h : upd H p o a = none) : H a = none := by
  by_cases e : a = p
  · subst e; rw [upd_same] at h; cases h
  · rw [upd_ne e] at h; exact h
theorem sqL_of {K : PySem.W.Frag} {H : Hp} {a : Addr} {xs : List V} (h : H a = some (.lst xs)) : SqL K H a xs := .inl (.inl h)
theorem sqT_of {K : PySem.W.Frag} {H : Hp} {a : Addr} {xs : List V} (h : H a = some (.tup xs)) : SqT K H a xs := .inl (.inl h)
theorem sqL_ne {K : PySem.W.Frag} {H : Hp} {p a : Addr} {o : HO} {xs : List V} (hn : a ≠ p) (h : SqL K H a xs) : SqL K (upd H p o) a xs := by
  rcases h with (h | ⟨u, h⟩) | h
  · exact .inl (.inl (up_ne hn h))
  · exact .inl (.inr ⟨u, up_ne hn h⟩)
  · exact .inr h
theorem sqT_ne {K : PySem.W.Frag} {H : Hp} {p a : Addr} {o : HO} {xs : List V} (hn : a ≠ p) (h : SqT K H a xs) : SqT K (upd H p o) a xs := by
  rcases h with (h | ⟨u, h⟩) | h
  · exact .inl (.inl (up_ne hn h))
  · exact .inl (.inr ⟨u, up_ne hn h⟩)
  · exact .inr h
theorem up_sqL {K : PySem.W.Frag} {H : Hp} {p a : Addr} {o : HO} {xs : List V} (hp : H p = none) (h : SqL K H a xs) : SqL K (upd H p o) a xs := (Ex.new hp).sqL h
theorem up_sqT {K : PySem.W.Frag} {H : Hp} {p a : Addr} {o : HO} {xs : List V} (hp : H p = none) (h : SqT K H a xs) : SqT K (upd H p o) a xs := (Ex.new hp).sqT h
theorem sz_of {n : Nat} (h : n ≤ 100000) : n ≤ sizeLine := Nat.le_trans h (by decide)
theorem szl_of {n : Nat} (h : n < 100000) : n < sizeLine := Nat.lt_of_lt_of_le h (by decide)
/-- the field f of instances of C is read plainly -/
class HasF (K : PySem.W.Frag) (C : Addr) (f : Str) : Prop where
  cls : Cls K C
  na : NoAttr K C f
class Lk (fs : List (Str × V)) (f : Str) (v : outParam V) : Prop where
  eq : fs.lookup f = some v
class LkN (fs : List (Str × V)) (f : Str) : Prop where
  eq : fs.lookup f = none
class Pf (f : Str) (v : V) (fs : List (Str × V)) (gs : outParam (List (Str × V))) : Prop where
  eq : putF f v fs = gs
  sm : fs.length < 1000

/-- the names of a turn, written out -/
class StC (ns : List Str) (vs : List V) (σ : outParam St) : Prop where
  eq : start ns vs = σ
class SetC (σ : St) (i : Nat) (o : Option V) (σ' : outParam St) : Prop where
  eq : σ.set i o = σ'
class GetC (σ : St) (i : Nat) (v : outParam V) : Prop where
  eq : σ[i]? = some (some v)
instance : StC [] [] [] := ⟨rfl⟩
instance {n : Str} {ns : List Str} {σ : St} [c : StC ns [] σ] : StC (n :: ns) [] (none :: σ) := ⟨by rw [← c.eq]; simp [start, List.replicate_succ]⟩
instance {n : Str} {ns : List Str} {v : V} {vs : List V} {σ : St} [c : StC ns vs σ] : StC (n :: ns) (v :: vs) (some v :: σ) := ⟨by rw [← c.eq]; simp [start]⟩
instance {a o : Option V} {l : St} : SetC (a :: l) 0 o (o :: l) := ⟨rfl⟩
instance {a o : Option V} {l l' : St} {i : Nat} [c : SetC l i o l'] : SetC (a :: l) (i + 1) o (a :: l') := ⟨by rw [← c.eq]; rfl⟩
instance {v : V} {l : St} : GetC (some v :: l) 0 v := ⟨rfl⟩
instance {v : V} {a : Option V} {l : St} {i : Nat} [c : GetC l i v] : GetC (a :: l) (i + 1) v := ⟨by rw [← c.eq]; rfl⟩
section
variable {K : PySem.W.Frag} {σ : St} {H : Hp} {Q : VK} {te ta tb : TE} {tr : TA} {v x y : V} {i : Nat} {n b c : St → Hp → Prop} {r : VK} {t u : TS} {tt tu : TT} {BQ : Bool → Hp → Prop} {AQ : List V → Hp → Prop} {vs : List V}
/-! statements -/
theorem k_seq (h : t ⟨u ⟨n, r, b, c⟩, r, b, c⟩ σ H) : tSeq t u ⟨n, r, b, c⟩ σ H := h
theorem k_next (h : n σ H) : tNext ⟨n, r, b, c⟩ σ H := h
theorem k_brk (h : b σ H) : tBreak ⟨n, r, b, c⟩ σ H := h
theorem k_cont (h : c σ H) : tCont ⟨n, r, b, c⟩ σ H := h
theorem k_drop (h : te σ H fun _ H1 => n σ H1) : tDrop te ⟨n, r, b, c⟩ σ H := h
theorem k_ret (h : te σ H r) : tRet te ⟨n, r, b, c⟩ σ H := h
theorem k_retN (h : r .non H) : tRetN ⟨n, r, b, c⟩ σ H := h
theorem k_if (h : tt σ H fun k H1 => if k = true then t ⟨n, r, b, c⟩ σ H1 else u ⟨n, r, b, c⟩ σ H1) : tIfS tt t u ⟨n, r, b, c⟩ σ H := h
def Asg (i : Nat) (σ : St) (n : St → Hp → Prop) : VK := fun z H1 => n (σ.set i (some z)) H1
theorem k_asg (h : te σ H (Asg i σ n)) : tAsg te (gName i) ⟨n, r, b, c⟩ σ H := h
theorem k_asgS {σ' : St} [c : SetC σ i (some x) σ'] (q : n σ' H) : Asg i σ n x H := by show n _ H; rw [c.eq]; exact q
theorem k_aug {ti : TIp} [g : GetC σ i x] (h : te σ H fun y H1 => ti x y H1 (Asg i σ n)) : tAug i te ti ⟨n, r, b, c⟩ σ H := ⟨x, g.eq, h⟩
theorem o_addIp {p q' : Int} (q : Q (.int (p + q')) H) : rAddI (.int p) (.int q') H Q := ⟨p, q', rfl, rfl, q⟩
theorem k_start {T : TS} {D : Ends} {ns : List Str} {vs : List V} {σ' : St} [c : StC ns vs σ'] (q : T D σ' H) : T D (start ns vs) H := by rw [c.eq]; exact q
theorem k_raise {E : XK} {cls : Value} (h : E cls none H) : tRaiseE E cls ⟨n, r, b, c⟩ σ H := h
def RPut (K : PySem.W.Frag) (f : Str) (x y : V) (H : Hp) (k : Hp → Prop) : Prop := ∃ a C dx fs, x = .ref a ∧ H a = some (.ins C dx fs) ∧ Cls K C ∧ NoAttr K C f ∧ fs.length < 1000 ∧ k (upd H a (.ins C dx (putF f y fs)))
theorem k_fldp {f : Str} {tv : TE} (h : tv σ H fun y H1 => ta σ H1 fun x H2 => RPut K f x y H2 (fun H3 => n σ H3)) : sFld K ta tv f ⟨n, r, b, c⟩ σ H := h
theorem k_rput {f : Str} {a C dx : Addr} {fs gs : List (Str × V)} {k : Hp → Prop} (h : H a = some (.ins C dx fs)) (i : HasF K C f) (j : Pf f y fs gs) (q : k (upd H a (.ins C dx gs))) : RPut K f (.ref a) y H k :=
  ⟨a, C, dx, fs, rfl, h, i.cls, i.na, j.sm, by rw [j.eq]; exact q⟩
/-! tests -/
def Bq (BQ : Bool → Hp → Prop) (x : V) (H : Hp) : Prop := ∃ k, x = .bl k ∧ BQ k H
theorem k_test (h : te σ H (Bq BQ)) : tTest te σ H BQ := h
theorem k_tB (h : te σ H (Bq BQ)) : tB te σ H BQ := h
theorem k_bl {k : Bool} (h : BQ k H) : Bq BQ (.bl k) H := ⟨k, rfl, h⟩
def RAndT (tu : TT) (σ : St) (BQ : Bool → Hp → Prop) (k : Bool) (H : Hp) : Prop := if k = true then tu σ H BQ else BQ false H
def ROrT (tu : TT) (σ : St) (BQ : Bool → Hp → Prop) (k : Bool) (H : Hp) : Prop := if k = true then BQ true H else tu σ H BQ
theorem k_and (h : tt σ H (RAndT tu σ BQ)) : tAnd tt tu σ H BQ := h
theorem k_or (h : tt σ H (ROrT tu σ BQ)) : tOr tt tu σ H BQ := h
theorem k_not (h : tt σ H fun k H1 => BQ (!k) H1) : tNot tt σ H BQ := h
theorem k_itT {A B : Prop} (h : A) : if true = true then A else B := by rw [if_pos rfl]; exact h
theorem k_itF {A B : Prop} (h : B) : if false = true then A else B := by rw [if_neg Bool.false_ne_true]; exact h
theorem k_itdT {p A B : Prop} [Decidable p] (hp : p) (h : A) : if decide p = true then A else B := by rw [decide_eq_true hp]; exact k_itT h
theorem k_itdF {p A B : Prop} [Decidable p] (hp : ¬ p) (h : B) : if decide p = true then A else B := by rw [decide_eq_false hp]; exact k_itF h
theorem k_itnT {p A B : Prop} [Decidable p] (hp : ¬ p) (h : A) : if (!decide p) = true then A else B := by rw [decide_eq_false hp]; exact k_itT h
theorem k_itnF {p A B : Prop} [Decidable p] (hp : p) (h : B) : if (!decide p) = true then A else B := by rw [decide_eq_true hp]; exact k_itF h
theorem k_itd {p A B : Prop} [Decidable p] (h1 : p → A) (h2 : ¬ p → B) : if decide p = true then A else B := by
  by_cases h : p
  · exact k_itdT h (h1 h)
  · exact k_itdF h (h2 h)
theorem k_inot {k : Bool} {A B : Prop} (h : if k = true then B else A) : if (!k) = true then A else B := by
  cases k
  · exact k_itT (by rw [if_neg Bool.false_ne_true] at h; exact h)
  · exact k_itF (by rw [if_pos rfl] at h; exact h)
theorem k_itb {k : Bool} {A B : Prop} (h1 : k = true → A) (h2 : k = false → B) : if k = true then A else B := by
  cases k
  · exact k_itF (h2 rfl)
  · exact k_itT (h1 rfl)
theorem k_randtP {e z : Bool} (h2 : ∀ Q' : Bool → Hp → Prop, Q' z H → tu σ H Q') (q : BQ (e && z) H) : RAndT tu σ BQ e H := by cases e; exact k_itF q; exact k_itT (h2 _ q)
theorem k_rortP {e z : Bool} (h2 : ∀ Q' : Bool → Hp → Prop, Q' z H → tu σ H Q') (q : BQ (e || z) H) : ROrT tu σ BQ e H := by cases e; exact k_itF (h2 _ q); exact k_itT q
theorem k_randtS {e : Bool} (h : if e = true then tu σ H BQ else BQ false H) : RAndT tu σ BQ e H := h
theorem k_rortS {e : Bool} (h : if e = true then BQ true H else tu σ H BQ) : ROrT tu σ BQ e H := h
/-! expressions -/
theorem k_var [h : GetC σ i v] (q : Q v H) : tVar i σ H Q := ⟨v, h.eq, q⟩
theorem k_c (q : Q v H) : tC v σ H Q := q
theorem k_op {ro : R2} (h : ta σ H fun x H1 => tb σ H1 fun y H2 => ro x y H2 Q) : tOp ro ta tb σ H Q := h
theorem k_un {ro : V → Hp → VK → Prop} (h : ta σ H fun x H1 => ro x H1 Q) : tUn ro ta σ H Q := h
theorem k_nil (q : AQ [] H) : tNil σ H AQ := q
theorem k_cons (h : ta σ H fun x H1 => tr σ H1 fun xs H2 => AQ (x :: xs) H2) : tCons ta tr σ H AQ := h
theorem k_cb {ro : List V → Hp → VK → Prop} (h : tr σ H fun xs H1 => ro xs H1 Q) : tCB ro tr σ H Q := h
def RIfE (ta tb : TE) (σ : St) (Q : VK) (k : Bool) (H : Hp) : Prop := if k = true then ta σ H Q else tb σ H Q
theorem k_randtT (h : tu σ H BQ) : RAndT tu σ BQ true H := k_itT h
theorem k_randtF (h : BQ false H) : RAndT tu σ BQ false H := k_itF h
theorem k_rortT (h : BQ true H) : ROrT tu σ BQ true H := k_itT h
theorem k_rortF (h : tu σ H BQ) : ROrT tu σ BQ false H := k_itF h
theorem k_ifT {A B : Prop} {e : Bool} (h : e = true) (q : A) : if e = true then A else B := by rw [if_pos h]; exact q
theorem k_ifF {A B : Prop} {e : Bool} (h : e = false) (q : B) : if e = true then A else B := by rw [h]; exact k_itF q
theorem k_ifE (h : tt σ H (RIfE ta tb σ Q)) : tIf tt ta tb σ H Q := h
theorem k_rifI {e : Bool} {p p' : Int} (h1 : ∀ Q' : VK, Q' (.int p) H → ta σ H Q') (h2 : ∀ Q' : VK, Q' (.int p') H → tb σ H Q') (q : Q (.int (if e = true then p else p')) H) : RIfE ta tb σ Q e H := by cases e; exact k_itF (h2 _ q); exact k_itT (h1 _ q)
theorem k_rifS {e : Bool} (h : if e = true then ta σ H Q else tb σ H Q) : RIfE ta tb σ Q e H := h
def RAnd (k f : Hp → Prop) (x : V) (H : Hp) : Prop := ∃ c, x = .bl c ∧ if c = true then k H else f H
theorem k_rand {k f : Hp → Prop} {e : Bool} (h : if e = true then k H else f H) : RAnd k f (.bl e) H := ⟨e, rfl, h⟩
def RAndV (tb : TE) (σ : St) (Q : VK) (x : V) (H : Hp) : Prop := ∃ c, x = .bl c ∧ if c = true then tb σ H Q else Q (.bl false) H
def ROrV (tb : TE) (σ : St) (Q : VK) (x : V) (H : Hp) : Prop := ∃ c, x = .bl c ∧ if c = true then Q (.bl true) H else tb σ H Q
theorem k_andV (h : ta σ H (RAndV tb σ Q)) : tAndV ta tb σ H Q := h
theorem k_orV (h : ta σ H (ROrV tb σ Q)) : tOrV ta tb σ H Q := h
theorem k_randP {e z : Bool} (h2 : ∀ Q' : VK, Q' (.bl z) H → tb σ H Q') (q : Q (.bl (e && z)) H) : RAndV tb σ Q (.bl e) H := ⟨e, rfl, by cases e; exact k_itF q; exact k_itT (h2 _ q)⟩
theorem k_rorP {e z : Bool} (h2 : ∀ Q' : VK, Q' (.bl z) H → tb σ H Q') (q : Q (.bl (e || z)) H) : ROrV tb σ Q (.bl e) H := ⟨e, rfl, by cases e; exact k_itF (h2 _ q); exact k_itT q⟩
theorem k_randS {e : Bool} (h : if e = true then tb σ H Q else Q (.bl false) H) : RAndV tb σ Q (.bl e) H := ⟨e, rfl, h⟩
theorem k_rorS {e : Bool} (h : if e = true then Q (.bl true) H else tb σ H Q) : ROrV tb σ Q (.bl e) H := ⟨e, rfl, h⟩
theorem k_randT (h : tb σ H Q) : RAndV tb σ Q (.bl true) H := k_randS (k_itT h)
theorem k_randF (h : Q (.bl false) H) : RAndV tb σ Q (.bl false) H := k_randS (k_itF h)
theorem k_rorT (h : Q (.bl true) H) : ROrV tb σ Q (.bl true) H := k_rorS (k_itT h)
theorem k_rorF (h : tb σ H Q) : ROrV tb σ Q (.bl false) H := k_rorS (k_itF h)
def RNot (Q : VK) (x : V) (H : Hp) : Prop := ∃ c, x = .bl c ∧ Q (.bl (!c)) H
theorem k_notV (h : ta σ H (RNot Q)) : tNotV ta σ H Q := h
theorem k_rnot {e : Bool} (h : Q (.bl (!e)) H) : RNot Q (.bl e) H := ⟨e, rfl, h⟩
def NewT (xs : List V) (H : Hp) (Q : VK) : Prop := xs.length ≤ sizeLine ∧ ∀ p, H p = none → Q (.ref p) (upd H p (.tup xs))
def NewL (xs : List V) (H : Hp) (Q : VK) : Prop := xs.length ≤ sizeLine ∧ ∀ p, H p = none → Q (.ref p) (upd H p (.lst xs))
theorem k_tup (h : tr σ H fun xs H1 => NewT xs H1 Q) : tTup tr σ H Q := h
theorem k_lst (h : tr σ H fun xs H1 => NewL xs H1 Q) : tLst tr σ H Q := h
theorem k_newT (h : vs.length ≤ 100000) (q : ∀ p, H p = none → Q (.ref p) (upd H p (.tup vs))) : NewT vs H Q := ⟨sz_of h, q⟩
theorem k_newL (h : vs.length ≤ 100000) (q : ∀ p, H p = none → Q (.ref p) (upd H p (.lst vs))) : NewL vs H Q := ⟨sz_of h, q⟩
def RFld (K : PySem.W.Frag) (f : Str) (x : V) (H : Hp) (Q : VK) : Prop := ∃ a C dx fs v, x = .ref a ∧ H a = some (.ins C dx fs) ∧ Cls K C ∧ NoAttr K C f ∧ fs.lookup f = some v ∧ Q v H
theorem k_fld {f : Str} (h : ta σ H fun x H1 => RFld K f x H1 Q) : tFld K ta f σ H Q := h
theorem k_rfld {f : Str} {a C dx : Addr} {fs : List (Str × V)} (h : H a = some (.ins C dx fs)) (i : HasF K C f) (j : Lk fs f v) (q : Q v H) : RFld K f (.ref a) H Q := ⟨a, C, dx, fs, v, rfl, h, i.cls, i.na, j.eq, q⟩
theorem k_call {sp : Sp} {dvs : List V} {E : St → XK} (h : tr σ H fun vs H1 => sp (vs ++ dvs) H1 Q (E σ)) : tCallSD sp dvs E tr σ H Q := h
def RMk (C : Addr) (sp : Sp) (vs : List V) (E : XK) (H : Hp) (Q : VK) : Prop := ∀ x dx, H x = none → H dx = none → dx ≠ x → sp (.ref x :: vs) (upd (upd H dx (.own x)) x (.ins C dx [])) (fun v H2 => v = .non ∧ Q (.ref x) H2) E
theorem k_make {C : Addr} {sp : Sp} {dvs : List V} {E : St → XK} (h : tr σ H fun vs H1 => RMk C sp (vs ++ dvs) (E σ) H1 Q) : tMakeS C sp dvs E tr σ H Q := h
def RProp (C : Addr) (sp : Sp) (dvs : List V) (E : XK) (x : V) (H : Hp) (Q : VK) : Prop := ∃ a dx fs, x = .ref a ∧ H a = some (.ins C dx fs) ∧ sp (.ref a :: dvs) H Q E
theorem k_prop {C : Addr} {sp : Sp} {dvs : List V} {E : XK} (h : ta σ H fun x H1 => RProp C sp dvs E x H1 Q) : tProp C sp dvs E ta σ H Q := h
theorem k_rprop {C a dx : Addr} {sp : Sp} {dvs : List V} {E : XK} {fs : List (Str × V)} (h : H a = some (.ins C dx fs)) (q : sp (.ref a :: dvs) H Q E) : RProp C sp dvs E (.ref a) H Q := ⟨a, dx, fs, rfl, h, q⟩
def RMeth (C : Addr) (m : Str) (x : V) (H : Hp) (k : Prop) : Prop := ∃ a dx fs, x = .ref a ∧ H a = some (.ins C dx fs) ∧ fs.lookup m = none ∧ k
theorem k_meth {C : Addr} {m : Str} {sp : Sp} {dvs : List V} {E : St → XK} (h : ta σ H fun x H1 => RMeth C m x H1 (tr σ H1 fun vs H2 => sp (x :: (vs ++ dvs)) H2 Q (E σ))) : tMethS C m sp dvs E ta tr σ H Q := h
theorem k_rmeth {C a dx : Addr} {m : Str} {fs : List (Str × V)} {k : Prop} (h : H a = some (.ins C dx fs)) (j : LkN fs m) (q : k) : RMeth C m (.ref a) H k := ⟨a, dx, fs, rfl, h, j.eq, q⟩
theorem k_own {C a dx e dy : Addr} {sp : Sp} {fs gs : List (Str × V)} (h1 : H a = some (.ins C dx fs)) (h2 : H e = some (.ins C dy gs)) (q : sp [.ref a, .ref e] H Q E0) : rOwn C sp (.ref a) (.ref e) H Q := ⟨a, dx, fs, e, dy, gs, rfl, rfl, h1, h2, q⟩
theorem k_ownI {C a dx : Addr} {m : Int} {sp : Sp} {fs : List (Str × V)} (h1 : H a = some (.ins C dx fs)) (q : sp [.ref a, .int m] H Q E0) : rOwnI C sp (.ref a) (.int m) H Q := ⟨a, dx, fs, m, rfl, rfl, h1, q⟩
theorem k_ownA {C a dx : Addr} {sp : Sp} {fs : List (Str × V)} (h1 : H a = some (.ins C dx fs)) (q : sp [.ref a, y] H Q E0) : rOwnA C sp (.ref a) y H Q := ⟨a, dx, fs, rfl, h1, q⟩
/-! operators on values -/
variable {p q' : Int} {s z : Str} {k1 k2 : Bool}
theorem o_addI (q : Q (.int (p + q')) H) : rAddA K (.int p) (.int q') H Q := q
theorem o_addS (h : s.length + z.length ≤ 100000) (q : Q (.str (s ++ z)) H) : rAddA K (.str s) (.str z) H Q := ⟨sz_of h, q⟩
theorem o_addL {a e : Addr} {xs ys : List V} (h1 : H a = some (.lst xs)) (h2 : H e = some (.lst ys)) (h : xs.length + ys.length ≤ 100000) (q : ∀ p, H p = none → Q (.ref p) (upd H p (.lst (xs ++ ys)))) : rAddA K (.ref a) (.ref e) H Q :=
  .inl ⟨a, e, xs, ys, rfl, rfl, h1, h2, sz_of h, q⟩
theorem o_subI (q : Q (.int (p - q')) H) : rSubI (.int p) (.int q') H Q := ⟨p, q', rfl, rfl, q⟩
theorem o_mulI (h : CMul p q') (q : Q (.int (p * q')) H) : rMulA (.int p) (.int q') H Q := ⟨h, q⟩
theorem o_fdiv (h : CDiv p q') (q : Q (.int (p / q')) H) : rFdivI (.int p) (.int q') H Q := ⟨p, q', rfl, rfl, h, q⟩
theorem o_mod (h : 0 < q') (q : Q (.int (p % q')) H) : rModI (.int p) (.int q') H Q := ⟨p, q', rfl, rfl, h, q⟩
theorem o_lt (q : Q (.bl (decide (p < q'))) H) : rLtI (.int p) (.int q') H Q := ⟨p, q', rfl, rfl, q⟩
theorem o_le (q : Q (.bl (decide (p ≤ q'))) H) : rLeI (.int p) (.int q') H Q := ⟨p, q', rfl, rfl, q⟩
theorem o_gt (q : Q (.bl (decide (q' < p))) H) : rGtI (.int p) (.int q') H Q := ⟨p, q', rfl, rfl, q⟩
theorem o_ge (q : Q (.bl (decide (q' ≤ p))) H) : rGeI (.int p) (.int q') H Q := ⟨p, q', rfl, rfl, q⟩
theorem dInt {a b : Int} : decide (V.int a = V.int b) = decide (a = b) := by simp
theorem dBl {a b : Bool} : decide (V.bl a = V.bl b) = decide (a = b) := by simp
theorem dStr {a b : Str} : decide (V.str a = V.str b) = decide (a = b) := by simp
theorem o_eqI (q : Q (.bl (decide (p = q'))) H) : rEqA K (.int p) (.int q') H Q := .inl ⟨rfl, by rw [dInt]; exact q⟩
theorem o_eqB (q : Q (.bl (decide (k1 = k2))) H) : rEqA K (.bl k1) (.bl k2) H Q := .inl ⟨rfl, by rw [dBl]; exact q⟩
theorem o_eqS (q : Q (.bl (decide (s = z))) H) : rEqA K (.str s) (.str z) H Q := .inl ⟨rfl, by rw [dStr]; exact q⟩
theorem o_neI (q : Q (.bl (!decide (p = q'))) H) : rNeA K (.int p) (.int q') H Q := .inl ⟨rfl, by rw [dInt]; exact q⟩
theorem o_neB (q : Q (.bl (!decide (k1 = k2))) H) : rNeA K (.bl k1) (.bl k2) H Q := .inl ⟨rfl, by rw [dBl]; exact q⟩
theorem o_neS (q : Q (.bl (!decide (s = z))) H) : rNeA K (.str s) (.str z) H Q := .inl ⟨rfl, by rw [dStr]; exact q⟩
theorem o_isN (q : Q (.bl (decide (x = .non))) H) : rIsNone x .non H Q := ⟨rfl, q⟩
theorem o_notN (q : Q (.bl (!decide (x = .non))) H) : rNotNone x .non H Q := ⟨rfl, q⟩
theorem o_max (q : Q (.int (if q' > p then q' else p)) H) : rMax2I [.int p, .int q'] H Q := q
theorem o_min (q : Q (.int (if q' < p then q' else p)) H) : rMin2I [.int p, .int q'] H Q := q
theorem o_intI (q : Q (.int p) H) : rIntA [.int p] H Q := q
theorem o_intB (q : Q (.int (if k1 then 1 else 0)) H) : rIntA [.bl k1] H Q := q
theorem o_abs (q : Q (.int (if p < 0 then -p else p)) H) : rAbsI [.int p] H Q := q
theorem o_ixL {a : Addr} {xs : List V} (h : SqL K H a xs) (e : atI xs p = some v) (q : Q v H) : rIx K (.ref a) (.int p) H Q := .inl ⟨a, xs, p, v, rfl, rfl, h, e, q⟩
theorem o_ixT {a : Addr} {xs : List V} (h : SqT K H a xs) (e : atI xs p = some v) (q : Q v H) : rIx K (.ref a) (.int p) H Q := .inr (.inl ⟨a, xs, p, v, rfl, rfl, h, e, q⟩)
theorem o_lenL {a : Addr} {xs : List V} (h : SqL K H a xs) (q : Q (.int xs.length) H) : rLenA K [.ref a] H Q := ⟨.ref a, xs.length, rfl, .inl ⟨xs, h, rfl⟩, q⟩
theorem o_lenT {a : Addr} {xs : List V} (h : SqT K H a xs) (q : Q (.int xs.length) H) : rLenA K [.ref a] H Q := ⟨.ref a, xs.length, rfl, .inr ⟨xs, h, rfl⟩, q⟩
/-! isinstance -/
theorem o_isi {c : V} {tv uv : Value} {k : Bool} (h1 : ClsV c uv) (h2 : TyX K H x tv) (h3 : PySem.W.kitOne K tv uv = some k) (q : Q (.bl k) H) : rIsi K [x, c] H Q := ⟨x, c, tv, uv, k, rfl, h1, h2, h3, q⟩
end
end L2.MP
namespace L2.MP
open PySem PySem.Spec PyProof.Rows
/-! ### looking up in written attribute lists -/
theorem lk0 {f : Str} {v : V} {r : List (Str × V)} : ((f, v) :: r).lookup f = some v := by rw [List.lookup_cons, beq_self_eq_true]
theorem lkS {f k : Str} {u v : V} {r : List (Str × V)} (h : (f == k) = false) (e : r.lookup f = some v) : ((k, u) :: r).lookup f = some v := by rw [List.lookup_cons, h]; exact e
theorem lkN0 {f : Str} : ([] : List (Str × V)).lookup f = none := rfl
theorem lkNS {f k : Str} {u : V} {r : List (Str × V)} (h : (f == k) = false) (e : r.lookup f = none) : ((k, u) :: r).lookup f = none := by rw [List.lookup_cons, h]; exact e
theorem pf0 {f : Str} {v : V} : putF f v [] = [(f, v)] := rfl
theorem pfE {f : Str} {u v : V} {r : List (Str × V)} : putF f v ((f, u) :: r) = (f, v) :: r := by
  show (if f = f then (f, v) :: r else (f, u) :: putF f v r) = _
  rw [if_pos rfl]
theorem pfS {f k : Str} {u v : V} {r r' : List (Str × V)} (h : (k == f) = false) (e : putF f v r = r') : putF f v ((k, u) :: r) = (k, u) :: r' := by
  show (if k = f then (k, v) :: r else (k, u) :: putF f v r) = _
  rw [if_neg (fun z => by rw [z, beq_self_eq_true] at h; cases h), e]
/-! ### isinstance -/
class IsiC (K : PySem.W.Frag) (C : Addr) : Prop where
  cl : Cls K C
  ha : PySem.W.findIn K (.ref C) "__class__" = some (some (.builtin "object.__class__"))
  hn : PySem.W.specialIn K (.builtin "object.__class__") "__get__" = some (some (.builtin "getset_descriptor.__get__"))
  tk : PySem.W.takesIn K (.builtin "object.__class__") = some true
  hm : PySem.W.mroIn K C (.type "object") = some true
def isiB (x : Str) (K : PySem.W.Frag) : Bool := He.eqO (PySem.W.findIn K (.ref (He.ga K x)) "__class__") (some (some (.builtin "object.__class__"))) && (He.eqO (PySem.W.specialIn K (.builtin "object.__class__") "__get__") (some (some (.builtin "getset_descriptor.__get__"))) &&
  (decide (PySem.W.takesIn K (.builtin "object.__class__") = some true) && decide (PySem.W.mroIn K (He.ga K x) (.type "object") = some true)))
theorem isiB_ok {x : Str} {K : PySem.W.Frag} (cl : Cls K (He.ga K x)) (h : isiB x K = true) : IsiC K (He.ga K x) := by
  obtain ⟨h1, h⟩ := He.ba h
  obtain ⟨h2, h⟩ := He.ba h
  obtain ⟨h3, h4⟩ := He.ba h
  exact ⟨cl, He.eqO_ok h1, He.eqO_ok h2, of_decide_eq_true h3, of_decide_eq_true h4⟩
class Kit (K : PySem.W.Frag) (t c : Value) (k : outParam Bool) : Prop where
  eq : PySem.W.kitOne K t c = some k
/-- the built-in type of a plain value -/
class TyN (x : V) (T : outParam String) : Prop where
  ty : ∀ K H, TyX K H x (.type T)
instance : TyN .non "NoneType" := ⟨fun _ _ => .base .non⟩
instance {b : Bool} : TyN (.bl b) "bool" := ⟨fun _ _ => .base (.bl b)⟩
instance {i : Int} : TyN (.int i) "int" := ⟨fun _ _ => .base (.int i)⟩
instance {s : Str} : TyN (.str s) "str" := ⟨fun _ _ => .base (.str s)⟩
section
variable {K : PySem.W.Frag}
theorem kb {a b : String} {k : Bool} (h : kitB a b = some k) : Kit K (.type a) (.type b) k := ⟨kit_ty h⟩
instance : Kit K (.type "NoneType") (.type "int") false := kb (by decide +kernel)
instance : Kit K (.type "NoneType") (.type "bool") false := kb (by decide +kernel)
instance : Kit K (.type "NoneType") (.type "str") false := kb (by decide +kernel)
instance : Kit K (.type "NoneType") (.type "list") false := kb (by decide +kernel)
instance : Kit K (.type "NoneType") (.type "tuple") false := kb (by decide +kernel)
instance : Kit K (.type "bool") (.type "int") true := kb (by decide +kernel)
instance : Kit K (.type "bool") (.type "bool") true := kb (by decide +kernel)
instance : Kit K (.type "bool") (.type "str") false := kb (by decide +kernel)
instance : Kit K (.type "bool") (.type "list") false := kb (by decide +kernel)
instance : Kit K (.type "bool") (.type "tuple") false := kb (by decide +kernel)
instance : Kit K (.type "int") (.type "int") true := kb (by decide +kernel)
instance : Kit K (.type "int") (.type "bool") false := kb (by decide +kernel)
instance : Kit K (.type "int") (.type "str") false := kb (by decide +kernel)
instance : Kit K (.type "int") (.type "list") false := kb (by decide +kernel)
instance : Kit K (.type "int") (.type "tuple") false := kb (by decide +kernel)
instance : Kit K (.type "str") (.type "int") false := kb (by decide +kernel)
instance : Kit K (.type "str") (.type "bool") false := kb (by decide +kernel)
instance : Kit K (.type "str") (.type "str") true := kb (by decide +kernel)
instance : Kit K (.type "str") (.type "list") false := kb (by decide +kernel)
instance : Kit K (.type "str") (.type "tuple") false := kb (by decide +kernel)
instance : Kit K (.type "list") (.type "int") false := kb (by decide +kernel)
instance : Kit K (.type "list") (.type "bool") false := kb (by decide +kernel)
instance : Kit K (.type "list") (.type "str") false := kb (by decide +kernel)
instance : Kit K (.type "list") (.type "list") true := kb (by decide +kernel)
instance : Kit K (.type "list") (.type "tuple") false := kb (by decide +kernel)
instance : Kit K (.type "tuple") (.type "int") false := kb (by decide +kernel)
instance : Kit K (.type "tuple") (.type "bool") false := kb (by decide +kernel)
instance : Kit K (.type "tuple") (.type "str") false := kb (by decide +kernel)
instance : Kit K (.type "tuple") (.type "list") false := kb (by decide +kernel)
instance : Kit K (.type "tuple") (.type "tuple") true := kb (by decide +kernel)
variable {H : Hp} {Q : VK} {x : V} {a C dx D : Addr} {fs : List (Str × V)} {k : Bool} {T S : String}
theorem i_plain [t : TyN x T] [c : Kit K (.type T) (.type S) k] (q : Q (.bl k) H) : rIsi K [x, .ty S] H Q := o_isi (.ty S) (t.ty K H) c.eq q
theorem i_plainC [t : TyN x T] [c : Kit K (.type T) (.ref D) k] (q : Q (.bl k) H) : rIsi K [x, .ref D] H Q := o_isi (.own D) (t.ty K H) c.eq q
theorem i_insC (h : H a = some (.ins C dx fs)) (i : IsiC K C) (c : Kit K (.ref C) (.ref D) k) (q : Q (.bl k) H) : rIsi K [.ref a, .ref D] H Q := o_isi (.own D) (.base (.ins h i.cl i.ha i.hn i.tk i.hm)) c.eq q
theorem i_lst {xs : List V} (h : H a = some (.lst xs)) (c : Kit K (.type "list") (.type S) k) (q : Q (.bl k) H) : rIsi K [.ref a, .ty S] H Q := o_isi (.ty S) (.base (.lst h)) c.eq q
theorem i_tup {xs : List V} (h : H a = some (.tup xs)) (c : Kit K (.type "tuple") (.type S) k) (q : Q (.bl k) H) : rIsi K [.ref a, .ty S] H Q := o_isi (.ty S) (.base (.tup h)) c.eq q
end
end L2.MP
namespace L2.MP
open PySem PySem.Spec PyProof.Rows
/-! ### loops, turn by turn -/
section
variable {K : PySem.W.Frag} {σ : St} {H : Hp} {n b c : St → Hp → Prop} {r : VK} {i : Nat} {tb : TS} {tr : TA} {te : TE}
/-- cnt turns from x on -/
def RFor (i : Nat) (tb : TS) (n : St → Hp → Prop) (r : VK) : Nat → Int → St → Hp → Prop
  | 0, _ => n
  | m + 1, x => fun σ H => tb ⟨RFor i tb n r m (x + 1), r, n, RFor i tb n r m (x + 1)⟩ (σ.set i (some (.int x))) H
theorem k_forN (h : RFor i tb n r 0 x σ H) : n σ H := h
theorem rfor_ok {lo : Int} {cnt : Nat} (h : RFor i tb n r cnt lo σ H) {D : Ends} (e : D = ⟨n, r, b, c⟩) : ∃ W : Nat → Nat → St → Hp → Prop, (∃ m, W 0 m σ H) ∧ ∀ i' m σ H, W i' m σ H →
      ((Itr lo cnt).stop i' H ∧ D.nx σ H) ∨ ((Itr lo cnt).go i' H ∧ ∃ N : St → Hp → Prop, (∀ σ' H', N σ' H' → ∃ m', m' < m ∧ W (i' + 1) m' σ' H') ∧ ∀ x H', (Itr lo cnt).yld i' H x H' → gName i x σ H' fun σ2 H2 => tb { nx := N, rt := D.rt, bk := D.nx, ct := N } σ2 H2) := by
  subst e
  refine for_range (D := ⟨n, r, b, c⟩) (fun j σ H => j ≤ cnt ∧ RFor i tb n r (cnt - j) (lo + j) σ H) ⟨Nat.zero_le _, by simpa using h⟩ (fun j σ H hj ⟨_, q⟩ => ?_) (fun σ H ⟨_, q⟩ => ?_)
  · obtain ⟨m, hm⟩ : ∃ m, cnt - j = m + 1 := ⟨cnt - j - 1, by omega⟩
    rw [hm] at q
    have e1 : cnt - (j + 1) = m := by omega
    have e2 : lo + ((j + 1 : Nat) : Int) = lo + (j : Int) + 1 := by omega
    have ef : (fun σ H => j + 1 ≤ cnt ∧ RFor i tb n r (cnt - (j + 1)) (lo + ((j + 1 : Nat) : Int)) σ H) = RFor i tb n r m (lo + j + 1) := by
      funext σ H
      rw [e1, e2]
      exact propext ⟨fun z => z.2, fun z => ⟨hj, z⟩⟩
    show tb ⟨fun σ H => j + 1 ≤ cnt ∧ RFor i tb n r (cnt - (j + 1)) (lo + ((j + 1 : Nat) : Int)) σ H, r, n, fun σ H => j + 1 ≤ cnt ∧ RFor i tb n r (cnt - (j + 1)) (lo + ((j + 1 : Nat) : Int)) σ H⟩ _ _
    rw [ef]
    exact q
  · rw [Nat.sub_self] at q
    exact q
/-- what a for asks of its turns -/
def FW (J : It) (i : Nat) (tb : TS) (D : Ends) (σ : St) (H : Hp) : Prop := ∃ W : Nat → Nat → St → Hp → Prop, (∃ m, W 0 m σ H) ∧ ∀ i' m σ H, W i' m σ H →
  (J.stop i' H ∧ D.nx σ H) ∨ (J.go i' H ∧ ∃ N : St → Hp → Prop, (∀ σ' H', N σ' H' → ∃ m', m' < m ∧ W (i' + 1) m' σ' H') ∧ ∀ x H', J.yld i' H x H' → gName i x σ H' fun σ2 H2 => tb { D with nx := N, ct := N, bk := D.nx } σ2 H2)
def RR1 (i : Nat) (tb : TS) (D : Ends) (σ : St) (vs : List V) (H : Hp) : Prop := ∃ j : Int, vs = [.int j] ∧ -(2 ^ 62) ≤ j ∧ j < 2 ^ 62 ∧ FW (Itr 0 j.toNat) i tb D σ H
def RR2 (i : Nat) (tb : TS) (D : Ends) (σ : St) (vs : List V) (H : Hp) : Prop := ∃ lo hi : Int, vs = [.int lo, .int hi] ∧ (-(2 ^ 62) ≤ lo ∧ lo < 2 ^ 62 ∧ -(2 ^ 62) ≤ hi ∧ hi < 2 ^ 62) ∧ FW (Itr lo (hi - lo).toNat) i tb D σ H
def RL (K : PySem.W.Frag) (i : Nat) (tb : TS) (D : Ends) (σ : St) (x : V) (H : Hp) : Prop := ∃ a, x = .ref a ∧ (∃ xs, SqL K H a xs) ∧ FW (Itl K a) i tb D σ H
def RT (K : PySem.W.Frag) (i : Nat) (tb : TS) (D : Ends) (σ : St) (x : V) (H : Hp) : Prop := ∃ a, x = .ref a ∧ (∃ xs, SqT K H a xs) ∧ FW (Itt K a) i tb D σ H
theorem k_forR1 (h : tr σ H (RR1 i tb ⟨n, r, b, c⟩ σ)) : tFor (iRng1 tr) (gName i) tb ⟨n, r, b, c⟩ σ H := h
theorem k_forR2 (h : tr σ H (RR2 i tb ⟨n, r, b, c⟩ σ)) : tFor (iRng2 tr) (gName i) tb ⟨n, r, b, c⟩ σ H := h
theorem k_forL (h : te σ H (RL K i tb ⟨n, r, b, c⟩ σ)) : tFor (iList K te) (gName i) tb ⟨n, r, b, c⟩ σ H := h
theorem k_forT (h : te σ H (RT K i tb ⟨n, r, b, c⟩ σ)) : tFor (iTup K te) (gName i) tb ⟨n, r, b, c⟩ σ H := h
/-- a range, all its turns written -/
theorem k_rr1 {j : Int} (h : -(2 ^ 62) ≤ j ∧ j < 2 ^ 62) (q : RFor i tb n r j.toNat 0 σ H) : RR1 i tb ⟨n, r, b, c⟩ σ [.int j] H := ⟨j, rfl, h.1, h.2, rfor_ok q rfl⟩
theorem k_rr2 {lo hi : Int} (h : -(2 ^ 62) ≤ lo ∧ lo < 2 ^ 62 ∧ -(2 ^ 62) ≤ hi ∧ hi < 2 ^ 62) (q : RFor i tb n r (hi - lo).toNat lo σ H) : RR2 i tb ⟨n, r, b, c⟩ σ [.int lo, .int hi] H := ⟨lo, hi, rfl, h, rfor_ok q rfl⟩
/-- a range by an invariant -/
theorem k_rr1I {j : Int} (h : 0 ≤ j ∧ j < 2 ^ 62) (P : Nat → St → Hp → Prop) (h0 : P 0 σ H) (ht : ∀ (m : Nat) σ H, (m : Int) < j → P m σ H → tb ⟨P (m + 1), r, n, P (m + 1)⟩ (σ.set i (some (.int m))) H) (hd : ∀ σ H, P j.toNat σ H → n σ H) : RR1 i tb ⟨n, r, b, c⟩ σ [.int j] H := by
  refine ⟨j, rfl, by omega, h.2, for_range (D := ⟨n, r, b, c⟩) P h0 (fun m σ H hm q => ?_) hd⟩
  have := ht m σ H (by omega) q
  show tb _ (σ.set i (some (.int (0 + (m : Int))))) H
  rw [Int.zero_add]
  exact this
/-- a list, turn by turn -/
def RForL (K : PySem.W.Frag) (a : Addr) (all : List V) (i : Nat) (tb : TS) (n : St → Hp → Prop) (r : VK) : List V → St → Hp → Prop
  | [] => fun σ H => SqL K H a all ∧ n σ H
  | x :: rest => fun σ H => SqL K H a all ∧ tb ⟨RForL K a all i tb n r rest, r, n, RForL K a all i tb n r rest⟩ (σ.set i (some x)) H
theorem RForL.sq {a : Addr} {all : List V} : ∀ {rest : List V} {σ : St} {H : Hp}, RForL K a all i tb n r rest σ H → SqL K H a all
  | [], _, _, h => h.1
  | _ :: _, _, _, h => h.1
theorem k_rl {a : Addr} {xs : List V} (h : SqL K H a xs) (q : RForL K a xs i tb n r xs σ H) : RL K i tb ⟨n, r, b, c⟩ σ (.ref a) H := by
  refine ⟨a, rfl, ⟨xs, h⟩, for_list (D := ⟨n, r, b, c⟩) (fun j σ H => RForL K a xs i tb n r (xs.drop j) σ H) q (fun j σ H _ z => z.sq) (fun j x σ H hj z => ?_) (fun σ H z => ?_)⟩
  · have e : xs.drop j = x :: xs.drop (j + 1) := by
      obtain ⟨hl, e⟩ := List.getElem?_eq_some_iff.mp hj
      rw [List.drop_eq_getElem_cons hl, e]
    rw [e] at z
    exact z.2
  · rw [List.drop_length] at z
    exact z.2
theorem k_rlI {a : Addr} {xs : List V} (h : SqL K H a xs) (P : Nat → St → Hp → Prop) (h0 : P 0 σ H) (hl : ∀ (m : Nat) σ H, m ≤ xs.length → P m σ H → SqL K H a xs)
    (ht : ∀ (m : Nat) x σ H, xs[m]? = some x → P m σ H → tb ⟨P (m + 1), r, n, P (m + 1)⟩ (σ.set i (some x)) H) (hd : ∀ σ H, P xs.length σ H → n σ H) : RL K i tb ⟨n, r, b, c⟩ σ (.ref a) H :=
  ⟨a, rfl, ⟨xs, h⟩, for_list (D := ⟨n, r, b, c⟩) P h0 hl (fun m x σ H hm q => ht m x σ H hm q) hd⟩
def RForT (K : PySem.W.Frag) (a : Addr) (all : List V) (i : Nat) (tb : TS) (n : St → Hp → Prop) (r : VK) : List V → St → Hp → Prop
  | [] => fun σ H => SqT K H a all ∧ n σ H
  | x :: rest => fun σ H => SqT K H a all ∧ tb ⟨RForT K a all i tb n r rest, r, n, RForT K a all i tb n r rest⟩ (σ.set i (some x)) H
theorem RForT.sq {a : Addr} {all : List V} : ∀ {rest : List V} {σ : St} {H : Hp}, RForT K a all i tb n r rest σ H → SqT K H a all
  | [], _, _, h => h.1
  | _ :: _, _, _, h => h.1
theorem k_rt {a : Addr} {xs : List V} (h : SqT K H a xs) (q : RForT K a xs i tb n r xs σ H) : RT K i tb ⟨n, r, b, c⟩ σ (.ref a) H := by
  refine ⟨a, rfl, ⟨xs, h⟩, for_tup (D := ⟨n, r, b, c⟩) (fun j σ H => RForT K a xs i tb n r (xs.drop j) σ H) q (fun j σ H _ z => z.sq) (fun j x σ H hj z => ?_) (fun σ H z => ?_)⟩
  · have e : xs.drop j = x :: xs.drop (j + 1) := by
      obtain ⟨hl, e⟩ := List.getElem?_eq_some_iff.mp hj
      rw [List.drop_eq_getElem_cons hl, e]
    rw [e] at z
    exact z.2
  · rw [List.drop_length] at z
    exact z.2
theorem k_turnL {a : Addr} {all rest : List V} {x : V} {σ' : St} (h : SqL K H a all) [c : SetC σ i (some x) σ'] (q : tb ⟨RForL K a all i tb n r rest, r, n, RForL K a all i tb n r rest⟩ σ' H) : RForL K a all i tb n r (x :: rest) σ H := ⟨h, by rw [c.eq]; exact q⟩
theorem k_doneL {a : Addr} {all : List V} (h : SqL K H a all) (q : n σ H) : RForL K a all i tb n r [] σ H := ⟨h, q⟩
theorem k_turnT {a : Addr} {all rest : List V} {x : V} {σ' : St} (h : SqT K H a all) [c : SetC σ i (some x) σ'] (q : tb ⟨RForT K a all i tb n r rest, r, n, RForT K a all i tb n r rest⟩ σ' H) : RForT K a all i tb n r (x :: rest) σ H := ⟨h, by rw [c.eq]; exact q⟩
theorem k_doneT {a : Addr} {all : List V} (h : SqT K H a all) (q : n σ H) : RForT K a all i tb n r [] σ H := ⟨h, q⟩
theorem k_turnR {m : Nat} {x x' : Int} {σ' : St} [c : SetC σ i (some (.int x)) σ'] (e : x + 1 = x') (q : tb ⟨RFor i tb n r m x', r, n, RFor i tb n r m x'⟩ σ' H) : RFor i tb n r (m + 1) x σ H := by
  subst e
  show tb _ _ H
  rw [c.eq]
  exact q
theorem k_doneR {x : Int} (q : n σ H) : RFor i tb n r 0 x σ H := q
end
end L2.MP
namespace L2.MP
open PySem PySem.Spec PyProof.Rows
section
variable {K : PySem.W.Frag} {σ : St} {H : Hp} {n b c : St → Hp → Prop} {r : VK} {i : Nat} {tb : TS}
theorem k_rr1L (m : Nat) {j : Int} (e : j = (m : Int)) (hm : m < 2 ^ 62) (q : RFor i tb n r m 0 σ H) : RR1 i tb ⟨n, r, b, c⟩ σ [.int j] H := by
  subst e
  exact k_rr1 ⟨by omega, by omega⟩ (by rw [Int.toNat_natCast]; exact q)
/-- the law's cell of the script -/
def cellv (ns : List Int) (i : Int) : Int := ns.getD i.toNat 0
theorem cell_at {ns : List Int} {i : Int} (h0 : 0 ≤ i) (h : i < (ns.map V.int).length) : atI (ns.map V.int) i = some (.int (cellv ns i)) := by
  obtain ⟨m, rfl⟩ : ∃ m : Nat, i = (m : Int) := ⟨i.toNat, by omega⟩
  have hm : m < ns.length := by simpa using h
  rw [atI_nat (v := V.int (cellv ns m)) ?_]
  simp [cellv, List.getD, hm]
theorem cell_out {ns : List Int} {i : Int} (h0 : 0 ≤ i) (h : ¬ i < (ns.map V.int).length) : cellv ns i = 0 := by
  have hm : ns.length ≤ i.toNat := by simp at h; omega
  simp [cellv, List.getD, List.getElem?_eq_none hm]
end
end L2.MP
namespace L2.MP
open PySem PySem.Spec PyProof.Rows
section
variable {K : PySem.W.Frag} {H : Hp} {Q : VK} {v : V} {p : Int} {a : Addr} {xs : List V}
theorem atI_toNat {α : Type} {xs : List α} {v : α} (h0 : 0 ≤ p) (e : xs[p.toNat]? = some v) : atI xs p = some v := by
  obtain ⟨m, rfl⟩ : ∃ m : Nat, p = (m : Int) := ⟨p.toNat, by omega⟩
  exact atI_nat (by simpa using e)
theorem o_ixTn (h : SqT K H a xs) (h0 : 0 ≤ p) (e : xs[p.toNat]? = some v) (q : Q v H) : rIx K (.ref a) (.int p) H Q := o_ixT h (atI_toNat h0 e) q
theorem o_ixLn (h : SqL K H a xs) (h0 : 0 ≤ p) (e : xs[p.toNat]? = some v) (q : Q v H) : rIx K (.ref a) (.int p) H Q := o_ixL h (atI_toNat h0 e) q
end
end L2.MP

set_option Elab.async false
set_option linter.all false
set_option maxRecDepth 100000
set_option maxHeartbeats 4000000
/-! Steps for dicts, own subscripts, methods of texts and lists. -/
namespace L2.MP
open PySem PySem.Spec PyProof.Rows
class DNe (a b : Str) : Prop where
  ne : a ≠ b
class ValC (kvs : List (Key × V)) (s : Str) (v : outParam V) : Prop where
  eq : valV kvs (.inr s) = some v
instance {r : List (Key × V)} {s : Str} {v : V} : ValC ((.inr s, v) :: r) s v := ⟨valV_pos rfl⟩
instance {r : List (Key × V)} {s t : Str} {v u : V} [d : DNe t s] [c : ValC r s v] : ValC ((.inr t, u) :: r) s v := ⟨by rw [valV_neg (fun e => d.ne (Sum.inr.inj e))]; exact c.eq⟩
class TdS (trs : List (TE × TE)) (l : outParam (List (Str × Str))) : Prop where
  eq : trs = l.map fun p => (tC (.str p.1), tC (.str p.2))
instance : TdS [] [] := ⟨rfl⟩
instance {a b : Str} {r : List (TE × TE)} {l : List (Str × Str)} [c : TdS r l] : TdS ((tC (.str a), tC (.str b)) :: r) ((a, b) :: l) := ⟨by rw [c.eq]; rfl⟩
class PutC (kvs : List (Key × V)) (s : Str) (v : V) (out : outParam (List (Key × V))) : Prop where
  eq : putK kvs (.inr s) v = out
class NoC (kvs : List (Key × V)) (s : Str) : Prop where
  eq : (kvs.any fun kv => decide (kv.1 = .inr s)) = false
instance {s : Str} : NoC [] s := ⟨rfl⟩
instance {r : List (Key × V)} {s t : Str} {u : V} [d : DNe t s] [c : NoC r s] : NoC ((.inr t, u) :: r) s := ⟨by
  rw [List.any_cons, c.eq, Bool.or_false]
  exact decide_eq_false (fun e => d.ne (Sum.inr.inj e))⟩
theorem put_new {kvs : List (Key × V)} {s : Str} {v : V} (c : NoC kvs s) : putK kvs (.inr s) v = kvs ++ [(.inr s, v)] := by
  unfold putK
  rw [if_neg (by rw [c.eq]; decide)]
section
variable {K : PySem.W.Frag} {σ : St} {H : Hp} {Q : VK} {td ty tv te ta : TE} {tr : TA} {n b c : St → Hp → Prop} {r : VK} {x y v u : V} {a p : Addr} {s z : Str} {kvs gs : List (Key × V)}
def NewD (H : Hp) (Q : VK) : Prop := ∀ p, H p = none → Q (.ref p) (upd H p (.dK []))
theorem k_newK (h : NewD H Q) : tDNewK σ H Q := h
theorem k_newD (q : ∀ p, H p = none → Q (.ref p) (upd H p (.dK []))) : NewD H Q := q
def RDGet (x y : V) (H : Hp) (Q : VK) : Prop := ∃ a v, x = .ref a ∧ DGet H a y (some v) ∧ Q v H
theorem k_dget (h : td σ H fun x H1 => ty σ H1 fun y H2 => RDGet x y H2 Q) : tDGet td ty σ H Q := h
theorem k_rdget (h : H a = some (.dK kvs)) (e : valV kvs (.inr s) = some v) (q : Q v H) : RDGet (.ref a) (.str s) H Q := ⟨a, v, rfl, e ▸ DGet.k (k := .inr s) h, q⟩
def RDGet2 (x y z : V) (H : Hp) (Q : VK) : Prop := ∃ a, x = .ref a ∧ ∃ o, DGet H a y o ∧ Q (o.getD z) H
def RDG2 (ty tx : TE) (σ : St) (Q : VK) (x : V) (H : Hp) : Prop := ∃ a, x = .ref a ∧ IsD H a ∧ ty σ H fun y H2 => tx σ H2 fun z H3 => ∃ o, DGet H3 a y o ∧ Q (o.getD z) H3
theorem k_dget2 {tx : TE} (h : td σ H (RDG2 ty tx σ Q)) : tDGet2 td ty tx σ H Q := h
def RDo (a : Addr) (Q : VK) (y z : V) (H : Hp) : Prop := ∃ o, DGet H a y o ∧ Q (o.getD z) H
theorem k_rdg2 {tx : TE} (h : H a = some (.dK kvs)) (q : ty σ H fun y H2 => tx σ H2 fun z H3 => RDo a Q y z H3) : RDG2 ty tx σ Q (.ref a) H := ⟨a, rfl, .inl ⟨kvs, .inl h⟩, q⟩
theorem k_rdo {z : V} (h : H a = some (.dK kvs)) (q : Q ((valV kvs (.inr s)).getD z) H) : RDo a Q (.str s) z H := ⟨_, DGet.k (k := .inr s) h, q⟩
def RDPut (x y v : V) (H : Hp) (k : Hp → Prop) : Prop := ∃ a H4, x = .ref a ∧ DPut H a y v H4 ∧ k H4
theorem k_dput (h : tv σ H fun v H1 => td σ H1 fun x H2 => ty σ H2 fun y H3 => RDPut x y v H3 (fun H4 => n σ H4)) : sDPut td ty tv ⟨n, r, b, c⟩ σ H := h
theorem k_rdput {k : Hp → Prop} (h : H a = some (.dK kvs)) (hl : kvs.length ≤ 90000) (e : putK kvs (.inr s) v = gs) (q : k (upd H a (.dK gs))) : RDPut (.ref a) (.str s) v H k := ⟨a, _, rfl, DPut.k (k := .inr s) h (szl_of (by omega)), by rw [e]; exact q⟩
theorem k_rdputC {k : Hp → Prop} (h : H a = some (.dK kvs)) (hl : kvs.length ≤ 90000) (e : PutC kvs s v gs) (q : k (upd H a (.dK gs))) : RDPut (.ref a) (.str s) v H k := k_rdput h hl e.eq q
theorem k_rdgetC (h : H a = some (.dK kvs)) (e : ValC kvs s v) (q : Q v H) : RDGet (.ref a) (.str s) H Q := k_rdget h e.eq q
/-! a display of texts -/
def dS (l : List (Str × Str)) : List (Key × V) := l.map fun p => (.inr p.1, .str p.2)
theorem tPairs_S {σ : St} (l : List (Str × Str)) : ∀ {H : Hp} {R : List (V × V) → Hp → Prop}, R (l.map fun p => (V.str p.1, V.str p.2)) H → tPairs (l.map fun p => (tC (.str p.1), tC (.str p.2))) σ H R := by
  induction l with
  | nil => intro H R q; exact q
  | cons a l ih =>
    intro H R q
    show tPairs (l.map fun p => (tC (.str p.1), tC (.str p.2))) σ H fun ps H3 => R ((V.str a.1, V.str a.2) :: ps) H3
    exact ih q
def RDisp (l : List (Str × Str)) (H : Hp) (Q : VK) : Prop := ∀ p, H p = none → Q (.ref p) (upd H p (.dK (mergeK [] (dS l))))
theorem k_disp {trs : List (TE × TE)} {l : List (Str × Str)} [c : TdS trs l] (hl : l.length ≤ 15) (q : ∀ p, H p = none → Q (.ref p) (upd H p (.dK (mergeK [] (dS l))))) : tDisp trs σ H Q := by
  intro p hp
  rw [c.eq]
  refine tPairs_S l ⟨upd_same, dS l, ?_, by rw [dS, List.length_map]; exact hl, ?_⟩
  · rw [dS, List.map_map]; rfl
  · rw [upd_upd]; exact q p hp
/-! texts and lists -/
def RM1 (ro : V → List V → Hp → VK → Prop) (te : TE) (σ : St) (Q : VK) (x : V) (H : Hp) : Prop := (∃ a, x = .str a) ∧ te σ H fun y H2 => ro x [y] H2 Q
theorem k_m1 {ro : V → List V → Hp → VK → Prop} (h : td σ H (RM1 ro te σ Q)) : tM1 ro td te σ H Q := h
theorem k_rm1 {ro : V → List V → Hp → VK → Prop} (h : te σ H fun y H2 => ro (.str s) [y] H2 Q) : RM1 ro te σ Q (.str s) H := ⟨⟨s, rfl⟩, h⟩
theorem o_split {l : List Str} (hz : (z.length == 0) = false) (hs : s.length ≤ 90000) (e : Txt.split s z = l) (hl : l.length ≤ 90000) (q : ∀ p, H p = none → Q (.ref p) (upd H p (.lst (l.map V.str)))) : rSplitA (.str s) [.str z] H Q :=
  ⟨s, z, rfl, rfl, hz, sz_of (by omega), by subst e; exact q⟩
def RBM (K : PySem.W.Frag) (T : String) (ro : V → List V → Hp → VK → Prop) (tr : TA) (σ : St) (Q : VK) (x : V) (H : Hp) : Prop := tyV K T x H ∧ tr σ H fun xs H2 => ro x xs H2 Q
theorem k_bm {ro : V → List V → Hp → VK → Prop} {T : String} (h : ta σ H (RBM K T ro tr σ Q)) : tBM K T ro ta tr σ H Q := h
theorem k_rbmL {ro : V → List V → Hp → VK → Prop} {xs : List V} (h : SqL K H a xs) (q : tr σ H fun xs H2 => ro (.ref a) xs H2 Q) : RBM K "list" ro tr σ Q (.ref a) H := ⟨.inl ⟨rfl, xs, h⟩, q⟩
theorem o_append {xs : List V} (h : H a = some (.lst xs)) (hl : xs.length ≤ 90000) (q : Q .non (upd H a (.lst (xs ++ [y])))) : rAppend (.ref a) [y] H Q := ⟨a, xs, y, rfl, rfl, h, szl_of (by omega), q⟩
/-! own subscripts -/
def ROwnIx (C : Addr) (sp : Sp) (E : XK) (x y : V) (H : Hp) (Q : VK) : Prop := ∃ a dx fs, x = .ref a ∧ H a = some (.ins C dx fs) ∧ sp [.ref a, y] H Q E
theorem k_ownIx {C : Addr} {sp : Sp} {E : St → XK} (h : ta σ H fun x H1 => te σ H1 fun y H2 => ROwnIx C sp (E σ) x y H2 Q) : tOwnIx C sp E ta te σ H Q := h
theorem k_rownIx {C dx : Addr} {sp : Sp} {E : XK} {fs : List (Str × V)} (h : H a = some (.ins C dx fs)) (q : sp [.ref a, y] H Q E) : ROwnIx C sp E (.ref a) y H Q := ⟨a, dx, fs, rfl, h, q⟩
def ROwnPut (C : Addr) (sp : Sp) (E : XK) (x y v : V) (H : Hp) (k : Hp → Prop) : Prop := ∃ a dx fs, x = .ref a ∧ H a = some (.ins C dx fs) ∧ sp [.ref a, y, v] H (fun _ H4 => k H4) E
theorem k_ownPut {C : Addr} {sp : Sp} {E : St → XK} (h : tv σ H fun v H1 => ta σ H1 fun x H2 => te σ H2 fun y H3 => ROwnPut C sp (E σ) x y v H3 (n σ)) : sOwnPut C sp E ta te tv ⟨n, r, b, c⟩ σ H := h
theorem k_rownPut {C dx : Addr} {sp : Sp} {E : XK} {fs : List (Str × V)} {k : Hp → Prop} (h : H a = some (.ins C dx fs)) (q : sp [.ref a, y, v] H (fun _ H4 => k H4) E) : ROwnPut C sp E (.ref a) y v H k := ⟨a, dx, fs, rfl, h, q⟩
/-! in -/
theorem allF (l : List Str) : (l.map V.str).all flatV = true := by
  induction l with
  | nil => rfl
  | cons a l ih => rw [List.map_cons, List.all_cons, ih]; rfl
theorem inS {s : Str} {l : List Str} : inV (.str s) (l.map V.str) = decide (s ∈ l) := by
  induction l with
  | nil => simp [inV]
  | cons a l ih =>
    rw [List.map_cons, inV, List.any_cons, ← inV, ih]
    by_cases e : a = s
    · subst e; simp [eqV]
    · have e' : s ≠ a := fun z => e z.symm
      simp [eqV, e, e']
theorem o_inT {l : List Str} (h : SqT K H a (l.map V.str)) (q : Q (.bl (decide (s ∈ l))) H) : rInA K false (.str s) (.ref a) H Q := .inl ⟨a, _, rfl, .inr h, rfl, (allF l), by rw [inS]; exact q⟩
theorem o_ninT {l : List Str} (h : SqT K H a (l.map V.str)) (q : Q (.bl (!decide (s ∈ l))) H) : rInA K true (.str s) (.ref a) H Q := .inl ⟨a, _, rfl, .inr h, rfl, (allF l), by rw [inS]; exact q⟩
theorem o_inL {l : List Str} (h : SqL K H a (l.map V.str)) (q : Q (.bl (decide (s ∈ l))) H) : rInA K false (.str s) (.ref a) H Q := .inl ⟨a, _, rfl, .inl h, rfl, (allF l), by rw [inS]; exact q⟩
theorem o_ninL {l : List Str} (h : SqL K H a (l.map V.str)) (q : Q (.bl (!decide (s ∈ l))) H) : rInA K true (.str s) (.ref a) H Q := .inl ⟨a, _, rfl, .inl h, rfl, (allF l), by rw [inS]; exact q⟩
/-! powers, fresh things -/
theorem o_pow18 (q : Q (.int 1000000000000000000) H) : rPowI (.int 10) (.int 18) H Q := ⟨10, 18, rfl, rfl, ⟨by decide, by decide, by decide⟩, q⟩
theorem o_pow9 (q : Q (.int 1000000000) H) : rPowI (.int 10) (.int 9) H Q := ⟨10, 9, rfl, rfl, ⟨by decide, by decide, by decide⟩, q⟩
theorem o_pow30 (q : Q (.int 1000000000000000000000000000000) H) : rPowI (.int 10) (.int 30) H Q := ⟨10, 30, rfl, rfl, ⟨by decide, by decide, by decide⟩, q⟩
/-! a thing written twice -/
theorem k_rdputU {k : Hp → Prop} (hl : kvs.length ≤ 90000) (e : PutC kvs s v gs) (q : k (upd H a (.dK gs))) : RDPut (.ref a) (.str s) v (upd H a (.dK kvs)) k := k_rdputC upd_same hl e (by rw [upd_upd]; exact q)
theorem o_appendU {xs : List V} (hl : xs.length ≤ 90000) (q : Q .non (upd H a (.lst (xs ++ [y])))) : rAppend (.ref a) [y] (upd H a (.lst xs)) Q := o_append upd_same hl (by rw [upd_upd]; exact q)
theorem k_rputU {f : Str} {C dx : Addr} {fs hs : List (Str × V)} {k : Hp → Prop} (i : HasF K C f) (j : Pf f y fs hs) (q : k (upd H a (.ins C dx hs))) : RPut K f (.ref a) y (upd H a (.ins C dx fs)) k := k_rput upd_same i j (by rw [upd_upd]; exact q)
end
end L2.MP

set_option Elab.async false
set_option linter.all false
set_option maxRecDepth 100000
set_option maxHeartbeats 4000000
/-! The written tables of a book: the entries and their choices. -/
namespace L2.MP
open PySem PySem.Spec PyProof.Rows
abbrev ENT : List Str := [("work" : Str), ("write" : Str), ("meet" : Str), ("test" : Str), ("partly" : Str), ("value" : Str), ("path" : Str), ("loop" : Str), ("guard" : Str), ("call" : Str)]
instance : DNe ("work" : Str) ("write" : Str) := ⟨by decide +kernel⟩
instance : DNe ("work" : Str) ("meet" : Str) := ⟨by decide +kernel⟩
instance : DNe ("work" : Str) ("test" : Str) := ⟨by decide +kernel⟩
instance : DNe ("work" : Str) ("partly" : Str) := ⟨by decide +kernel⟩
instance : DNe ("work" : Str) ("value" : Str) := ⟨by decide +kernel⟩
instance : DNe ("work" : Str) ("path" : Str) := ⟨by decide +kernel⟩
instance : DNe ("work" : Str) ("loop" : Str) := ⟨by decide +kernel⟩
instance : DNe ("work" : Str) ("guard" : Str) := ⟨by decide +kernel⟩
instance : DNe ("work" : Str) ("call" : Str) := ⟨by decide +kernel⟩
instance : DNe ("write" : Str) ("work" : Str) := ⟨by decide +kernel⟩
instance : DNe ("write" : Str) ("meet" : Str) := ⟨by decide +kernel⟩
instance : DNe ("write" : Str) ("test" : Str) := ⟨by decide +kernel⟩
instance : DNe ("write" : Str) ("partly" : Str) := ⟨by decide +kernel⟩
instance : DNe ("write" : Str) ("value" : Str) := ⟨by decide +kernel⟩
instance : DNe ("write" : Str) ("path" : Str) := ⟨by decide +kernel⟩
instance : DNe ("write" : Str) ("loop" : Str) := ⟨by decide +kernel⟩
instance : DNe ("write" : Str) ("guard" : Str) := ⟨by decide +kernel⟩
instance : DNe ("write" : Str) ("call" : Str) := ⟨by decide +kernel⟩
instance : DNe ("meet" : Str) ("work" : Str) := ⟨by decide +kernel⟩
instance : DNe ("meet" : Str) ("write" : Str) := ⟨by decide +kernel⟩
instance : DNe ("meet" : Str) ("test" : Str) := ⟨by decide +kernel⟩
instance : DNe ("meet" : Str) ("partly" : Str) := ⟨by decide +kernel⟩
instance : DNe ("meet" : Str) ("value" : Str) := ⟨by decide +kernel⟩
instance : DNe ("meet" : Str) ("path" : Str) := ⟨by decide +kernel⟩
instance : DNe ("meet" : Str) ("loop" : Str) := ⟨by decide +kernel⟩
instance : DNe ("meet" : Str) ("guard" : Str) := ⟨by decide +kernel⟩
instance : DNe ("meet" : Str) ("call" : Str) := ⟨by decide +kernel⟩
instance : DNe ("test" : Str) ("work" : Str) := ⟨by decide +kernel⟩
instance : DNe ("test" : Str) ("write" : Str) := ⟨by decide +kernel⟩
instance : DNe ("test" : Str) ("meet" : Str) := ⟨by decide +kernel⟩
instance : DNe ("test" : Str) ("partly" : Str) := ⟨by decide +kernel⟩
instance : DNe ("test" : Str) ("value" : Str) := ⟨by decide +kernel⟩
instance : DNe ("test" : Str) ("path" : Str) := ⟨by decide +kernel⟩
instance : DNe ("test" : Str) ("loop" : Str) := ⟨by decide +kernel⟩
instance : DNe ("test" : Str) ("guard" : Str) := ⟨by decide +kernel⟩
instance : DNe ("test" : Str) ("call" : Str) := ⟨by decide +kernel⟩
instance : DNe ("partly" : Str) ("work" : Str) := ⟨by decide +kernel⟩
instance : DNe ("partly" : Str) ("write" : Str) := ⟨by decide +kernel⟩
instance : DNe ("partly" : Str) ("meet" : Str) := ⟨by decide +kernel⟩
instance : DNe ("partly" : Str) ("test" : Str) := ⟨by decide +kernel⟩
instance : DNe ("partly" : Str) ("value" : Str) := ⟨by decide +kernel⟩
instance : DNe ("partly" : Str) ("path" : Str) := ⟨by decide +kernel⟩
instance : DNe ("partly" : Str) ("loop" : Str) := ⟨by decide +kernel⟩
instance : DNe ("partly" : Str) ("guard" : Str) := ⟨by decide +kernel⟩
instance : DNe ("partly" : Str) ("call" : Str) := ⟨by decide +kernel⟩
instance : DNe ("value" : Str) ("work" : Str) := ⟨by decide +kernel⟩
instance : DNe ("value" : Str) ("write" : Str) := ⟨by decide +kernel⟩
instance : DNe ("value" : Str) ("meet" : Str) := ⟨by decide +kernel⟩
instance : DNe ("value" : Str) ("test" : Str) := ⟨by decide +kernel⟩
instance : DNe ("value" : Str) ("partly" : Str) := ⟨by decide +kernel⟩
instance : DNe ("value" : Str) ("path" : Str) := ⟨by decide +kernel⟩
instance : DNe ("value" : Str) ("loop" : Str) := ⟨by decide +kernel⟩
instance : DNe ("value" : Str) ("guard" : Str) := ⟨by decide +kernel⟩
instance : DNe ("value" : Str) ("call" : Str) := ⟨by decide +kernel⟩
instance : DNe ("path" : Str) ("work" : Str) := ⟨by decide +kernel⟩
instance : DNe ("path" : Str) ("write" : Str) := ⟨by decide +kernel⟩
instance : DNe ("path" : Str) ("meet" : Str) := ⟨by decide +kernel⟩
instance : DNe ("path" : Str) ("test" : Str) := ⟨by decide +kernel⟩
instance : DNe ("path" : Str) ("partly" : Str) := ⟨by decide +kernel⟩
instance : DNe ("path" : Str) ("value" : Str) := ⟨by decide +kernel⟩
instance : DNe ("path" : Str) ("loop" : Str) := ⟨by decide +kernel⟩
instance : DNe ("path" : Str) ("guard" : Str) := ⟨by decide +kernel⟩
instance : DNe ("path" : Str) ("call" : Str) := ⟨by decide +kernel⟩
instance : DNe ("loop" : Str) ("work" : Str) := ⟨by decide +kernel⟩
instance : DNe ("loop" : Str) ("write" : Str) := ⟨by decide +kernel⟩
instance : DNe ("loop" : Str) ("meet" : Str) := ⟨by decide +kernel⟩
instance : DNe ("loop" : Str) ("test" : Str) := ⟨by decide +kernel⟩
instance : DNe ("loop" : Str) ("partly" : Str) := ⟨by decide +kernel⟩
instance : DNe ("loop" : Str) ("value" : Str) := ⟨by decide +kernel⟩
instance : DNe ("loop" : Str) ("path" : Str) := ⟨by decide +kernel⟩
instance : DNe ("loop" : Str) ("guard" : Str) := ⟨by decide +kernel⟩
instance : DNe ("loop" : Str) ("call" : Str) := ⟨by decide +kernel⟩
instance : DNe ("guard" : Str) ("work" : Str) := ⟨by decide +kernel⟩
instance : DNe ("guard" : Str) ("write" : Str) := ⟨by decide +kernel⟩
instance : DNe ("guard" : Str) ("meet" : Str) := ⟨by decide +kernel⟩
instance : DNe ("guard" : Str) ("test" : Str) := ⟨by decide +kernel⟩
instance : DNe ("guard" : Str) ("partly" : Str) := ⟨by decide +kernel⟩
instance : DNe ("guard" : Str) ("value" : Str) := ⟨by decide +kernel⟩
instance : DNe ("guard" : Str) ("path" : Str) := ⟨by decide +kernel⟩
instance : DNe ("guard" : Str) ("loop" : Str) := ⟨by decide +kernel⟩
instance : DNe ("guard" : Str) ("call" : Str) := ⟨by decide +kernel⟩
instance : DNe ("call" : Str) ("work" : Str) := ⟨by decide +kernel⟩
instance : DNe ("call" : Str) ("write" : Str) := ⟨by decide +kernel⟩
instance : DNe ("call" : Str) ("meet" : Str) := ⟨by decide +kernel⟩
instance : DNe ("call" : Str) ("test" : Str) := ⟨by decide +kernel⟩
instance : DNe ("call" : Str) ("partly" : Str) := ⟨by decide +kernel⟩
instance : DNe ("call" : Str) ("value" : Str) := ⟨by decide +kernel⟩
instance : DNe ("call" : Str) ("path" : Str) := ⟨by decide +kernel⟩
instance : DNe ("call" : Str) ("loop" : Str) := ⟨by decide +kernel⟩
instance : DNe ("call" : Str) ("guard" : Str) := ⟨by decide +kernel⟩
/-! a new key -/
theorem put_cons {t s : Str} {u v : V} {r : List (Key × V)} (d : t ≠ s) : putK ((.inr t, u) :: r) (.inr s) v = (.inr t, u) :: putK r (.inr s) v := by
  have d' : ¬ (Sum.inr t : Key) = Sum.inr s := fun z => d (Sum.inr.inj z)
  unfold putK
  rw [List.any_cons, show decide ((Sum.inr t : Key) = Sum.inr s) = false from decide_eq_false d', Bool.false_or]
  split
  · rw [List.map_cons]
    congr 1
    show (if (Sum.inr t : Key) = Sum.inr s then (Sum.inr t, v) else (Sum.inr t, u)) = _
    rw [if_neg d']
  · rfl
instance {s : Str} {v : V} : PutC [] s v [(.inr s, v)] := ⟨rfl⟩
instance {t s : Str} {u v : V} {r r' : List (Key × V)} [d : DNe t s] [c : PutC r s v r'] : PutC ((.inr t, u) :: r) s v ((.inr t, u) :: r') := ⟨by rw [put_cons d.ne, c.eq]⟩
def CHT : List (Str × List Str) := [(("work" : Str), [("drop" : Str), ("left" : Str), ("short" : Str), ("join" : Str)]), (("write" : Str), [("raise" : Str), ("partly" : Str), ("skip" : Str), ("stop" : Str)]), (("meet" : Str), [("leave" : Str), ("raise" : Str)]),
  (("test" : Str), [("ignore" : Str), ("raise" : Str), ("stop" : Str)]), (("partly" : Str), [("pass" : Str), ("stop" : Str)]), (("value" : Str), [("show" : Str), ("blank" : Str), ("skip" : Str), ("stop" : Str)]), (("path" : Str), [("show" : Str), ("blank" : Str), ("skip" : Str), ("stop" : Str)])]
/-- the choices of an entry -/
def chs (e : Str) : List Str := (CHT.lookup e).getD [("forget" : Str), ("stick" : Str), ("stop" : Str)]
def strsB : List Str → List Value → Bool
  | [], [] => true
  | a :: l, .str b _ :: r => decide (a = b) && strsB l r
  | _, _ => false
theorem strsB_ok : ∀ {l : List Str} {r : List Value}, strsB l r = true → Vals (l.map V.str) r
  | [], [], _ => .nil
  | a :: l, .str b t :: r, h => by
    obtain ⟨h1, h2⟩ := He.ba h
    obtain rfl := of_decide_eq_true h1
    exact .cons ⟨t, rfl⟩ (strsB_ok h2)
  | [], _ :: _, h => by cases h
  | _ :: _, [], h => by cases h
def wtupB (a : Addr) (l : List Str) (K : PySem.W.Frag) : Bool := match K.lookup a with
  | some o => decide (o.cls = .type "tuple") && (match o.data with
    | .seq its _ => decide (its.size ≤ 1000) && strsB l its.toList
    | _ => false)
  | none => false
theorem wtupB_ok {a : Addr} {l : List Str} {K : PySem.W.Frag} (h : wtupB a l K = true) (H : Hp) : SqT K H a (l.map V.str) := by
  unfold wtupB at h
  split at h
  · rename_i o e
    obtain ⟨h1, h2⟩ := He.ba h
    split at h2
    · rename_i its n d
      obtain ⟨h3, h4⟩ := He.ba h2
      exact .inr ⟨o, its, n, e, of_decide_eq_true h1, d, Nat.le_trans (of_decide_eq_true h3) (by decide), strsB_ok h4⟩
    · cases h2
  · cases h
/-- where the choices of an entry stand -/
def chA (K : PySem.W.Frag) (e : Str) : Addr := match PySem.W.nsIn K (He.ga K "CHOICES") e with
  | some (some (.ref g)) => g
  | _ => 0
def chB (K : PySem.W.Frag) : Bool := ENT.all fun e => decide (PySem.W.nsIn K (He.ga K "CHOICES") e = some (some (.ref (chA K e)))) && wtupB (chA K e) (chs e) K
def entB (K : PySem.W.Frag) : Bool := wtupB (He.ga K "ENTRIES") ENT K
class BookK (K : PySem.W.Frag) : Prop where
  ent : entB K = true
  ch : chB K = true
class BookW (K : PySem.W.Frag) (w : World) : Prop where
  kd : ∃ es n, KDict K w (He.ga K "CHOICES") es n
section
variable {K : PySem.W.Frag} {w : World} {H : Hp} {Q : VK} {e s : Str}
theorem ent_sq [b : BookK K] : SqT K H (He.ga K "ENTRIES") (ENT.map V.str) := wtupB_ok b.ent H
theorem ch_sq [b : BookK K] (he : e ∈ ENT) : SqT K H (chA K e) ((chs e).map V.str) := wtupB_ok (He.ba (List.all_eq_true.mp b.ch e he)).2 H
theorem ch_kd [b : BookK K] [c : BookW K w] (he : e ∈ ENT) : KDct K w (He.ga K "CHOICES") e (.ref (chA K e)) := by
  obtain ⟨es, n, d⟩ := c.kd
  exact ⟨es, n, _, d.at_, d.lit, of_decide_eq_true (He.ba (List.all_eq_true.mp b.ch e he)).1, rfl⟩
def rIxW (K : PySem.W.Frag) (w : World) : R2 := rIxD K w
theorem k_ixW [BookK K] [BookW K w] (he : e ∈ ENT) (q : Q (.ref (chA K e)) H) : rIxW K w (.ref (He.ga K "CHOICES")) (.str e) H Q := ⟨_, e, _, rfl, rfl, ch_kd he, q⟩
theorem pe_ixW {X : Cx} {a b : Expr} {ta tb : TE} {pos : Pos} (ha : PE X a ta) (hb : PE X b tb) (hs : PlainIx b) : PE X (.Subscript a b pos) (tOp (rIxW X.K X.w) ta tb) := pe_ix ix_kdict ha hb hs
/-- in the choices of an entry; in the entries -/
theorem k_ninCh [BookK K] (he : e ∈ ENT) (q : Q (.bl (!decide (s ∈ chs e))) H) : rInA K true (.str s) (.ref (chA K e)) H Q := o_ninT (ch_sq he) q
theorem k_ninEnt [BookK K] (q : Q (.bl (!decide (s ∈ ENT))) H) : rInA K true (.str s) (.ref (He.ga K "ENTRIES")) H Q := o_ninT ent_sq q
theorem k_lenEnt [BookK K] (q : Q (.int 10) H) : rLenA K [.ref (He.ga K "ENTRIES")] H Q := o_lenT ent_sq q
/-! the book's dict: each entry with its choice -/
def bk (f : Str → Str) : List (Key × V) := ENT.map fun e => (Sum.inr e, V.str (f e))
def fset (f : Str → Str) (e c : Str) : Str → Str := fun x => if x = e then c else f x
theorem bk_get {f : Str → Str} (he : e ∈ ENT) : valV (bk f) (.inr e) = some (.str (f e)) := by
  unfold bk
  generalize ENT = l at he
  induction l with
  | nil => cases he
  | cons a l ih =>
    by_cases h : a = e
    · subst h; exact valV_pos rfl
    · rw [List.map_cons, valV_neg (fun z => h (Sum.inr.inj z))]
      exact ih ((List.mem_cons.mp he).resolve_left (fun z => h z.symm))
theorem bk_put {f : Str → Str} {c : Str} (he : e ∈ ENT) : putK (bk f) (.inr e) (.str c) = bk (fset f e c) := by
  unfold putK
  have h : ((bk f).any fun kv => decide (kv.1 = Sum.inr e)) = true := by
    rw [List.any_eq_true]
    exact ⟨(.inr e, .str (f e)), List.mem_map.mpr ⟨e, he, rfl⟩, by simp⟩
  rw [if_pos h]
  unfold bk
  rw [List.map_map]
  refine List.map_congr_left fun x _ => ?_
  show (if (Sum.inr x : Key) = Sum.inr e then ((Sum.inr x : Key), V.str c) else (Sum.inr x, V.str (f x))) = (Sum.inr x, V.str (fset f e c x))
  by_cases z : x = e
  · subst z; simp [fset]
  · simp [fset, z]
theorem bk_len {f : Str → Str} : (bk f).length = 10 := rfl
theorem fset_eq {f : Str → Str} {c : Str} : fset f e c e = c := if_pos rfl
theorem fset_ne {f : Str → Str} {c x : Str} (h : x ≠ e) : fset f e c x = f x := if_neg h
theorem k_bkget {f : Str → Str} {a : Addr} (h : H a = some (.dK (bk f))) (he : e ∈ ENT) (q : Q (.str (f e)) H) : RDGet (.ref a) (.str e) H Q := k_rdget h (bk_get he) q
theorem k_bkput {f : Str → Str} {a : Addr} {c : Str} {k : Hp → Prop} (h : H a = some (.dK (bk f))) (he : e ∈ ENT) (q : k (upd H a (.dK (bk (fset f e c))))) : RDPut (.ref a) (.str e) (.str c) H k :=
  k_rdput h (by rw [bk_len]; decide) (bk_put he) q
end
/-- the choices told as the law tells them -/
abbrev CHX : List (Str × Str) := [(("work" : Str), ("drop left short join" : Str)), (("write" : Str), ("raise partly skip stop" : Str)), (("meet" : Str), ("leave raise" : Str)), (("test" : Str), ("ignore raise stop" : Str)), (("partly" : Str), ("pass stop" : Str)), (("value" : Str), ("show blank skip stop" : Str)), (("path" : Str), ("show blank skip stop" : Str))]
def chT (e : Str) : Str := (CHX.lookup e).getD ("forget stick stop" : Str)
theorem ent_all {P : Str → Prop} (h : ∀ e ∈ ENT, P e) : ∀ e ∈ ENT, P e := h
theorem chx_ok : ∀ e ∈ ENT, ((valV (mergeK [] (dS CHX)) (.inr e)).getD (.str ("forget stick stop" : Str)) = .str (chT e) ∧ Txt.split (chT e) (" " : Str) = chs e) ∧ ((chT e).length ≤ 90 ∧ (chs e).length ≤ 4 ∧ 2 ≤ (chs e).length) := by
  intro e he
  simp only [ENT, List.mem_cons, List.not_mem_nil, or_false] at he
  rcases he with rfl | rfl | rfl | rfl | rfl | rfl | rfl | rfl | rfl | rfl <;> exact ⟨⟨by kernel_rfl, by kernel_rfl⟩, by decide +kernel⟩
/-! the top run holds a dict: the one question to the world that it asks, told both ways -/
abbrev wB (w : World) (b : Bool) : World := ⟨w.draws, { w.params with followText := fun r => if r = "special-get-raises" then b else w.params.followText r }⟩
theorem wB_eq (w : World) : wB w (w.params.followText "special-get-raises") = w := by
  have e : (fun r => if r = "special-get-raises" then w.params.followText "special-get-raises" else w.params.followText r) = w.params.followText := by
    funext r
    split
    · rename_i h; rw [h]
    · rfl
  unfold wB
  rw [e]
end L2.MP

set_option Elab.async false
set_option linter.all false
set_option maxRecDepth 100000
set_option maxHeartbeats 4000000
/-! Lists by an open place; a book's choices by names. -/
namespace L2.MP
open PySem PySem.Spec PyProof.Rows
theorem up_new' {H : Hp} {p a dx : Addr} {o u v : HO} (hp : H p = none) (h : upd H dx v a = some u) (hn : dx ≠ p := by assumption) : upd (upd H dx v) p o a = some u := up_ne (fun z => by subst z; rw [upd_ne (Ne.symm hn), hp] at h; cases h) h
def sv (l : List Str) (i : Int) : Str := l.getD i.toNat ("" : Str)
theorem sv_mem {l : List Str} {i : Int} (h0 : 0 ≤ i) (h : i < l.length) : sv l i ∈ l := by
  have h' : i.toNat < l.length := by omega
  simp [sv, List.getD, h']
section
variable {K : PySem.W.Frag} {H : Hp} {Q : VK} {v : V} {p : Int} {a : Addr}
theorem o_ixD {ds : List Int} (h : SqL K H a (ds.map V.int)) (h0 : 0 ≤ p) (h1 : p < ds.length) (q : Q (.int (cellv ds p)) H) : rIx K (.ref a) (.int p) H Q :=
  o_ixL h (cell_at h0 (by simpa using h1)) q
theorem o_ixSv {l : List Str} (h : SqL K H a (l.map V.str)) (h0 : 0 ≤ p) (h1 : p < l.length) (q : Q (.str (sv l p)) H) : rIx K (.ref a) (.int p) H Q := by
  obtain ⟨m, rfl⟩ : ∃ m : Nat, p = (m : Int) := ⟨p.toNat, by omega⟩
  have hm : m < l.length := by omega
  refine o_ixL h (atI_nat (v := V.str (sv l m)) ?_) q
  simp [sv, List.getD, hm]
theorem o_ix2S {s0 s1 : Str} {c : Bool} (h : SqL K H a [.str s0, .str s1]) (q : Q (.str (if c = true then s1 else s0)) H) : rIx K (.ref a) (.int (if c = true then 1 else 0)) H Q := by
  cases c
  · exact o_ixL h (atI_nat (j := 0) rfl) q
  · exact o_ixL h (atI_nat (j := 1) rfl) q
theorem o_ix2I {i0 i1 : Int} {c : Bool} (h : SqL K H a [.int i0, .int i1]) (q : Q (.int (if c = true then i1 else i0)) H) : rIx K (.ref a) (.int (if c = true then 1 else 0)) H Q := by
  cases c
  · exact o_ixL h (atI_nat (j := 0) rfl) q
  · exact o_ixL h (atI_nat (j := 1) rfl) q
theorem cell60 {ds : List Int} {i : Int} (h : ∀ d ∈ ds, 0 ≤ d ∧ d < 60) : 0 ≤ cellv ds i ∧ cellv ds i < 60 := by
  by_cases e : i.toNat < ds.length
  · have : cellv ds i ∈ ds := by simp [cellv, List.getD, e]
    exact h _ this
  · have : cellv ds i = 0 := by simp [cellv, List.getD, Nat.le_of_not_lt e]
    rw [this]; decide
end
class InE (e : Str) : Prop where
  mem : e ∈ ENT
instance : InE ("work" : Str) := ⟨by decide +kernel⟩
instance : InE ("write" : Str) := ⟨by decide +kernel⟩
instance : InE ("meet" : Str) := ⟨by decide +kernel⟩
instance : InE ("test" : Str) := ⟨by decide +kernel⟩
instance : InE ("partly" : Str) := ⟨by decide +kernel⟩
instance : InE ("value" : Str) := ⟨by decide +kernel⟩
instance : InE ("path" : Str) := ⟨by decide +kernel⟩
instance : InE ("loop" : Str) := ⟨by decide +kernel⟩
instance : InE ("guard" : Str) := ⟨by decide +kernel⟩
instance : InE ("call" : Str) := ⟨by decide +kernel⟩
/-- the choice at an entry, told -/
class FEq (f : Str → Str) (e : Str) (v : outParam Str) : Prop where
  eq : f e = v
instance (priority := low) {f : Str → Str} {e : Str} : FEq f e (f e) := ⟨rfl⟩
instance {f : Str → Str} {e c : Str} : FEq (fset f e c) e c := ⟨fset_eq⟩
instance {f : Str → Str} {e x c v : Str} [d : DNe x e] [i : FEq f x v] : FEq (fset f e c) x v := ⟨by rw [fset_ne d.ne]; exact i.eq⟩
/-- all choices are choices of their entries -/
def Good (f : Str → Str) : Prop := ∀ e ∈ ENT, f e ∈ chs e
theorem Good.set {f : Str → Str} {e c : Str} (g : Good f) (h : c ∈ chs e) : Good (fset f e c) := fun x hx => by
  unfold fset
  split
  · rename_i z; rw [z]; exact h
  · exact g x hx
/-- ten choices in the order of the entries -/
def fL (cs : List Str) : Str → Str := fun e => cs.getD (ENT.idxOf e) ("" : Str)
theorem bk_fL {c0 c1 c2 c3 c4 c5 c6 c7 c8 c9 : Str} : bk (fL [c0, c1, c2, c3, c4, c5, c6, c7, c8, c9]) = [(.inr "work", .str c0), (.inr "write", .str c1), (.inr "meet", .str c2), (.inr "test", .str c3), (.inr "partly", .str c4), (.inr "value", .str c5), (.inr "path", .str c6), (.inr "loop", .str c7), (.inr "guard", .str c8), (.inr "call", .str c9)] := by
  unfold bk ENT
  simp only [List.map_cons, List.map_nil]
  rfl
theorem bk_list {f : Str → Str} : bk f = [(.inr "work", .str (f "work")), (.inr "write", .str (f "write")), (.inr "meet", .str (f "meet")), (.inr "test", .str (f "test")), (.inr "partly", .str (f "partly")), (.inr "value", .str (f "value")), (.inr "path", .str (f "path")), (.inr "loop", .str (f "loop")), (.inr "guard", .str (f "guard")), (.inr "call", .str (f "call"))] := rfl
theorem bk_congr {f g : Str → Str} (h : ∀ e ∈ ENT, f e = g e) : bk f = bk g := List.map_congr_left fun e he => by rw [h e he]
/-- the first m entries -/
def bkm (m : Nat) (f : Str → Str) : List (Key × V) := (ENT.take m).map fun e => (Sum.inr e, V.str (f e))
theorem bkm_ten {f : Str → Str} : bkm 10 f = bk f := rfl
theorem ent_fresh : ∀ m < 10, sv ENT (m : Nat) ∉ ENT.take m ∧ ENT.take (m + 1) = ENT.take m ++ [sv ENT (m : Nat)] ∧ sv ENT (m : Nat) ∈ ENT := by decide +kernel
theorem bkm_put {f : Str → Str} {m : Nat} {c : Str} (h : m < 10) : putK (bkm m f) (.inr (sv ENT m)) (.str c) = bkm (m + 1) (fset f (sv ENT m) c) := by
  obtain ⟨h1, h2, _⟩ := ent_fresh m h
  have nk : ((bkm m f).any fun kv => decide (kv.1 = Sum.inr (sv ENT m))) = false := by
    rw [List.any_eq_false]
    intro kv hkv
    obtain ⟨x, hx, rfl⟩ := List.mem_map.mp hkv
    simp only [decide_eq_true_eq]
    intro z
    exact h1 ((Sum.inr.inj z) ▸ hx)
  unfold putK
  rw [if_neg (by rw [nk]; decide)]
  unfold bkm
  rw [h2, List.map_append]
  congr 1
  · refine List.map_congr_left fun x hx => ?_
    rw [fset_ne (fun (z : x = sv ENT m) => h1 (by rw [← z]; exact hx))]
  · simp only [List.map_cons, List.map_nil]
    rw [fset_eq]
section
variable {K : PySem.W.Frag} {H : Hp} {Q : VK} {e c : Str}
theorem k_ninEntT [BookK K] (he : e ∈ ENT) (q : Q (.bl false) H) : rInA K true (.str e) (.ref (He.ga K "ENTRIES")) H Q := k_ninEnt (by rw [decide_eq_true he]; exact q)
theorem k_ninChT [BookK K] (he : e ∈ ENT) (hc : c ∈ chs e) (q : Q (.bl false) H) : rInA K true (.str c) (.ref (chA K e)) H Q := k_ninCh he (by rw [decide_eq_true hc]; exact q)
end
end L2.MP
namespace L2.MP
open PySem PySem.Spec PyProof.Rows
section
variable {K : PySem.W.Frag} {H : Hp} {Q : VK} {a : Addr}
theorem o_lenLS {l : List Str} (h : SqL K H a (l.map V.str)) (q : Q (.int l.length) H) : rLenA K [.ref a] H Q := o_lenL h (by rw [List.length_map]; exact q)
theorem o_lenLI {l : List Int} (h : SqL K H a (l.map V.int)) (q : Q (.int l.length) H) : rLenA K [.ref a] H Q := o_lenL h (by rw [List.length_map]; exact q)
theorem k_rdputB {m : Nat} {f : Str → Str} {c : Str} {k : Hp → Prop} (h : H a = some (.dK (bkm m f))) (hm : m < 10) (q : k (upd H a (.dK (bkm (m + 1) (fset f (sv ENT m) c))))) : RDPut (.ref a) (.str (sv ENT m)) (.str c) H k :=
  k_rdput h (by simp [bkm]; omega) (bkm_put hm) q
end
end L2.MP
namespace L2.MP
open PySem PySem.Spec PyProof.Rows
/-! new things, the heap behind them as a letter -/
section
variable {K : PySem.W.Frag} {σ : St} {H : Hp} {Q : VK} {a e : Addr} {vs xs ys : List V}
theorem k_newTA (h : vs.length ≤ 100000) (q : ∀ p H', H p = none → Ex H H' → H' p = some (.tup vs) → Q (.ref p) H') : NewT vs H Q := k_newT h fun p hp => q p _ hp (Ex.new hp) upd_same
theorem k_newLA (h : vs.length ≤ 100000) (q : ∀ p H', H p = none → Ex H H' → H' p = some (.lst vs) → Q (.ref p) H') : NewL vs H Q := k_newL h fun p hp => q p _ hp (Ex.new hp) upd_same
theorem k_newDA (q : ∀ p H', H p = none → Ex H H' → H' p = some (.dK []) → Q (.ref p) H') : NewD H Q := k_newD fun p hp => q p _ hp (Ex.new hp) upd_same
theorem k_dispA {trs : List (TE × TE)} {l : List (Str × Str)} [c : TdS trs l] (hl : l.length ≤ 15) (q : ∀ p H', H p = none → Ex H H' → H' p = some (.dK (mergeK [] (dS l))) → Q (.ref p) H') : tDisp trs σ H Q := k_disp hl fun p hp => q p _ hp (Ex.new hp) upd_same
theorem o_addLA (h1 : H a = some (.lst xs)) (h2 : H e = some (.lst ys)) (h : xs.length + ys.length ≤ 100000) (q : ∀ p H', H p = none → Ex H H' → H' p = some (.lst (xs ++ ys)) → Q (.ref p) H') : rAddA K (.ref a) (.ref e) H Q := o_addL h1 h2 h fun p hp => q p _ hp (Ex.new hp) upd_same
theorem o_splitA {s z : Str} {l : List Str} (hz : (z.length == 0) = false) (hs : s.length ≤ 90000) (e : Txt.split s z = l) (hl : l.length ≤ 90000) (q : ∀ p H', H p = none → Ex H H' → H' p = some (.lst (l.map V.str)) → Q (.ref p) H') : rSplitA (.str s) [.str z] H Q :=
  o_split hz hs e hl fun p hp => q p _ hp (Ex.new hp) upd_same
end
end L2.MP
namespace L2.MP
open PySem PySem.Spec PyProof.Rows
theorem ent_inj : ∀ i < 10, ∀ j < 10, sv ENT (i : Nat) = sv ENT (j : Nat) → i = j := by decide +kernel
theorem ent_ix : ∀ e ∈ ENT, ∃ i < 10, e = sv ENT (i : Nat) := by
  intro e he
  simp only [ENT, List.mem_cons, List.not_mem_nil, or_false] at he
  rcases he with rfl | rfl | rfl | rfl | rfl | rfl | rfl | rfl | rfl | rfl
  · exact ⟨0, by decide, rfl⟩
  · exact ⟨1, by decide, rfl⟩
  · exact ⟨2, by decide, rfl⟩
  · exact ⟨3, by decide, rfl⟩
  · exact ⟨4, by decide, rfl⟩
  · exact ⟨5, by decide, rfl⟩
  · exact ⟨6, by decide, rfl⟩
  · exact ⟨7, by decide, rfl⟩
  · exact ⟨8, by decide, rfl⟩
  · exact ⟨9, by decide, rfl⟩
theorem good_of {f : Str → Str} (h : ∀ i < 10, f (sv ENT (i : Nat)) ∈ chs (sv ENT (i : Nat))) : Good f := fun e he => by
  obtain ⟨i, hi, rfl⟩ := ent_ix e he
  exact h i hi
theorem goods_set {f : Str → Str} {m : Nat} {c : Str} (hm : m < 10) (h : ∀ i < m, f (sv ENT (i : Nat)) ∈ chs (sv ENT (i : Nat))) (hc : c ∈ chs (sv ENT m)) : ∀ i < m + 1, fset f (sv ENT m) c (sv ENT (i : Nat)) ∈ chs (sv ENT (i : Nat)) := fun i hi => by
  by_cases e : i = m
  · subst e; rw [fset_eq]; exact hc
  · rw [fset_ne (fun z => e (ent_inj i (by omega) m hm z))]
    exact h i (by omega)
theorem chs_two {e : Str} (he : e ∈ ENT) : 2 ≤ (chs e).length := (chx_ok e he).2.2.2
end L2.MP
namespace L2.MP
open PySem PySem.Spec PyProof.Rows
theorem bk_full {f g : Str → Str} : bk (fset (fset (fset (fset (fset (fset (fset (fset (fset (fset g "work" (f "work")) "write" (f "write")) "meet" (f "meet")) "test" (f "test")) "partly" (f "partly")) "value" (f "value")) "path" (f "path")) "loop" (f "loop")) "guard" (f "guard")) "call" (f "call")) = bk f := by
  refine bk_congr fun e he => ?_
  simp only [ENT, List.mem_cons, List.not_mem_nil, or_false] at he
  rcases he with rfl | rfl | rfl | rfl | rfl | rfl | rfl | rfl | rfl | rfl <;> exact FEq.eq
end L2.MP
namespace L2.MP
open PySem PySem.Spec PyProof.Rows
@[simp] theorem ofString_inj {a b : String} : (Str.ofString a = Str.ofString b) ↔ a = b := by
  constructor
  · intro h
    rw [Str.ofString_eq_toList, Str.ofString_eq_toList] at h
    have h1 : (a.toList.map Char.toNat).toArray = (b.toList.map Char.toNat).toArray := congrArg Str.cps h
    have h2 : a.toList.map Char.toNat = b.toList.map Char.toNat := by simpa using h1
    have inj : ∀ {x y : Char}, x.toNat = y.toNat → x = y := fun {x y} e => Char.ext (UInt32.toNat_inj.mp e)
    have h3 : ∀ (l m : List Char), l.map Char.toNat = m.map Char.toNat → l = m := by
      intro l
      induction l with
      | nil => intro m e; cases m with | nil => rfl | cons _ _ => simp at e
      | cons x l ih =>
        intro m e
        cases m with
        | nil => simp at e
        | cons y m =>
          simp only [List.map_cons, List.cons.injEq] at e
          rw [inj e.1, ih m e.2]
    exact String.toList_inj.mp (h3 _ _ h2)
  · rintro rfl; rfl
/-- the choices of an entry, written -/
class ChV (e : Str) (vs : outParam (List V)) : Prop where
  eq : (chs e).map V.str = vs
instance : ChV ("work" : Str) [.str "drop", .str "left", .str "short", .str "join"] := ⟨by kernel_rfl⟩
instance : ChV ("write" : Str) [.str "raise", .str "partly", .str "skip", .str "stop"] := ⟨by kernel_rfl⟩
instance : ChV ("meet" : Str) [.str "leave", .str "raise"] := ⟨by kernel_rfl⟩
instance : ChV ("test" : Str) [.str "ignore", .str "raise", .str "stop"] := ⟨by kernel_rfl⟩
instance : ChV ("partly" : Str) [.str "pass", .str "stop"] := ⟨by kernel_rfl⟩
instance : ChV ("value" : Str) [.str "show", .str "blank", .str "skip", .str "stop"] := ⟨by kernel_rfl⟩
instance : ChV ("path" : Str) [.str "show", .str "blank", .str "skip", .str "stop"] := ⟨by kernel_rfl⟩
instance : ChV ("loop" : Str) [.str "forget", .str "stick", .str "stop"] := ⟨by kernel_rfl⟩
instance : ChV ("guard" : Str) [.str "forget", .str "stick", .str "stop"] := ⟨by kernel_rfl⟩
instance : ChV ("call" : Str) [.str "forget", .str "stick", .str "stop"] := ⟨by kernel_rfl⟩
section
variable {K : PySem.W.Frag} {σ : St} {H : Hp} {n b c : St → Hp → Prop} {r : VK} {i : Nat} {tb : TS} {x : V} {xs : List V} {a : Addr}
/-- a written list or tuple, turn by turn -/
theorem k_rlC (h : SqL K H a (x :: xs)) (q : RForL K a (x :: xs) i tb n r (x :: xs) σ H) : RL K i tb ⟨n, r, b, c⟩ σ (.ref a) H := k_rl h q
theorem k_rtC (h : SqT K H a (x :: xs)) (q : RForT K a (x :: xs) i tb n r (x :: xs) σ H) : RT K i tb ⟨n, r, b, c⟩ σ (.ref a) H := k_rt h q
end
end L2.MP
namespace L2.MP
open PySem PySem.Spec PyProof.Rows
/-! == of lists and tuples of plain values -/
def pd : V → PyData
  | .bl b => .bool b
  | .int i => .int i
  | .str x => .str x
  | _ => .none
def flat1 : V → Bool
  | .non => true
  | .bl _ => true
  | .int _ => true
  | .str x => PyData.strOk x
  | _ => false
def flatOk (xs : List V) : Bool := xs.all flat1
theorem dp_flat {K : PySem.W.Frag} {H : Hp} : ∀ {xs : List V}, flatOk xs = true → DpAll K H xs (xs.map pd) ∧ PyData.canLayAll0 (xs.map pd) = true ∧ PyData.depthAll (xs.map pd) ≤ 1
  | [], _ => ⟨.nil, rfl, by decide⟩
  | x :: xs, h => by
    unfold flatOk at h
    rw [List.all_cons] at h
    obtain ⟨h1, h2⟩ := He.ba h
    obtain ⟨i1, i2, i3⟩ := dp_flat (K := K) (H := H) (xs := xs) h2
    have key : Dp K H x (pd x) ∧ PyData.canLay0 (pd x) = true ∧ PyData.depth (pd x) = 0 := by
      cases x with
      | non => exact ⟨.non, by simp [pd, PyData.canLay0], by simp [pd, PyData.depth]⟩
      | bl b => exact ⟨.bl b, by simp [pd, PyData.canLay0], by simp [pd, PyData.depth]⟩
      | int b => exact ⟨.int b, by simp [pd, PyData.canLay0], by simp [pd, PyData.depth]⟩
      | str b => exact ⟨.str b, by simpa [pd, PyData.canLay0, flat1] using h1, by simp [pd, PyData.depth]⟩
      | _ => cases h1
    obtain ⟨k1, k2, k3⟩ := key
    refine ⟨.cons k1 i1, ?_, ?_⟩
    · show PyData.canLayAll0 (pd x :: xs.map pd) = true
      rw [PyData.canLayAll0, k2, i2]; rfl
    · show PyData.depthAll (pd x :: xs.map pd) ≤ 1
      rw [PyData.depthAll, k3]; omega
theorem shaped_flat {xs : List V} (h : flatOk xs = true) : SeqAt.shaped (.tuple (xs.map pd)) = true ∧ SeqAt.shaped (.list (xs.map pd)) = true := by
  obtain ⟨_, h2, h3⟩ := dp_flat (K := default) (H := fun _ => none) h
  unfold SeqAt.shaped
  constructor
  · rw [PyData.canLay0, h2, PyData.depth]; simp; omega
  · rw [PyData.canLay0, h2, PyData.depth]; simp; omega
section
variable {K : PySem.W.Frag} {H : Hp} {Q : VK} {a b : Addr} {xs ys : List V}
theorem o_eqTT (h1 : SqT K H a xs) (h2 : SqT K H b ys) (hx : flatOk xs = true) (hy : flatOk ys = true) (q : Q (.bl (PyData.eqvAll (xs.map pd) (ys.map pd))) H) : rEqA K (.ref a) (.ref b) H Q :=
  .inr ⟨_, _, .tup h1 (dp_flat hx).1, .tup h2 (dp_flat hy).1, (shaped_flat hx).1, (shaped_flat hy).1, by rw [PyData.eqv]; exact q⟩
theorem o_neTT (h1 : SqT K H a xs) (h2 : SqT K H b ys) (hx : flatOk xs = true) (hy : flatOk ys = true) (q : Q (.bl (!PyData.eqvAll (xs.map pd) (ys.map pd))) H) : rNeA K (.ref a) (.ref b) H Q :=
  .inr ⟨_, _, .tup h1 (dp_flat hx).1, .tup h2 (dp_flat hy).1, (shaped_flat hx).1, (shaped_flat hy).1, by rw [PyData.eqv]; exact q⟩
theorem o_eqLL (h1 : SqL K H a xs) (h2 : SqL K H b ys) (hx : flatOk xs = true) (hy : flatOk ys = true) (q : Q (.bl (PyData.eqvAll (xs.map pd) (ys.map pd))) H) : rEqA K (.ref a) (.ref b) H Q :=
  .inr ⟨_, _, .lst h1 (dp_flat hx).1, .lst h2 (dp_flat hy).1, (shaped_flat hx).2, (shaped_flat hy).2, by rw [PyData.eqv]; exact q⟩
theorem o_neLL (h1 : SqL K H a xs) (h2 : SqL K H b ys) (hx : flatOk xs = true) (hy : flatOk ys = true) (q : Q (.bl (!PyData.eqvAll (xs.map pd) (ys.map pd))) H) : rNeA K (.ref a) (.ref b) H Q :=
  .inr ⟨_, _, .lst h1 (dp_flat hx).1, .lst h2 (dp_flat hy).1, (shaped_flat hx).2, (shaped_flat hy).2, by rw [PyData.eqv]; exact q⟩
theorem eqvAll_same {xs : List V} (h : flatOk xs = true) : PyData.eqvAll (xs.map pd) (xs.map pd) = true := by
  have := SeqAt.eqv_refl (.tuple (xs.map pd)) (by rw [PyData.canLay0]; exact (dp_flat (K := default) (H := fun _ => none) h).2.1)
  rwa [PyData.eqv] at this
/-- equal ones -/
theorem o_neTsame (h1 : SqT K H a xs) (h2 : SqT K H b xs) (hx : flatOk xs = true) (q : Q (.bl false) H) : rNeA K (.ref a) (.ref b) H Q := o_neTT h1 h2 hx hx (by rw [eqvAll_same hx]; exact q)
theorem o_neLsame (h1 : SqL K H a xs) (h2 : SqL K H b xs) (hx : flatOk xs = true) (q : Q (.bl false) H) : rNeA K (.ref a) (.ref b) H Q := o_neLL h1 h2 hx hx (by rw [eqvAll_same hx]; exact q)
theorem o_eqTsame (h1 : SqT K H a xs) (h2 : SqT K H b xs) (hx : flatOk xs = true) (q : Q (.bl true) H) : rEqA K (.ref a) (.ref b) H Q := o_eqTT h1 h2 hx hx (by rw [eqvAll_same hx]; exact q)
theorem o_eqLsame (h1 : SqL K H a xs) (h2 : SqL K H b xs) (hx : flatOk xs = true) (q : Q (.bl true) H) : rEqA K (.ref a) (.ref b) H Q := o_eqLL h1 h2 hx hx (by rw [eqvAll_same hx]; exact q)
end
/-- every choice is a plain text -/
theorem chs_flat : ∀ e ∈ ENT, ∀ c ∈ chs e, PyData.strOk c = true := by
  intro e he
  simp only [ENT, List.mem_cons, List.not_mem_nil, or_false] at he
  rcases he with rfl | rfl | rfl | rfl | rfl | rfl | rfl | rfl | rfl | rfl <;> decide +kernel
end L2.MP
namespace L2.MP
open PySem PySem.Spec PyProof.Rows
section
variable {K : PySem.W.Frag} {H : Hp} {Q : VK}
theorem o_neSame {v : V} (h : scal v v = true) (q : Q (.bl false) H) : rNeA K v v H Q := .inl ⟨h, by rw [decide_eq_true rfl]; exact q⟩
theorem o_eqSame {v : V} (h : scal v v = true) (q : Q (.bl true) H) : rEqA K v v H Q := .inl ⟨h, by rw [decide_eq_true rfl]; exact q⟩
end
theorem memS {l : List Str} {i : Nat} {x : V} (h : (l.map V.str)[i]? = some x) : ∃ c, x = .str c ∧ c ∈ l := by
  obtain ⟨c, hc, rfl⟩ := List.mem_map.mp (List.mem_of_getElem? h)
  exact ⟨c, rfl, hc⟩
end L2.MP
namespace L2.MP
open PySem PySem.Spec PyProof.Rows
class ILit (xs : List V) (l : outParam (List Int)) : Prop where
  eq : xs = l.map V.int
instance : ILit [] [] := ⟨rfl⟩
instance {i : Int} {xs : List V} {l : List Int} [c : ILit xs l] : ILit (V.int i :: xs) (i :: l) := ⟨by rw [c.eq]; rfl⟩
theorem inI {p : Int} {l : List Int} : inV (.int p) (l.map V.int) = decide (p ∈ l) := by
  induction l with
  | nil => simp [inV]
  | cons a l ih =>
    rw [List.map_cons, inV, List.any_cons, ← inV, ih]
    by_cases e : a = p
    · subst e; simp [eqV]
    · have e' : p ≠ a := fun z => e z.symm
      simp [eqV, e, e']
theorem allFI (l : List Int) : (l.map V.int).all flatV = true := by
  induction l with
  | nil => rfl
  | cons a l ih => rw [List.map_cons, List.all_cons, ih]; rfl
section
variable {K : PySem.W.Frag} {H : Hp} {Q : VK} {p : Int} {a : Addr} {xs : List V} {l : List Int}
theorem o_inTI (h : SqT K H a xs) (c : ILit xs l) (q : Q (.bl (decide (p ∈ l))) H) : rInA K false (.int p) (.ref a) H Q := .inl ⟨a, _, rfl, .inr h, rfl, by rw [c.eq]; exact allFI l, by rw [c.eq, inI]; exact q⟩
theorem o_inLI (h : SqL K H a xs) (c : ILit xs l) (q : Q (.bl (decide (p ∈ l))) H) : rInA K false (.int p) (.ref a) H Q := .inl ⟨a, _, rfl, .inl h, rfl, by rw [c.eq]; exact allFI l, by rw [c.eq, inI]; exact q⟩
theorem o_ix2PT {i0 i1 : Int} (h : SqT K H a [.int i0, .int i1]) (hp : 0 ≤ p ∧ p < 2) (q : Q (.int (if p = 1 then i1 else i0)) H) : rIx K (.ref a) (.int p) H Q := by
  by_cases e : p = 1
  · subst e
    exact o_ixT h (atI_nat (j := 1) rfl) q
  · have e0 : p = 0 := by omega
    subst e0
    exact o_ixT h (atI_nat (j := 0) rfl) q
theorem o_ix2PL {i0 i1 : Int} (h : SqL K H a [.int i0, .int i1]) (hp : 0 ≤ p ∧ p < 2) (q : Q (.int (if p = 1 then i1 else i0)) H) : rIx K (.ref a) (.int p) H Q := by
  by_cases e : p = 1
  · subst e
    exact o_ixL h (atI_nat (j := 1) rfl) q
  · have e0 : p = 0 := by omega
    subst e0
    exact o_ixL h (atI_nat (j := 0) rfl) q
end
end L2.MP
namespace L2.MP
open PySem PySem.Spec PyProof.Rows
/-- no bool -/
def nb : V → Bool
  | .int _ => true
  | .str _ => true
  | .non => true
  | _ => false
theorem i_nb {K : PySem.W.Frag} {H : Hp} {Q : VK} {v : V} (h : nb v = true) (q : Q (.bl false) H) : rIsi K [v, .ty "bool"] H Q := by
  cases v <;> first | exact i_plain q | cases h
end L2.MP
namespace L2.MP
open PySem PySem.Spec PyProof.Rows
theorem o_neg {H : Hp} {Q : VK} {p : Int} (q : Q (.int (-p)) H) : rNegI (.int p) H Q := ⟨p, rfl, q⟩
theorem o_isB {H : Hp} {Q : VK} {a b : Bool} (q : Q (.bl (decide (a = b))) H) : rIsB (.bl a) (.bl b) H Q := ⟨a, b, rfl, rfl, q⟩
theorem o_ixM {K : PySem.W.Frag} {H : Hp} {Q : VK} {a : Addr} {p : Int} {xs : List V} (h : SqL K H a xs) (h0 : 0 ≤ p) (h1 : p < xs.length) (q : ∀ v, v ∈ xs → Q v H) : rIx K (.ref a) (.int p) H Q := by
  obtain ⟨m, rfl⟩ : ∃ m : Nat, p = (m : Int) := ⟨p.toNat, by omega⟩
  have hm : m < xs.length := by omega
  exact o_ixL h (atI_nat (List.getElem?_eq_getElem hm)) (q _ (List.getElem_mem hm))
end L2.MP
namespace L2.MP
open PySem PySem.Spec PyProof.Rows
/-- the strictest choice -/
def lastc (e : Str) : Str := sv (chs e) ((chs e).length - 1 : Nat)
theorem lastc_ok : ∀ e ∈ ENT, lastc e ∈ chs e ∧ fL [("join" : Str), ("stop" : Str), ("raise" : Str), ("stop" : Str), ("stop" : Str), ("stop" : Str), ("stop" : Str), ("stop" : Str), ("stop" : Str), ("stop" : Str)] e = lastc e ∧ atI ((chs e).map V.str) (-1) = some (.str (lastc e)) ∧ (sv (chs e) 0 ∈ chs e ∧ atI ((chs e).map V.str) 0 = some (.str (sv (chs e) 0))) := by
  intro e he
  simp only [ENT, List.mem_cons, List.not_mem_nil, or_false] at he
  rcases he with rfl | rfl | rfl | rfl | rfl | rfl | rfl | rfl | rfl | rfl <;> decide +kernel
section
variable {K : PySem.W.Frag} {H : Hp} {Q : VK} {e c : Str} {a : Addr}
theorem o_ixLast (h : SqL K H a ((chs e).map V.str)) (he : e ∈ ENT) (q : Q (.str (lastc e)) H) : rIx K (.ref a) (.int (-1)) H Q := o_ixL h (lastc_ok e he).2.2.1 q
theorem k_ninEntF [BookK K] (he : e ∉ ENT) (q : Q (.bl true) H) : rInA K true (.str e) (.ref (He.ga K "ENTRIES")) H Q := k_ninEnt (by rw [decide_eq_false he]; exact q)
theorem k_ninChF [BookK K] (he : e ∈ ENT) (hc : c ∉ chs e) (q : Q (.bl true) H) : rInA K true (.str c) (.ref (chA K e)) H Q := k_ninCh he (by rw [decide_eq_false hc]; exact q)
/-- the wish of an except clause without a name -/
theorem k_wOnly {c cls : Value} {ts : Addr → Value → Option Addr → TS} {Wout : WX} {σ : St} {d : Option Addr} {D : Ends} (hx : PySem.W.exmOne K cls c = some true) (q : ∀ a, H a = none → ts a cls d D σ H) : wOnly K c ts Wout D cls d σ H := ⟨true, hx, fun _ => q, fun z => nomatch z⟩
end
end L2.MP
namespace L2.MP
open PySem PySem.Spec PyProof.Rows
section
variable {σ : St} {H : Hp} {Q : VK} {C : Addr} {sp : Sp} {m : Nat} {gV : List V → List V → List V} {zs vs : List V} {tk : TA}
def RMkK (C : Addr) (m : Nat) (sp : Sp) (gV : List V → List V → List V) (zs : List V) (E : XK) (H1 : Hp) (Q : VK) : Prop := zs.length = m ∧ ∀ x dx, H1 x = none → H1 dx = none → dx ≠ x → sp (gV [.ref x] zs) (upd (upd H1 dx (.own x)) x (.ins C dx [])) (fun v H2 => v = .non ∧ Q (.ref x) H2) E
theorem k_makeKS {E : St → XK} (h : tk σ H fun zs H1 => RMkK C m sp gV zs (E σ) H1 Q) : tMakeKS C m sp gV E tk σ H Q := h
theorem k_rmkK {E : XK} (hl : zs.length = m) (hg : ∀ x, gV [x] zs = x :: vs) (q : RMk C sp vs E H Q) : RMkK C m sp gV zs E H Q := ⟨hl, fun x dx h1 h2 h3 => by rw [hg]; exact q x dx h1 h2 h3⟩
end
end L2.MP

set_option Elab.async false
set_option linter.all false
set_option maxRecDepth 100000
/-! MPCmp: dicts compared in both answers, != by an own __eq__, index of lists and tuples, copies of dicts. -/
namespace L2.MP
open PySem PySem.SeqAt L2 GQ

/-! ### dicts of flat values compared -/
def eqD (ks ls : List (Key × V)) : Bool := ks.length == ls.length && ks.all fun p => match valV ls p.1 with
  | some y => eqV p.2 y
  | none => false
section
variable {κ : Type} [DecidableEq κ]
theorem valV_memP : ∀ {kvs : List (κ × V)} {k : κ} {y : V}, valV kvs k = some y → ∃ p ∈ kvs, p.2 = y
  | [], k, y, h => by cases h
  | q :: r, k, y, h => by
    by_cases e : q.1 = k
    · rw [valV_pos e] at h; exact ⟨q, List.mem_cons_self, Option.some.inj h⟩
    · rw [valV_neg e] at h
      obtain ⟨p, hp, ee⟩ := valV_memP h
      exact ⟨p, List.mem_cons_of_mem _ hp, ee⟩
theorem hits_any {A : Around} {s : Shared} {kvs : List (κ × V)} {vb : List (κ × Value)} (rb : KV kvs vb) (fb : ∀ p ∈ kvs, flatV p.2 = true) {ks : List (κ × V)} {va : List (κ × Value)} (ra : KV ks va) :
    (∀ p ∈ ks, flatV p.2 = true) → PySem.W.KeqHits A s vb va (ks.all fun p => match valV kvs p.1 with
      | some y => eqV p.2 y
      | none => false) := by
  unfold KV at ra
  induction ra with
  | nil => intro _; exact .nil
  | @cons p q ps qs h t ih =>
    intro hp
    obtain ⟨h1, h2⟩ := h
    have f := hp p List.mem_cons_self
    have ih' := ih fun p' hm => hp p' (List.mem_cons_of_mem _ hm)
    obtain ⟨k, v⟩ := q
    have h1' : p.1 = k := h1
    rw [List.all_cons]
    have rr : RelO (valV kvs p.1) (valueAt vb p.1) := rb.val p.1
    rw [h1'] at rr ⊢
    cases e : valV kvs k with
    | none =>
      rw [e] at rr
      exact .miss (by cases e2 : valueAt vb k with
        | none => rfl
        | some y => rw [e2] at rr; exact rr.elim)
    | some y =>
      rw [e] at rr
      obtain ⟨z, hz, rz⟩ := rr.some_of
      have fy : flatV y = true := by
        obtain ⟨pp, hpp, ee⟩ := valV_memP e
        exact ee ▸ fb pp hpp
      exact .hit hz (eqAt_V h2 rz f fy) ih'
end
section
variable {X : Cx}
def rEqDD : R2 := fun x y H Q => ∃ a b ks ls, x = .ref a ∧ y = .ref b ∧ H a = some (.dK ks) ∧ H b = some (.dK ls) ∧ (∀ p ∈ ks, flatV p.2 = true) ∧ (∀ p ∈ ls, flatV p.2 = true) ∧ Q (.bl (eqD ks ls)) H
def rNeDD : R2 := fun x y H Q => ∃ a b ks ls, x = .ref a ∧ y = .ref b ∧ H a = some (.dK ks) ∧ H b = some (.dK ls) ∧ (∀ p ∈ ks, flatV p.2 = true) ∧ (∀ p ∈ ls, flatV p.2 = true) ∧ Q (.bl (!eqD ks ls)) H
theorem op_eqDD (hu : X.A.units < cLine) : OpR X (compareOp .Eq) rEqDD := by
  intro pins s σ H x y v u Q I rx ry h
  obtain ⟨a, b, ks, ls, rfl, rfl, ea, eb, fk, fl, q⟩ := h
  obtain rfl : v = Value.ref a := rx
  obtain rfl : u = Value.ref b := ry
  obtain ⟨_, ya, va, ra, da⟩ := (show ObjOk X.prog X.w H s.heap a (.dK ks) from I.hok a _ ea)
  obtain ⟨_, yb, vb, rb, db⟩ := (show ObjOk X.prog X.w H s.heap b (.dK ls) from I.hok b _ eb)
  refine PySem.W.keq_eq (knd := mixKind X.prog X.w) ya yb da db hu (fun _ => hits_any rb fl ra fk) ?_
  rw [← ra.length, ← rb.length]
  exact fin_bl I q rfl
theorem op_neDD (hu : X.A.units < cLine) : OpR X (compareOp .NotEq) rNeDD := by
  intro pins s σ H x y v u Q I rx ry h
  obtain ⟨a, b, ks, ls, rfl, rfl, ea, eb, fk, fl, q⟩ := h
  obtain rfl : v = Value.ref a := rx
  obtain rfl : u = Value.ref b := ry
  obtain ⟨_, ya, va, ra, da⟩ := (show ObjOk X.prog X.w H s.heap a (.dK ks) from I.hok a _ ea)
  obtain ⟨_, yb, vb, rb, db⟩ := (show ObjOk X.prog X.w H s.heap b (.dK ls) from I.hok b _ eb)
  refine PySem.W.keq_ne (knd := mixKind X.prog X.w) ya yb da db hu (fun _ => hits_any rb fl ra fk) ?_
  rw [← ra.length, ← rb.length]
  exact fin_bl I q rfl

/-! ### copies, index -/
def rDictA : List V → Hp → VK → Prop := fun xs H Q => ∃ (a : Addr) (kvs : List (Key × V)), xs = [.ref a] ∧ H a = some (.dK kvs) ∧ ∀ p, H p = none → Q (.ref p) (upd H p (.dK kvs))
theorem call_dictA : CallR X (.type "dict") rDictA := by
  intro pins s σ H xs us Q I r q
  obtain ⟨a, kvs, e, h, q⟩ := q
  exact call_dictD pins s σ H xs us Q I r ⟨a, kvs, e, .inl h, q⟩
def rTIndex (K : PySem.W.Frag) : V → List V → Hp → VK → Prop := fun x xs H Q => ∃ p, ∃ ys : List Str, ∃ z j, x = .ref p ∧ xs = [.str z] ∧ SqT K H p (ys.map V.str) ∧ ys[j]? = some z ∧ (∀ m, m < j → ys[m]? ≠ some z) ∧ Q (.int (j : Nat)) H
theorem mt_tindex : MtR X "tuple.index" (rTIndex X.K) := mt_tup_index
end

/-! ### != of two instances whose class has an own __eq__ and no __ne__ -/
section
open PySem.W PySem.Spec PySem.Calls PyProof.Rows
variable {prog : Program} {w : World} {A A₀ : Around} {E : Value → Shared → Prop} {s : Shared} {K : PySem.W.Frag} {x C L f : Addr} {h₀ : Heap} {m : Str → Option Value} {ox : Obj} {od : Option Obj} {name : Str} {b tb : Value}
theorem ifBoundB_K {M : Model} {id : String} {args : List Value} {Q : Option Value → Shared → Prop} (X : K.In s.heap) (I : InstAt s.heap x ox C od) (hs : findIn K (.ref C) name = some (some (.builtin id))) (S : Slot "object" name id)
    (h : wpAny M A (call (.builtin id) (.ref x :: args)) (fun v => Q (some v)) E s) : wpAny M A (callSpecialIfBound? (.ref x) name args) Q E s := by
  simp only [callSpecialIfBound?, bindSpecialIfBound?]
  refine wpAny_holding (wpAny_bind (wpAny_bind (wpAny_bind (I.type.here ((looks_findIn X hs).here ?_)))))
  refine wpAny_bind (wpAny_askSetting (wpAny_ite ?_))
  have fin : wpAny M A (call (.builtin id) ([.ref x] ++ args) >>= fun v => pure (some v)) Q E s := wpAny_bind (wpAny_mono h (fun v s' h' => wpAny_pure h') fun _ _ h' => h')
  simp only [S.bind]
  split
  · exact wpAny_bind (wpAny_pure (wpAny_pure fin))
  · exact wpAny_tryCatch (wpAny_bind (wpAny_pure (wpAny_pure fin)))
theorem objNe_K {Q : Fin → Shared → Prop} (hu : A.units < cLine) (X : K.In s.heap) (I : InstAt s.heap x ox C od) (hs : findIn K (.ref C) "__eq__" = some (some (.ref f))) (hf : isFn K (.ref f) = true)
    (hcall : wpAny (model prog w) A (call (.ref f) [.ref x, b]) (fun v s' => ∃ b, v = .bool b ∧ Q (.done (.ret (.bool (!b)))) s') E s) :
    wpAny (model prog w) A (Builtin.«object.__ne__» ⟨[.ref x, b], []⟩) Q E s := by
  obtain ⟨h, g, d, t, os⟩ := s
  unfold Builtin.«object.__ne__»
  repeat (first
    | with_reducible refine wpAny_cRoomFor hu ?_
    | (refine wpAny_bind (m := callSpecialIfBound? (.ref x) (Str.ofString "__eq__") [b])
        (ifBound_K X I hs hf (wpAny_mono hcall (fun r s' hr => by
          obtain ⟨b, rfl, hq⟩ := hr
          repeat (first | exact hq | exact wpAny_pure hq | exact wpAny_truthy_bool hq | (refine wpAny_bind (m := truthy (.bool _)) (wpAny_truthy_bool ?_)) | wp_step)) fun _ _ e => e)))
    | wp_step)
theorem tryNe_K {Q : Option Value → Shared → Prop} (hu : A.units + 1 < cLine) (X : K.In s.heap) (I : InstAt s.heap x ox C od) (hn : findIn K (.ref C) "__ne__" = some (some (.builtin "object.__ne__"))) (hb : subIn K (.ref C) (.type "object") = some true)
    (hs : findIn K (.ref C) "__eq__" = some (some (.ref f))) (hf : isFn K (.ref f) = true)
    (hcall : wpAny (model prog w) A.in1 (call (.ref f) [.ref x, b]) (fun v s' => ∃ b, v = .bool b ∧ Q (some (.bool (!b))) s') E s) :
    wpAny (model prog w) A (tryCompare (.ref x) "__ne__" b) Q E s := by
  unfold tryCompare
  refine wpAny_bind (ifBoundB_K X I hn PySem.F.cmp_object.ne (wpAny_call (codeAny_call_builtin PySem.F.cmp_object.ne.plain PySem.F.cmpEntry_ne
    (check_slot PySem.F.cmpKind_ne PySem.F.cmpSplit_ne (I.type.andThen (looks_subIn X hb)) (PySem.F.cmpArgs_ne _ _)
      (objNe_K (A := A.in1) hu X I hs hf (wpAny_mono hcall (fun v s' hv => ?_) fun _ _ e => e))))))
  · obtain ⟨b, rfl, hq⟩ := hv
    first | exact ⟨b, rfl, wpAny_pure hq⟩ | exact ⟨b, rfl, wpAny_pure (wpAny_pure hq)⟩ | exact ⟨b, rfl, hq⟩
theorem ne_K {Q : Value → Shared → Prop} (hu : A.units + 1 < cLine) (F : Fr h₀ L s.heap m) (X₀ : K.In h₀) (I : InstAt s.heap x ox C od) (hbt : Looks (model prog w) s.heap (typeOf b) tb) (hnf : notFirst K C tb = true)
    (hn : findIn K (.ref C) "__ne__" = some (some (.builtin "object.__ne__"))) (hb : subIn K (.ref C) (.type "object") = some true)
    (hs : findIn K (.ref C) "__eq__" = some (some (.ref f))) (hf : isFn K (.ref f) = true)
    (h : wpAny (model prog w) A.in1 (call (.ref f) [.ref x, b]) (fun v s' => ∃ b, v = .bool b ∧ Q (.bool (!b)) s') E s) : wpAny (model prog w) A (richCompare .NotEq (.ref x) b) Q E s := by
  have X := X₀.keeps F.keep
  have one : wpAny (model prog w) A (tryCompare (.ref x) "__ne__" b) (fun r s' => ∃ v, r = some v ∧ Q v s') E s :=
    tryNe_K hu X I hn hb hs hf (wpAny_mono h (fun v s' ⟨b, e, q⟩ => ⟨b, e, _, rfl, q⟩) fun _ _ e => e)
  unfold richCompare
  simp only [oneThing_ref]
  refine wpAny_holding (wpAny_bind (wpAny_cRoomFor (Nat.lt_of_succ_lt hu) ?_))
  refine wpAny_bind (I.type.here (wpAny_bind (hbt.here ?_)))
  split
  · rename_i q
    have e : subIn K tb (.ref C) = some false := by
      rcases Bool.or_eq_true_iff.mp hnf with e | e
      · rw [beq_iff_eq.mp e] at q; simp at q
      · exact beq_iff_eq.mp e
    refine wpAny_bind ((looks_subIn X e).here ?_)
    simp only [Bool.false_eq_true, if_false]
    refine wpAny_bind (wpAny_mono one (fun r s' z => ?_) fun _ _ e => e)
    obtain ⟨v, rfl, hq⟩ := z
    exact wpAny_pure hq
  · refine wpAny_bind (wpAny_pure ?_)
    simp only [Bool.false_eq_true, if_false]
    refine wpAny_bind (wpAny_mono one (fun r s' z => ?_) fun _ _ e => e)
    obtain ⟨v, rfl, hq⟩ := z
    exact wpAny_pure hq
end
section
variable {X : Cx} {k : Nat} {f C : Addr} {fd : FuncData} {ps : List Str} {sp : Sp}
/-- what != needs of the class at C -/
structure NeOf (K : PySem.W.Frag) (C : Addr) : Prop where
  ne : PySem.W.findIn K (.ref C) "__ne__" = some (some (.builtin "object.__ne__"))
  sub : PySem.W.subIn K (.ref C) (.type "object") = some true
def neB (K : PySem.W.Frag) (C : Addr) : Bool := decide (PySem.W.findIn K (.ref C) "__ne__" = some (some (.builtin "object.__ne__"))) && decide (PySem.W.subIn K (.ref C) (.type "object") = some true)
theorem neOf {K : PySem.W.Frag} {C : Addr} (h : neB K C = true) : NeOf K C := by
  obtain ⟨a, b⟩ := Bool.and_eq_true_iff.mp h
  exact ⟨of_decide_eq_true a, of_decide_eq_true b⟩
def rOwnNe (C : Addr) (sp : Sp) : R2 := fun x y H Q => ∃ a dx fs b dy gs, x = .ref a ∧ y = .ref b ∧ H a = some (.ins C dx fs) ∧ H b = some (.ins C dy gs) ∧ sp [.ref a, .ref b] H (fun v H' => ∃ r, v = .bl r ∧ Q (.bl (!r)) H') E0
theorem rc_ownNe (F : FnOk X.prog X.w X.K X.mg X.base (L2.CX X.prog X.w) k f fd ps sp) (hr : Room (k + 1) X.A) (hb : Binds X.K fd ps []) (hn : PySem.W.notFirst X.K C (.ref C) = true) (hn2 : neB X.K C = true) (hs : Spc X.K C "__eq__" f) : OpR X (compareOp .NotEq) (rOwnNe C sp) := by
  have hne := neOf hn2
  rintro pins s σ H x y v u Q I rx ry ⟨a, dx, fs, b, dy, gs, rfl, rfl, ha, hbb, q⟩
  cases rx
  cases ry
  obtain ⟨od, J⟩ := inst_of I ha
  obtain ⟨od2, J2⟩ := inst_of I hbb
  obtain ⟨m, fr⟩ := I.fr
  have rv : Vals [V.ref a, V.ref b] [Value.ref a, Value.ref b] := .cons rfl (.cons rfl .nil)
  unfold compareOp
  refine ne_K (by have := hr.un; omega) fr I.mod.kin J J2.type hn hne.ne hne.sub hs.at_ hs.fn ?_
  refine wpAny_mono (wpAny_call (codeAny_mono (F.run X.A.in1 X.stack s H ⟨[.ref a, .ref b], []⟩ [.ref a, .ref b] [.ref a, .ref b] _ E0 hr.in1 I.env0.in1 (hb s _ I.kIn ?_) rv q) fun r s' hq => back_of (passL0 (σ := σ)) I hq)) ?_ fun _ _ e => e
  · exact F.len _ _ _ _ q
  · rintro u s1 ⟨w, H1, I1, rw', r, rfl, q1⟩
    cases rw'
    exact ⟨r, rfl, .bl (!r), H1, I1, rfl, q1⟩
end

/-! ### methods of the written tuples of choices -/
section
variable {K : PySem.W.Frag} {H : Hp} {Q : VK} {σ : St} {tr : TA} {e : Str} {ro : V → List V → Hp → VK → Prop}
def chDB (K : PySem.W.Frag) : Bool := ENT.all fun e => match K.lookup (chA K e) with
  | some o => decide (o.cls = .type "tuple") && o.dict.isNone
  | none => false
theorem k_rbmT (h : chDB K = true) (he : e ∈ ENT) (q : tr σ H fun xs H2 => ro (.ref (chA K e)) xs H2 Q) : RBM K "tuple" ro tr σ Q (.ref (chA K e)) H := by
  have h1 := List.all_eq_true.mp h e he
  split at h1
  · rename_i o eo
    obtain ⟨h2, h3⟩ := He.ba h1
    exact ⟨.inr (.inl ⟨rfl, o, eo, of_decide_eq_true h2, Option.isNone_iff_eq_none.mp h3⟩), q⟩
  · cases h1
end
end L2.MP

set_option Elab.async false
set_option linter.all false
set_option maxRecDepth 100000
set_option maxHeartbeats 4000000
/-! super().m(..) as a statement of a method's own text. -/
namespace L2.MP
open PySem PySem.Spec PyProof.Rows L2 NdefX
/-- a block at the top of a def's body: the code that runs is known -/
structure PSA (X : Cx) (c : Code) (st : List Stmt) (t : TS) : Prop where
  run : ∀ (pins : List (Addr × Obj)) (s : Shared) (σ : L2.St) (H : Hp) (D : Ends), Inv X pins σ H s → t D σ H → PySem.wpAt (model X.prog X.w) X.A c (execs st X.env) (SP X pins D) X.xe s
section
variable {X : Cx} {c : Code} {st : Stmt} {rest : List Stmt} {t u : TS}
theorem psa_of {l : List Stmt} (h : PSs X l t) : PSA X c l t := ⟨fun pins s σ H D I q => wpAt_of_wpAny (h.run pins s σ H D I q)⟩
theorem psa_cons (h1 : PS X st t) (h2 : PSA X c rest u) : PSA X c (st :: rest) (tSeq t u) := by
  refine ⟨fun pins s σ H D I h => ?_⟩
  refine PySem.ks_wpAt_execs_cons (wpAt_of_wpAny (thn (h1.run pins s σ H { D with nx := u D } I h) fun f s1 q => ?_))
  cases f with
  | next =>
    obtain ⟨σ', H', I', q⟩ := q
    exact h2.run pins s1 σ' H' D I' q
  | ret v => exact q
  | brk => exact q
  | cont => exact q
end
/-- what the written part says of the running method: the class D that its text stands in -/
structure SupK (K : PySem.W.Frag) (P : Program) (f c cc D : Addr) (fd : FuncData) (ar : Str) : Prop where
  fn : ∃ (oc : Value) (od : Option Addr) (osl : Array (Option Value)), K.lookup f = some ⟨oc, od, .func fd, osl⟩
  par : (fd.params.posonlyargs ++ fd.params.args).head?.map (·.arg) = some ar
  cd : ∃ (oc : Value) (od : Option Addr) (vs : Array Value) (osl : Array (Option Value)) (file : Str) (tf : Tok), K.lookup c = some ⟨oc, od, .fields vs, osl⟩ ∧ vs[2]? = some (.str file tf) ∧ ((P.main.file : Str) == file) = true
  cell : ∃ (oc : Value) (od : Option Addr) (osl : Array (Option Value)), K.lookup cc = some ⟨oc, od, .cell (some (.ref D)), osl⟩
  cls : ∃ cd, PySem.W.clsIn K D = some cd
  opq : PySem.W.nsIn K cStatics "thirdparty.any" = some none
  top : (P.main.scope.names.lookup ("super" : Str)).isSome = false
/-- instances of C reach the def at f2 by super().m -/
structure SupC (K : PySem.W.Frag) (C D : Addr) (m : Str) (f2 : Addr) : Prop where
  sub : PySem.W.mroIn K C (.ref D) = some true
  at_ : PySem.W.ks_superIn K C D m = some (some (.ref f2))
  isf : PySem.W.isFn K (.ref f2) = true
  fnI : PySem.W.fnIn K f2 = true
  ty : PySem.W.typeIn K (.ref f2) = some (.type "function")
/-- super().m(..): Cs the classes that the receiver may be of -/
def tSup (Cs : List Addr) (sp : Sp) (E : St → XK) (ta : TA) : TS := fun D σ H => ∃ a C dx fs, σ[0]? = some (some (.ref a)) ∧ C ∈ Cs ∧ H a = some (.ins C dx fs) ∧
  ta σ H fun vs H1 => sp (.ref a :: vs) H1 (fun _ H2 => D.nx σ H2) (E σ)
section
variable {X : Cx} {CX : CXT} {k : Nat} {f c cc D f2 : Addr} {fd fd2 : FuncData} {ps : List Str} {sp : Sp} {E : St → XK} {Cs : List Addr} {m ar : Str} {e : Expr} {es : List Expr} {ta : TA} {p0 p1 apos pos p2 : Pos}
theorem sup_run {pl : Sem Bool} {body : List Stmt} (hs : SupK X.K X.prog f c cc D fd ar) (hc : ∀ C ∈ Cs, SupC X.K C D m f2) (F : FnOk X.prog X.w X.K X.mg X.base CX k f2 fd2 ps sp) (hr : Room k X.A) (hb : Binds X.K fd2 ps []) (hx : ∀ σ, PassesAt CX X σ (E σ))
    (ha : PA X (e :: es) ta) (hm : X.mg ("super" : Str) = none) (hN : X.N[0]? = some ar) (hfu : X.env.func = some f) (hcode : X.env.code = .ref c) (hcells : X.env.cells.lookup ("__class__" : Str) = some cc)
    (hks : X.env.kindOf ("super" : Str) = some .globalImplicit) (hkc : X.env.kindOf ("__class__" : Str) = some .free) (hka : X.env.kindOf ar = some .local)
    (hat : (m == ("__class__" : Str)) = false)
    (hst : starEach (e :: es) X.env = (false, eval e X.env) :: starEach es X.env) (hpl : (backTo pos (starEach es X.env)).any (·.1) = false)
    (ht : eval (.Call (.Attribute (.Call (.Name "super" p0) [] [] p1) m apos) (e :: es) [] pos) X.env = (do
      let ov ← attributeBase (.Call (.Name "super" p0) [] [] p1) m X.env (eval (.Call (.Name "super" p0) [] [] p1) X.env)
      standAt apos.atName
      let (f, first) ← holding [ov] (getMethod ov m pl)
      callWith pos f first (backTo pos (starEach (e :: es) X.env)) []))
    (hi : interactive X.env = false) (hsw : swapsWith (.Call (.Attribute (.Call (.Name "super" p0) [] [] p1) m apos) (e :: es) [] pos) none p2.line X.env = pure false)
    {pins : List (Addr × Obj)} {s : Shared} {σ : L2.St} {H : Hp} {DD : Ends} (I : Inv X pins σ H s) (h : tSup Cs sp E ta DD σ H) {R : Shared → Prop} (hR : ∀ s' H', Inv X pins σ H' s' → DD.nx σ H' → R s') :
    PySem.wpAt (model X.prog X.w) X.A (.func body X.env) (exec (.Expr (.Call (.Attribute (.Call (.Name "super" p0) [] [] p1) m apos) (e :: es) [] pos) p2) X.env) (fun fl s' => fl = .next ∧ R s') X.xe s := by
  obtain ⟨a, C, dx, fs, hσ, hC, hH, h⟩ := h
  have hcC := hc C hC
  obtain ⟨oc, od, osl, lf⟩ := hs.fn
  obtain ⟨oc1, od1, vs1, osl1, file, tf, lc, hv2, hfile⟩ := hs.cd
  obtain ⟨oc2, od2, osl2, lcc⟩ := hs.cell
  obtain ⟨cdD, hD⟩ := hs.cls
  have KX : X.K.In s.heap := I.kIn
  obtain ⟨arg, harg, rfl⟩ : ∃ arg, (fd.params.posonlyargs ++ fd.params.args).head? = some arg ∧ arg.arg = ar := by
    have q := hs.par
    cases z : (fd.params.posonlyargs ++ fd.params.args).head? with
    | none => rw [z] at q; cases q
    | some g => rw [z] at q; exact ⟨g, rfl, Option.some.inj q⟩
  obtain ⟨oD, hD1, hD2⟩ : ∃ oD, s.heap.get? D = some oD ∧ oD.data = .cls cdD := by
    unfold PySem.W.clsIn at hD
    split at hD
    · rename_i c d cd' sl ho
      cases hD
      exact ⟨_, KX _ _ ho, rfl⟩
    · cases hD
  obtain ⟨mA, O, _⟩ := ins_get I.hok hH
  obtain ⟨oda, J, _⟩ := O.look
  refine PySem.ks_wpAt_Expr_any ?_ hi hsw
  refine PySem.ks_wpAt_MethodCall ?_ ht
  refine PySem.ks_wpAt_super_base hks hkc hat hfu (KX _ _ lf) rfl harg hcode (KX _ _ lc) rfl hv2 hfile hs.top ?_
  obtain ⟨mb, hb1, hb2⟩ := I.mod.blt
  refine PySem.W.ks_loadName_global I.ok.kind hks (Calls.loadGlobal_builtin (by rw [I.ok.glob]; exact I.mod.glob.keeps I.bk) hm (by rw [I.ok.blt]; exact hb1.keeps I.bk) ((hb2 _ (by decide)).trans (by first | exact PySem.boot_super | kernel_rfl)) ⟨rfl, ?_⟩)
  refine wpAny_loadName_free I.ok.kind hkc hcells ⟨_, KX _ _ lcc, rfl⟩ ?_
  obtain ⟨ml, hn, hl⟩ := I.loc
  obtain ⟨u, ru, lk⟩ := hl 0 _ (.ref a) hN hσ (.inl hka)
  obtain rfl : u = .ref a := ru
  have hml : ml arg.arg = some (.ref a) := by
    rcases lk with ⟨_, z⟩ | ⟨z, _⟩
    · exact z
    · rw [hka] at z
      rcases z with z | z <;> cases z
  refine wpAny_loadName_local I.ok.kind hka hn hml ?_
  refine PySem.ks_wpAny_isType_cls hD1 hD2 ⟨rfl, ?_⟩
  have hnc : ∀ cdx, (PySem.W.instObj C dx).data ≠ .cls cdx := fun cdx z => by cases z
  obtain ⟨hh, g, d, tk, os⟩ := s
  refine PySem.ks_wpAny_call_super hD1 hD2 J.at_ J.cls hnc (PySem.W.looks_mroIn KX hcC.sub) (fun h' e1 k1 => ?_)
  have I1 : Inv X pins σ H ⟨h', g, d, tk, os⟩ := I.kept k1
  have KX1 : X.K.In h' := I1.kIn
  have hne : hh.objs.size ∉ [a] := fun z => by
    rw [List.mem_singleton] at z
    exact absurd (Heap.lt_size J.at_) (by rw [← z]; exact Nat.lt_irrefl _)
  cases hcc : PySem.W.clsIn X.K C with
  | none =>
    have := hcC.at_
    unfold PySem.W.ks_superIn at this
    rw [hcc] at this
    cases this
  | some cd =>
    have hsu := hcC.at_
    unfold PySem.W.ks_superIn at hsu
    rw [hcc] at hsu
    obtain ⟨of, hof, hofc⟩ : ∃ of, h'.get? f2 = some of ∧ of.cls = .type "function" := by
      have ht' : (X.K.lookup f2).map (·.cls) = some (.type "function") := hcC.ty
      cases z : X.K.lookup f2 with
      | none => rw [z] at ht'; cases ht'
      | some of => rw [z] at ht'; exact ⟨of, KX1 _ _ z, Option.some.inj ht'⟩
    obtain ⟨mA1, O1, _⟩ := ins_get I1.hok hH
    obtain ⟨oda1, J1, _⟩ := O1.look
    refine PySem.ks_wpAny_getMethod_super e1 (PySem.W.looks_opaque KX1 hs.opq) (l₀ := cd.mro) ?_ rfl KX1 hsu hof hofc (PySem.W.ks_ne KX1 J1 hcc) hat ?_
    · exact fun A Q E s k q => wpAny_bind ((PySem.W.looks_clsIn KX1 hcc) A _ E s k (wpAny_pure q))
    · have hq0 : H h'.objs.size = none := I1.hok.fresh (Nat.le_refl _)
      have I2 : Inv X (pins ++ [(h'.objs.size, PySem.W.methodObj (.ref f2) (.ref a))]) σ H ⟨h'.push (PySem.W.methodObj (.ref f2) (.ref a)), g, d, tk + 1, os⟩ := by
        have I3 : Inv X pins σ H ⟨h'.push (PySem.W.methodObj (.ref f2) (.ref a)), g, d, tk + 1, os⟩ := I1.kept (t' := tk + 1) fun b u z => Heap.get?_push_of_some _ z
        refine I3.pins_of fun p hp => ?_
        rcases List.mem_append.mp hp with z | z
        · exact I3.pin p (List.mem_append_right _ z)
        · rw [List.mem_singleton.mp z]
          refine ⟨Heap.get?_push_size h' rfl, hq0, fun z => ?_, I1.nofs (Nat.le_refl _), fun v z => by cases z⟩
          exact absurd I1.lt (by rw [← z]; exact Nat.lt_irrefl _)
      rw [hst]
      refine callwith_met (a := a) (g := f2) (by show (false || (backTo pos (starEach es X.env)).any (·.1) || _) = false; rw [hpl]; rfl) hcC.fnI ?_
      refine PySem.Calls.evalArgs_plain ?_
      have hrun := ha.run pos _ _ σ _ _ I2 h
      rw [hst] at hrun
      refine thn hrun fun us s3 ⟨vs, H3, I3, r3, q3⟩ => ?_
      have hpin := (I3.pin (h'.objs.size, PySem.W.methodObj (.ref f2) (.ref a)) (List.mem_append_right _ (List.mem_append_right _ (List.mem_singleton.mpr rfl)))).1
      refine ⟨⟨hpin, I3.kIn⟩, ?_⟩
      have r2 : Vals (.ref a :: vs) (.ref a :: us) := .cons rfl r3
      have hl2 : (.ref a :: us : List Value).length = ps.length := by rw [← r2.length]; exact F.len _ _ _ _ q3
      refine wpAny_call (PySem.W.method_call hpin (codeAny_mono (F.run X.A X.stack s3 H3 ⟨.ref a :: us, []⟩ (.ref a :: us) (.ref a :: vs) _ (E σ) hr I3.env0 ?_ r2 q3) fun r s' hq => ?_))
      · have z := hb s3 (.ref a :: us) I3.kIn (by rw [List.append_nil]; exact hl2)
        rw [List.append_nil] at z
        exact z
      · cases r with
        | error e => exact hx σ _ H3 s3 e s' I3 hq
        | ok fl =>
          cases fl with
          | ret u =>
            obtain ⟨v, H4, I4, _, q4⟩ := I3.after hq
            exact ⟨rfl, hR s' H4 I4.unpinned q4⟩
          | next => exact False.elim hq
          | brk => exact False.elim hq
          | cont => exact False.elim hq
/-- the statement, then the rest of the body -/
theorem psa_sup {pl : Sem Bool} {body rest : List Stmt} {u : TS} (hs : SupK X.K X.prog f c cc D fd ar) (hc : ∀ C ∈ Cs, SupC X.K C D m f2) (F : FnOk X.prog X.w X.K X.mg X.base CX k f2 fd2 ps sp) (hr : Room k X.A) (hb : Binds X.K fd2 ps []) (hx : ∀ σ, PassesAt CX X σ (E σ))
    (ha : PA X (e :: es) ta) (hm : X.mg ("super" : Str) = none) (hN : X.N[0]? = some ar) (hfu : X.env.func = some f) (hcode : X.env.code = .ref c) (hcells : X.env.cells.lookup ("__class__" : Str) = some cc) (hrest : PSA X (.func body X.env) rest u)
    (hks : X.env.kindOf ("super" : Str) = some .globalImplicit := by rfl) (hkc : X.env.kindOf ("__class__" : Str) = some .free := by rfl) (hka : X.env.kindOf ar = some .local := by rfl)
    (hat : (m == ("__class__" : Str)) = false := by decide)
    (hst : starEach (e :: es) X.env = (false, eval e X.env) :: starEach es X.env := by rfl) (hpl : (backTo pos (starEach es X.env)).any (·.1) = false := by rfl)
    (ht : eval (.Call (.Attribute (.Call (.Name "super" p0) [] [] p1) m apos) (e :: es) [] pos) X.env = (do
      let ov ← attributeBase (.Call (.Name "super" p0) [] [] p1) m X.env (eval (.Call (.Name "super" p0) [] [] p1) X.env)
      standAt apos.atName
      let (f, first) ← holding [ov] (getMethod ov m pl)
      callWith pos f first (backTo pos (starEach (e :: es) X.env)) []) := by rfl)
    (hi : interactive X.env = false := by rfl) (hsw : swapsWith (.Call (.Attribute (.Call (.Name "super" p0) [] [] p1) m apos) (e :: es) [] pos) none p2.line X.env = pure false := by rfl) :
    PSA X (.func body X.env) (.Expr (.Call (.Attribute (.Call (.Name "super" p0) [] [] p1) m apos) (e :: es) [] pos) p2 :: rest) (tSeq (tSup Cs sp E ta) u) := by
  refine ⟨fun pins s σ H DD I h => ?_⟩
  refine PySem.ks_wpAt_execs_cons (PySem.ks_wpAt_mono (sup_run (pl := pl) (body := body) (DD := { DD with nx := u DD }) hs hc F hr hb hx ha hm hN hfu hcode hcells hks hkc hka hat hst hpl ht hi hsw I h (R := fun s' => PySem.wpAt (model X.prog X.w) X.A (.func body X.env) (execs rest X.env) (SP X pins DD) X.xe s') fun s' H' I' q => hrest.run pins s' σ H' DD I' q) (fun fl s' ⟨e, q⟩ => ?_) fun _ _ z => z)
  subst e
  exact q
end
/-! ### a def that captures __class__ -/
def nfC (x qual : Str) (params : Arguments) (body : List Stmt) (scope : Scope) (c cc : Addr) : NF := ⟨x, qual, params, body, scope, [("__class__", cc)], c⟩
/-- its context -/
abbrev ccx (CX : CXT) (P : Program) (w : World) (K : PySem.W.Frag) (mg : Str → Option Value) (base : Heap) (N : List Str) (qual : Str) (scope : Scope) (f c cc : Addr) (A : Around) (outer : List Env) (s : Shared) (H : Hp) (E : XK) : Cx :=
  ncx CX P w K mg base N (nfC "" qual (defArgs (.Pass ⟨0, 0, 0, 0⟩)) [] scope c cc) f A outer s H E
theorem startF_start {N : List Str} {vs : List V} (h : vs.length < N.length) : startF N vs [none] = start N vs := by
  unfold startF start
  congr 1
  obtain ⟨m, hm⟩ : ∃ m, N.length - vs.length = m + 1 := ⟨N.length - vs.length - 1, by omega⟩
  rw [List.length_singleton, hm, List.replicate_succ, show m + 1 - 1 = m from rfl]
  rfl
section
variable {CX : CXT} {P : Program} {w : World} {K : PySem.W.Frag} {mg : Str → Option Value} {base : Heap} {N ps : List Str} {x qual : Str} {params : Arguments} {body : List Stmt} {scope : Scope} {f c cc : Addr} {fd : FuncData} {k : Nat} {sp : Sp}
theorem FunC.ok (F : FunC K x qual params body scope f fd c cc) (hcell : ∃ (oc : Value) (od : Option Addr) (v : Option Value) (osl : Array (Option Value)), K.lookup cc = some ⟨oc, od, .cell v, osl⟩) (S : NScope N ps ["__class__"] scope)
    (len : ∀ vs H Q E, sp vs H Q E → vs.length = ps.length)
    (hbody : ∀ (A : Around) (outer : List Env) (s : Shared) (H : Hp) (vs : List V) (Q : VK) (E : XK), Room k (A.deeper (PySem.W.envX qual scope s.heap.objs.size f (.ref c) [("__class__", cc)])) → sp vs H Q E →
      ∃ t, PSA (ccx CX P w K mg base N qual scope f c cc A outer s H E) (.func body (ccx CX P w K mg base N qual scope f c cc A outer s H E).env) body t ∧ t { nx := fun _ H' => Q .non H', rt := Q } (start N vs) H) : FnOk P w K mg base CX (k + 1) f fd ps sp := by
  obtain ⟨oc, od, kV, doc, pm, an, ct, osl, rfl, lk⟩ := F.ex
  refine ⟨len, fun A outer s H args us vs Q E hr e0 hb r hsp => ?_⟩
  have hl := len _ _ _ _ hsp
  have KX : K.In s.heap := e0.mod.kin.keeps fun b o e => (e0.bs b o e).1
  have lim : s.heap.NoLimit := e0.mod.nolimit.keeps fun b o e => (e0.bs b o e).1
  have hloc : ∀ y ∈ ps.zip us, scope.names.lookup y.1 = some .local := fun ⟨n, v⟩ hy => S.par n (List.of_mem_zip hy).1
  obtain ⟨oc2, od2, v2, osl2, hcc⟩ := hcell
  have hpl : ps.length + 1 ≤ N.length := by
    have q := congrArg List.length S.pre
    rw [List.length_take, List.length_append, List.length_singleton] at q
    omega
  refine PySem.ks_codeAny_call_defAt (fd := PySem.W.fnX x qual params body scope [("__class__", cc)] .none kV doc pm an (.ref c) ct) (body := body) (binds := ps.zip us) hr.depth (KX _ _ lk) rfl lim (PySem.W.codeRec_of KX F.cd) rfl hb (fun y hy => S.nocell y hy) hloc (fun h₁ hns hk₁ => ?_) S.co S.gen S.kind
  obtain ⟨t, ht, hq⟩ := hbody A outer s H vs Q E (hr.deeper _) hsp
  have hbase : base.get? cc = some ⟨oc2, od2, .cell v2, osl2⟩ := e0.mod.kin _ _ hcc
  have C : CellsAt [(("__class__" : Str), cc)] ["__class__"] [none] s.heap H := by
    refine ⟨rfl, fun y c e => ?_, fun x y c e1 e2 => ?_, fun i y e => ?_⟩
    · have : c = cc := by
        simp only [List.lookup] at e
        split at e
        · exact (Option.some.inj e).symm
        · cases e
      subst this
      exact ⟨(e0.bs _ _ hbase).2, v2, _, (e0.bs _ _ hbase).1, rfl⟩
    · simp only [List.lookup] at e1 e2
      split at e1
      · rename_i z1
        split at e2
        · rename_i z2
          exact (eq_of_beq z1).trans (eq_of_beq z2).symm
        · cases e2
      · cases e1
    · rcases i with _ | i
      · simp at e
        subst e
        exact ⟨cc, by simp [List.lookup], fun v z => by simp at z⟩
      · simp at e
  have I : Inv (ccx CX P w K mg base N qual scope f c cc A outer s H E) [] (startF N vs [none]) H { s with heap := h₁, toks := s.toks + (ps.zip us).length } := inv_startN S hr.hd e0 hl r C hns hk₁
  rw [startF_start (by omega)] at I
  refine PySem.ks_wpAt_mono (ht.run [] _ (start N vs) H _ I hq) (fun fl s' hs => ?_) fun e s' hs => hs
  have fin : ∀ {σ' : L2.St} {H' : Hp} {v : V} {u : Value}, Inv (ccx CX P w K mg base N qual scope f c cc A outer s H E) [] σ' H' s' → L2.RelV v u → Q v H' → CE outer P w H s Q u s' :=
    fun {σ' H' v u} J rv q => ⟨v, H', J.os, J.bare, J.base, J.hok, rv, q⟩
  cases fl with
  | ret u =>
    obtain ⟨v, σ', H', J, rv, q⟩ := hs
    exact fin J rv q
  | next =>
    obtain ⟨σ', H', J, q⟩ := hs
    exact fin (v := V.non) (u := Value.none) J rfl q
  | brk =>
    obtain ⟨_, _, _, q⟩ := hs
    exact False.elim q
  | cont =>
    obtain ⟨_, _, _, q⟩ := hs
    exact False.elim q
theorem FunC.bindsN (F : FunC K x qual params body scope f fd c cc)
    (h : ∀ (kV doc pm : Value) (an : Option Addr) (ct : Value) (us : List Value), us.length = ps.length → bindArgs (PySem.W.fnX x qual params body scope [("__class__", cc)] .none kV doc pm an (.ref c) ct) ⟨us, []⟩ = pure (ps.zip us)) : Binds K fd ps [] := by
  obtain ⟨oc, od, kV, doc, pm, an, ct, osl, rfl, lk⟩ := F.ex
  exact .all (h kV doc pm an ct)
end
end L2.MP
namespace L2.MP
open PySem PySem.Spec PyProof.Rows L2
/-! ### the facts by Bools -/
def supKB (P : Program) (d : DefM) (x ar : Str) (K : PySem.W.Frag) : Bool :=
  (match K.lookup (d.adr K) with
  | some ⟨_, _, .func fd, _⟩ => decide ((fd.params.posonlyargs ++ fd.params.args).head?.map (·.arg) = some ar)
  | _ => false) && ((match K.lookup (cdAt K (d.adr K)) with
  | some ⟨_, _, .fields vs, _⟩ => (match (vs[2]? : Option Value) with | some (Value.str file _) => (P.main.file : Str) == file | _ => false)
  | _ => false) && ((match K.lookup (ccAt K (d.adr K)) with
  | some ⟨_, _, .cell (some (.ref D)), _⟩ => decide (D = He.ga K x)
  | _ => false) && ((PySem.W.clsIn K (He.ga K x)).isSome && (decide (PySem.W.nsIn K cStatics "thirdparty.any" = some none) && !(P.main.scope.names.lookup ("super" : Str)).isSome))))
theorem supKB_ok {P : Program} {d : DefM} {x ar : Str} {K : PySem.W.Frag} (h : supKB P d x ar K = true) : SupK K P (d.adr K) (cdAt K (d.adr K)) (ccAt K (d.adr K)) (He.ga K x) (fdAt K (d.adr K)) ar := by
  obtain ⟨h1, h⟩ := He.ba h
  obtain ⟨h2, h⟩ := He.ba h
  obtain ⟨h3, h⟩ := He.ba h
  obtain ⟨h4, h⟩ := He.ba h
  obtain ⟨h5, h6⟩ := He.ba h
  have e1 : ∃ oc od fd osl, K.lookup (d.adr K) = some ⟨oc, od, .func fd, osl⟩ := by
    split at h1
    · rename_i q
      exact ⟨_, _, _, _, q⟩
    · cases h1
  obtain ⟨oc, od, fd, osl, q1⟩ := e1
  have ef : fdAt K (d.adr K) = fd := by unfold fdAt; rw [q1]
  rw [ef]
  rw [q1] at h1
  refine ⟨⟨oc, od, osl, q1⟩, of_decide_eq_true h1, ?_, ?_, Option.isSome_iff_exists.mp h4, of_decide_eq_true h5, by simpa using h6⟩
  · split at h2
    · rename_i q
      split at h2
      · rename_i e2
        exact ⟨_, _, _, _, _, _, q, e2, h2⟩
      · cases h2
    · cases h2
  · split at h3
    · rename_i q
      rw [of_decide_eq_true h3] at q
      exact ⟨_, _, _, q⟩
    · cases h3
def supCB (x y m : Str) (f2 : PySem.W.Frag → Addr) (K : PySem.W.Frag) : Bool :=
  decide (PySem.W.mroIn K (He.ga K x) (.ref (He.ga K y)) = some true) && (He.eqO (PySem.W.ks_superIn K (He.ga K x) (He.ga K y) m) (some (some (.ref (f2 K)))) && (PySem.W.isFn K (.ref (f2 K)) && (PySem.W.fnIn K (f2 K) && decide (PySem.W.typeIn K (.ref (f2 K)) = some (.type "function")))))
theorem supCB_ok {x y m : Str} {f2 : PySem.W.Frag → Addr} {K : PySem.W.Frag} (h : supCB x y m f2 K = true) : SupC K (He.ga K x) (He.ga K y) m (f2 K) := by
  obtain ⟨h1, h⟩ := He.ba h
  obtain ⟨h2, h⟩ := He.ba h
  obtain ⟨h3, h⟩ := He.ba h
  obtain ⟨h4, h5⟩ := He.ba h
  exact ⟨of_decide_eq_true h1, He.eqO_ok h2, h3, h4, of_decide_eq_true h5⟩
theorem fa_nil {α : Type} {Q : α → Prop} : ∀ p ∈ ([] : List α), Q p := fun p hp => by cases hp
theorem fa_cons {α : Type} {Q : α → Prop} {x : α} {l : List α} (h : Q x) (t : ∀ p ∈ l, Q p) : ∀ p ∈ x :: l, Q p := fun p hp => by
  rcases List.mem_cons.mp hp with rfl | hp
  · exact h
  · exact t p hp
/-! ### o.m(..), the receiver of one of several classes -/
def RDyn (ls : List (Addr × Sp)) (m : Str) (dvs : List V) (E : XK) (t : TA) (σ : L2.St) (x : V) (H : Hp) (Q : VK) : Prop := ∃ p ∈ ls, ∃ a dx fs, x = .ref a ∧ H a = some (.ins p.1 dx fs) ∧ fs.lookup m = none ∧ t σ H fun vs H2 => p.2 (x :: (vs ++ dvs)) H2 Q E
def tDyn (ls : List (Addr × Sp)) (m : Str) (dvs : List V) (E : St → XK) (ta : TE) (t : TA) : TE := fun σ H Q => ta σ H fun x H1 => RDyn ls m dvs (E σ) t σ x H1 Q
/-- what of the text a class and its method m have -/
def DynOk (X : Cx) (CX : CXT) (k : Nat) (m : Str) (ds : List Value) (p : Addr × Sp) : Prop := ∃ f fd ps, Cls X.K p.1 ∧ Meth X.K p.1 m f ∧ FnOk X.prog X.w X.K X.mg X.base CX k f fd ps p.2 ∧ Binds X.K fd ps ds
section
variable {X : Cx} {CX : CXT} {k : Nat} {ls : List (Addr × Sp)} {m : Str} {dvs : List V} {ds : List Value} {E : St → XK} {ta : TE} {t : TA} {o e : Expr} {es : List Expr} {apos pos : Pos}
theorem pe_dyn {pl : Sem Bool} (he : PE X o ta) (hl : ∀ p ∈ ls, DynOk X CX k m ds p) (hr : Room k X.A) (hd : Vals dvs ds) (hx : ∀ σ, PassesAt CX X σ (E σ)) (ha : PA X (e :: es) t)
    (hst : starEach (e :: es) X.env = (false, eval e X.env) :: starEach es X.env := by rfl) (hpl : (backTo pos (starEach es X.env)).any (·.1) = false := by rfl)
    (ht : eval (.Call (.Attribute o m apos) (e :: es) [] pos) X.env = (eval o X.env >>= fun ov => standAt apos.atName >>= fun _ => holding [ov] (getMethod ov m pl) >>= fun z =>
      callWith pos z.1 z.2 (backTo pos (starEach (e :: es) X.env)) (backToKw pos (keywordEach [] X.env))) := by rfl) :
    PE X (.Call (.Attribute o m apos) (e :: es) [] pos) (tDyn ls m dvs E ta t) := by
  refine ⟨fun pins s σ H Q I h => PySem.W.methodCall_KW (pl := pl) (thn (he.run pins s σ H _ I h) ?_) ht⟩
  rintro u s1 ⟨x, H1, I1, rx, p, hp, a, dx, fs, rfl, ea, l, q⟩
  obtain ⟨f, fd, ps, c, hm, F, hb⟩ := hl p hp
  obtain rfl : u = Value.ref a := rx
  exact getmeth_ok I1 ea c hm l (PySem.W.callWith_K (first := [.ref a]) (h₀ := X.base) I.ok.mod.kin hm.kp
    (thn (ha.run pos pins s1 σ H1 _ I1 q) fun us s2 ⟨vs, H2, I2, r, q2⟩ => ⟨I2.kIn, run_fnSD (us := .ref a :: us) (vs := .ref a :: vs) F hr hb hd (hx σ) I2 (.cons rfl r) q2⟩) hst hpl)
theorem pe_dyn0 {pl : Sem Bool} (he : PE X o ta) (hl : ∀ p ∈ ls, DynOk X CX k m ds p) (hr : Room k X.A) (hd : Vals dvs ds) (hx : ∀ σ, PassesAt CX X σ (E σ))
    (ht : eval (.Call (.Attribute o m apos) [] [] pos) X.env = (eval o X.env >>= fun ov => standAt apos.atName >>= fun _ => holding [ov] (getMethod ov m pl) >>= fun z =>
      callWith pos z.1 z.2 (backTo pos (starEach [] X.env)) (backToKw pos (keywordEach [] X.env))) := by rfl) :
    PE X (.Call (.Attribute o m apos) [] [] pos) (tDyn ls m dvs E ta tNil) := by
  refine ⟨fun pins s σ H Q I h => PySem.W.methodCall_KW (pl := pl) (thn (he.run pins s σ H _ I h) ?_) ht⟩
  rintro u s1 ⟨x, H1, I1, rx, p, hp, a, dx, fs, rfl, ea, l, q⟩
  obtain ⟨f, fd, ps, c, hm, F, hb⟩ := hl p hp
  obtain rfl : u = Value.ref a := rx
  exact getmeth_ok I1 ea c hm l (PySem.W.callWith_K0 (first := [.ref a]) I1.kIn hm.kp (run_fnSD (us := [.ref a]) (vs := [.ref a]) F hr hb hd (hx σ) I1 (.cons rfl .nil) q))
end
/-! ### steps -/
class DynC (C : Addr) (ls : List (Addr × Sp)) (sp : outParam Sp) : Prop where
  mem : (C, sp) ∈ ls
instance {C : Addr} {ls : List (Addr × Sp)} {sp : Sp} {p : Addr × Sp} [c : DynC C ls sp] : DynC C (p :: ls) sp := ⟨List.mem_cons_of_mem _ c.mem⟩
instance {C : Addr} {ls : List (Addr × Sp)} {sp : Sp} : DynC C ((C, sp) :: ls) sp := ⟨List.mem_cons_self⟩
class MemC (C : Addr) (ls : List Addr) : Prop where
  mem : C ∈ ls
instance {C D : Addr} {ls : List Addr} [c : MemC C ls] : MemC C (D :: ls) := ⟨List.mem_cons_of_mem _ c.mem⟩
instance {C : Addr} {ls : List Addr} : MemC C (C :: ls) := ⟨List.mem_cons_self⟩
section
variable {ls : List (Addr × Sp)} {Cs : List Addr} {m : Str} {dvs : List V} {E : St → XK} {EX : XK} {ta : TE} {t : TA} {σ : L2.St} {H : Hp} {Q : VK} {sp : Sp} {a C dx : Addr} {fs : List (Str × V)} {n b c : L2.St → Hp → Prop} {r : VK}
theorem k_dyn (h : ta σ H fun x H1 => RDyn ls m dvs (E σ) t σ x H1 Q) : tDyn ls m dvs E ta t σ H Q := h
theorem k_rdyn (h : H a = some (.ins C dx fs)) (i : LkN fs m) (c : DynC C ls sp) (q : t σ H fun vs H2 => sp (.ref a :: (vs ++ dvs)) H2 Q EX) : RDyn ls m dvs EX t σ (.ref a) H Q := ⟨(C, sp), c.mem, a, dx, fs, rfl, h, i.eq, q⟩
theorem k_sup [g : GetC σ 0 (.ref a)] (h : H a = some (.ins C dx fs)) (i : MemC C Cs) (q : t σ H fun vs H1 => sp (.ref a :: vs) H1 (fun _ H2 => n σ H2) (E σ)) : tSup Cs sp E t ⟨n, r, b, c⟩ σ H := ⟨a, C, dx, fs, g.eq, i.mem, h, q⟩
end
end L2.MP
namespace L2.MP
open PySem PySem.Spec PyProof.Rows L2
/-- a method that the class x has from the class o -/
def methB (x m o : Str) (K : PySem.W.Frag) : Bool := He.Fa.ok K (.meth x m) && decide (He.ma K (He.ga K x) m = He.ma K (He.ga K o) m)
theorem methB_ok {x m o : Str} {K : PySem.W.Frag} (h : methB x m o K = true) : Meth K (He.ga K x) m (He.ma K (He.ga K o) m) := by
  obtain ⟨h1, h2⟩ := He.ba h
  rw [← of_decide_eq_true h2]
  exact He.meth_ok h1
end L2.MP

set_option Elab.async false
set_option linter.all false
set_option maxRecDepth 100000
namespace L2.MP
open PySem PySem.Spec PyProof.Rows L2
/-! ### the Hook that holds the table of statics too -/
def hookMS (n : Nat) (fn : List DefM) (ex : PySem.W.Frag → Bool) (ts : List He.Tab) : PySem.W.Hook where
  α := AlM
  obs := fun s => obsM fn ex ts (He.frT s.heap.get? (cStatics :: He.asD s.heap.get? n))
  val := fun w => valM fn ts w
  says := fun w h => ∃ K : PySem.W.Frag, K.In h ∧ SaysM fn ex ts w K
  of := fun _ _ e => ⟨_, He.frT_in, ⟨e⟩⟩
  keeps := fun _ _ _ ⟨K, hK, c⟩ k => ⟨K, PySem.W.Frag.In.keeps hK k, c⟩
def obsMSG (n : Nat) (fn : List DefM) (ex : PySem.W.Frag → Bool) (ts : List He.Tab) (s : PySem.W.SharedT) : AlM := obsM fn ex ts (He.frT (HandSHeadRun.getT s) (cStatics :: He.asD (HandSHeadRun.getT s) n))
theorem obsMSG_eq (n : Nat) (fn : List DefM) (ex : PySem.W.Frag → Bool) (ts : List He.Tab) (s : PySem.W.SharedT) : obsMSG n fn ex ts s = (hookMS n fn ex ts).obs s.abs := by
  have e : HandSHeadRun.getT s = s.abs.heap.get? := funext (HandSHeadRun.getT_eq s)
  show obsM fn ex ts (He.frT (HandSHeadRun.getT s) (cStatics :: He.asD (HandSHeadRun.getT s) n)) = obsM fn ex ts (He.frT s.abs.heap.get? (cStatics :: He.asD s.abs.heap.get? n))
  rw [e]
end L2.MP

set_option Elab.async false
set_option linter.all false
set_option maxRecDepth 100000
set_option maxHeartbeats 4000000
/-! A walk over a list, a tuple or a text, whichever it is. -/
namespace L2.MP
open PySem PySem.Spec PyProof.Rows L2
def ISeq (K : PySem.W.Frag) (x : V) (H : Hp) (R : It → Hp → Prop) : Prop :=
  (∃ a, x = .ref a ∧ (∃ xs, SqL K H a xs) ∧ R (Itl K a) H) ∨ (∃ a, x = .ref a ∧ (∃ xs, SqT K H a xs) ∧ R (Itt K a) H) ∨ (∃ z, x = .str z ∧ R (Its z) H)
def iAny (K : PySem.W.Frag) (tl : TE) : TI := fun σ H R => tl σ H fun x H1 => ISeq K x H1 R
theorem pi_any {X : Cx} {tg l : Expr} {tl : TE} (hl : PE X l tl) : PI X tg l (iAny X.K tl) := by
  refine ⟨fun pins s σ H R I h => ?_⟩
  refine thn (hl.run pins s σ H _ I h) fun v s1 ⟨x, H1, I1, r1, q1⟩ => ?_
  rcases q1 with ⟨a, e, ⟨xs, hq⟩, q⟩ | ⟨a, e, ⟨xs, hq⟩, q⟩ | ⟨z, e, q⟩
  · subst e
    cases r1
    obtain ⟨its, rv, p, hz⟩ := I1.list hq
    refine wpAny_pyIter_list p.isList ?_
    refine ⟨s1.heap.objs.size, [s1.heap.objs.size], _, _, H1, rfl, I1.kept (t' := s1.toks) fun b o e => Heap.get?_push_of_some _ e, turn_list a _, ⟨_, Heap.get?_push_size _ rfl, rfl, rfl⟩, fun b hb => ?_, q⟩
    have e : b = s1.heap.objs.size := by simpa using hb
    subst e
    exact I1.fpOk (Nat.le_refl _) (I1.hok.fresh (Nat.le_refl _))
  · subst e
    cases r1
    obtain ⟨its, rv, p, hz⟩ := I1.tuple hq
    refine wpAny_pyIter_tuple (show s1.heap.IsTuple a its.toArray from p) ?_
    refine ⟨s1.heap.objs.size, [s1.heap.objs.size], _, _, H1, rfl, I1.kept (t' := s1.toks) fun b o e => Heap.get?_push_of_some _ e, turn_tuple a _, ⟨_, Heap.get?_push_size _ rfl, rfl, rfl⟩, fun b hb => ?_, q⟩
    have e : b = s1.heap.objs.size := by simpa using hb
    subst e
    exact I1.fpOk (Nat.le_refl _) (I1.hok.fresh (Nat.le_refl _))
  · subst e
    obtain ⟨t, rfl⟩ := r1
    cases ha : z.cps.all (· < 128)
    · exact wpAny_pyIter_wide ha (pi_one (tk := s1.toks) I1 _ (turn_str _ z t "str_iterator" (.inr rfl)) ⟨_, Heap.get?_push_size _ rfl, rfl, rfl⟩ q)
    · exact wpAny_pyIter_ascii ha (pi_one (tk := s1.toks) I1 _ (turn_str _ z t "str_ascii_iterator" (.inl rfl)) ⟨_, Heap.get?_push_size _ rfl, rfl, rfl⟩ q)
section
variable {K : PySem.W.Frag} {σ : L2.St} {H : Hp} {n b c : L2.St → Hp → Prop} {r : VK} {i : Nat} {tb : TS} {te : TE} {a : Addr} {xs : List V} {Q : VK}
def RA (K : PySem.W.Frag) (i : Nat) (tb : TS) (D : Ends) (σ : L2.St) (x : V) (H : Hp) : Prop := ISeq K x H fun J H1 => FW J i tb D σ H1
theorem k_forA (h : te σ H (RA K i tb ⟨n, r, b, c⟩ σ)) : tFor (iAny K te) (gName i) tb ⟨n, r, b, c⟩ σ H := h
theorem k_raL {D : Ends} {x : V} (h : RL K i tb D σ x H) : RA K i tb D σ x H := .inl h
theorem k_raT {D : Ends} {x : V} (h : RT K i tb D σ x H) : RA K i tb D σ x H := .inr (.inl h)
theorem k_rtI (h : SqT K H a xs) (P : Nat → L2.St → Hp → Prop) (h0 : P 0 σ H) (hl : ∀ (m : Nat) σ H, m ≤ xs.length → P m σ H → SqT K H a xs)
    (ht : ∀ (m : Nat) x σ H, xs[m]? = some x → P m σ H → tb ⟨P (m + 1), r, n, P (m + 1)⟩ (σ.set i (some x)) H) (hd : ∀ σ H, P xs.length σ H → n σ H) : RT K i tb ⟨n, r, b, c⟩ σ (.ref a) H :=
  ⟨a, rfl, ⟨xs, h⟩, for_tup (D := ⟨n, r, b, c⟩) P h0 hl (fun m x σ H hm q => ht m x σ H hm q) hd⟩
/-- a list or a tuple by an invariant -/
theorem k_raI (h : SqL K H a xs ∨ SqT K H a xs) (P : Nat → L2.St → Hp → Prop) (h0 : P 0 σ H) (hl : ∀ (m : Nat) σ H', m ≤ xs.length → P m σ H' → Ex H H')
    (ht : ∀ (m : Nat) x σ H, xs[m]? = some x → P m σ H → tb ⟨P (m + 1), r, n, P (m + 1)⟩ (σ.set i (some x)) H) (hd : ∀ σ H, P xs.length σ H → n σ H) : RA K i tb ⟨n, r, b, c⟩ σ (.ref a) H := by
  rcases h with h | h
  · exact k_raL (k_rlI h P h0 (fun m σ H' hm q => (hl m σ H' hm q).sqL h) ht hd)
  · exact k_raT (k_rtI h P h0 (fun m σ H' hm q => (hl m σ H' hm q).sqT h) ht hd)
/-- the same, the thing itself told at each turn -/
theorem k_raI' (h : SqL K H a xs ∨ SqT K H a xs) (P : Nat → L2.St → Hp → Prop) (h0 : P 0 σ H) (hl : ∀ (m : Nat) σ H', m ≤ xs.length → P m σ H' → (SqL K H a xs → SqL K H' a xs) ∧ (SqT K H a xs → SqT K H' a xs))
    (ht : ∀ (m : Nat) x σ H, xs[m]? = some x → P m σ H → tb ⟨P (m + 1), r, n, P (m + 1)⟩ (σ.set i (some x)) H) (hd : ∀ σ H, P xs.length σ H → n σ H) : RA K i tb ⟨n, r, b, c⟩ σ (.ref a) H := by
  rcases h with h | h
  · exact k_raL (k_rlI h P h0 (fun m σ H' hm q => (hl m σ H' hm q).1 h) ht hd)
  · exact k_raT (k_rtI h P h0 (fun m σ H' hm q => (hl m σ H' hm q).2 h) ht hd)
/-- a comprehension over a list or a tuple: what its turns ask -/
def RLc (J : It) (g : TG) (tt : TT) (te : TE) (vs : List Nat) (σ : L2.St) (Q : VK) (H1 : Hp) : Prop := ∀ D, H1 D = none → ∃ W : Nat → Nat → Hp → Prop, (∃ m, W 0 m (upd H1 D (.lst []))) ∧ ∀ i m H, W i m H →
  (J.stop i H ∧ Q (.ref D) H) ∨ (J.go i H ∧ ∃ Nx : Hp → Prop, (∀ H', Nx H' → ∃ m', m' < m ∧ W (i + 1) m' H') ∧ ∀ x H', J.yld i H x H' → g x (wipe σ vs) H' fun σ2 H2 => wipe σ2 vs = wipe σ vs ∧ tt σ2 H2 fun b H3 =>
    if b = true then te σ2 H3 fun y H4 => ∃ acc, H4 D = some (.lst acc) ∧ acc.length < sizeLine ∧ Nx (upd H4 D (.lst (acc ++ [y]))) else Nx H3)
def RLA (K : PySem.W.Frag) (g : TG) (tt : TT) (te : TE) (vs : List Nat) (σ : L2.St) (Q : VK) (x : V) (H : Hp) : Prop := ISeq K x H fun J H1 => RLc J g tt te vs σ Q H1
theorem k_lcA {tl : TE} {g : TG} {tt : TT} {vs : List Nat} (h : tl σ H (RLA K g tt te vs σ Q)) : tLc (iAny K tl) g tt te vs σ H Q := h
/-- one turn behind another; D the list that is made -/
theorem k_lcI {j : Nat} {g : TG} {tt : TT} {vs : List Nat} (h : SqL K H a xs ∨ SqT K H a xs) (P : Addr → Nat → Hp → Prop) (h0 : ∀ D, H D = none → P D 0 (upd H D (.lst [])))
    (hl : ∀ D m H', H D = none → m ≤ xs.length → P D m H' → (SqL K H a xs → SqL K H' a xs) ∧ (SqT K H a xs → SqT K H' a xs))
    (hs : ∀ D m x H', H D = none → xs[m]? = some x → P D m H' → g x (wipe σ vs) H' fun σ2 H2 => wipe σ2 vs = wipe σ vs ∧ tt σ2 H2 fun b H3 =>
      if b = true then te σ2 H3 fun y H4 => ∃ acc, H4 D = some (.lst acc) ∧ acc.length < sizeLine ∧ P D (m + 1) (upd H4 D (.lst (acc ++ [y]))) else P D (m + 1) H3)
    (hd : ∀ D H', H D = none → P D xs.length H' → Q (.ref D) H') : RLA K g tt te vs σ Q (.ref a) H := by
  rcases h with h | h
  · exact .inl ⟨a, rfl, ⟨xs, h⟩, fun D hD => lc_list (P D) (h0 D hD) (fun m H' hm q => (hl D m H' hD hm q).1 h) (fun m x H' hm q => hs D m x H' hD hm q) fun H' q => hd D H' hD q⟩
  · exact .inr (.inl ⟨a, rfl, ⟨xs, h⟩, fun D hD => lc_tup (P D) (h0 D hD) (fun m H' hm q => (hl D m H' hD hm q).2 h) (fun m x H' hm q => hs D m x H' hD hm q) fun H' q => hd D H' hD q⟩)
end
end L2.MP
namespace L2.MP
open PySem PySem.Spec PyProof.Rows L2
/-! ### one sign in a text; a text's sign; texts joined -/
def rInSg (neg : Bool) : R2 := fun x y H Q => ∃ (c : Nat) (z : Str), x = .str ⟨#[c]⟩ ∧ y = .str z ∧ Q (.bl (if neg = true then !decide (c ∈ z.cps.toList) else decide (c ∈ z.cps.toList))) H
section
variable {X : Cx} {K : PySem.W.Frag} {H : Hp} {Q : VK}
theorem op_inSg : OpR X (compareOp .In) (rInSg false) := op_in_sign
theorem op_notInSg : OpR X (compareOp .NotIn) (rInSg true) := op_notIn_sign
theorem o_inSg {c : Nat} {z : Str} {neg : Bool} (q : Q (.bl (if neg = true then !decide (c ∈ z.cps.toList) else decide (c ∈ z.cps.toList))) H) : rInSg neg (.str ⟨#[c]⟩) (.str z) H Q := ⟨c, z, rfl, rfl, q⟩
theorem o_ixS {z : Str} {p : Int} {c : Nat} (hz : z.length ≤ 100000) (h0 : 0 ≤ p) (e : z.cps[p.toNat]? = some c) (q : Q (.str ⟨#[c]⟩) H) : rIx K (.str z) (.int p) H Q :=
  .inr (.inr ⟨z, p, c, rfl, rfl, sz_of hz, atI_toNat h0 (by rw [Array.getElem?_toList]; exact e), q⟩)
theorem o_mulS {z : Str} {n : Int} (h : MulOk z n) (q : Q (.str (Txt.mul z n)) H) : rMulA (.str z) (.int n) H Q := ⟨h, q⟩
theorem o_lenS {y : Str} (h : y.length ≤ 100000) (q : Q (.int y.length) H) : rLenA K [.str y] H Q := ⟨_, _, rfl, ⟨sz_of h, rfl⟩, q⟩
end
end L2.MP
namespace L2.MP
open PySem PySem.Spec PyProof.Rows L2
section
variable {K : PySem.W.Frag} {σ : L2.St} {H : Hp} {n b c : L2.St → Hp → Prop} {r : VK} {i : Nat} {tb : TS}
/-- a text, sign by sign, by an invariant -/
theorem k_raS {z : Str} (P : Nat → L2.St → Hp → Prop) (h0 : P 0 σ H) (ht : ∀ (m : Nat) x σ H, z.cps[m]? = some x → P m σ H → tb ⟨P (m + 1), r, n, P (m + 1)⟩ (σ.set i (some (.str ⟨#[x]⟩))) H)
    (hd : ∀ σ H, P z.cps.size σ H → n σ H) : RA K i tb ⟨n, r, b, c⟩ σ (.str z) H := by
  refine .inr (.inr ⟨z, rfl, fun i m σ H => m = z.cps.size - i ∧ i ≤ z.cps.size ∧ P i σ H, ⟨z.cps.size, by simp, Nat.zero_le _, h0⟩, ?_⟩)
  rintro j m σ H ⟨rfl, hj, p⟩
  by_cases hlt : j < z.cps.size
  · refine .inr ⟨hlt, P (j + 1), fun σ' H' p' => ⟨z.cps.size - (j + 1), by omega, rfl, hlt, p'⟩, fun x H' y => ?_⟩
    obtain ⟨rfl, cc, e, rfl⟩ := y
    exact ht j cc σ _ e p
  · have e : j = z.cps.size := by omega
    subst e
    exact .inl ⟨Nat.le_refl _, hd σ H p⟩
end
end L2.MP
namespace L2.MP
open PySem PySem.Spec PyProof.Rows L2
section
variable {K : PySem.W.Frag} {H : Hp} {Q : VK} {a : Addr} {ys : List V}
theorem o_tupL (h : SqL K H a ys) (q : ∀ p H', H p = none → Ex H H' → H' p = some (.tup ys) → Q (.ref p) H') : rTupleA K [.ref a] H Q := ⟨a, ys, rfl, .inl ⟨h, fun l hl => q l _ hl (Ex.new hl) upd_same⟩⟩
theorem o_tupT (h : SqT K H a ys) (q : Q (.ref a) H) : rTupleA K [.ref a] H Q := ⟨a, ys, rfl, .inr ⟨h, q⟩⟩
theorem o_lisL (h : SqL K H a ys) (q : ∀ p H', H p = none → Ex H H' → H' p = some (.lst ys) → Q (.ref p) H') : rListA K [.ref a] H Q := ⟨a, ys, rfl, .inl h, fun l hl => q l _ hl (Ex.new hl) upd_same⟩
theorem o_lisT (h : SqT K H a ys) (q : ∀ p H', H p = none → Ex H H' → H' p = some (.lst ys) → Q (.ref p) H') : rListA K [.ref a] H Q := ⟨a, ys, rfl, .inr h, fun l hl => q l _ hl (Ex.new hl) upd_same⟩
end
end L2.MP
namespace L2.MP
open PySem PySem.Spec PyProof.Rows L2
section
variable {K : PySem.W.Frag} {H : Hp} {Q : VK} {a b : Addr} {ls : List Int}
theorem flat_ints (ls : List Int) : flatOk (ls.map V.int) = true := by
  induction ls with
  | nil => rfl
  | cons x l ih => simpa [flatOk, flat1] using ih
theorem o_neInil (h1 : SqL K H a (ls.map V.int)) (h2 : SqL K H b []) (q : Q (.bl (!decide (ls = []))) H) : rNeA K (.ref a) (.ref b) H Q :=
  o_neLL h1 h2 (flat_ints ls) rfl (by
    cases ls with
    | nil => exact q
    | cons x l => exact q)
end
end L2.MP
namespace L2.MP
open PySem PySem.Spec PyProof.Rows L2
theorem o_addT {K : PySem.W.Frag} {H : Hp} {Q : VK} {a b : Addr} {xs ys : List V} (h1 : H a = some (.tup xs)) (h2 : H b = some (.tup ys)) (h : xs.length + ys.length ≤ 100000) (q : ∀ p H', Ex H H' → H' p = some (.tup (xs ++ ys)) → Q (.ref p) H') : rAddA K (.ref a) (.ref b) H Q :=
  .inr ⟨a, b, xs, ys, rfl, rfl, sqT_of h1, sqT_of h2, sz_of h, fun e => q b H (Ex.refl H) (by rw [e]; exact h2), fun _ e => q a H (Ex.refl H) (by rw [e, List.append_nil]; exact h1), fun _ _ p hp => q p _ (Ex.new hp) upd_same⟩
/-- all but one thing stays -/
def ExB (a : Addr) (H H' : Hp) : Prop := ∀ b o, b ≠ a → H b = some o → H' b = some o
theorem ExB.refl {a : Addr} (H : Hp) : ExB a H H := fun _ _ _ h => h
theorem ExB.trans {a : Addr} {H H1 H2 : Hp} (x : ExB a H H1) (y : ExB a H1 H2) : ExB a H H2 := fun b o n h => y b o n (x b o n h)
theorem ExB.of {a : Addr} {H H' : Hp} (x : Ex H H') : ExB a H H' := fun b o _ h => x b o h
theorem ExB.set {a : Addr} {H : Hp} {o : HO} : ExB a H (upd H a o) := fun b u n h => by rw [upd_ne n]; exact h
end L2.MP

set_option Elab.async false
set_option linter.all false
set_option maxRecDepth 100000
set_option maxHeartbeats 4000000
/-! Rows of programs: what they are, how they stand in the heap. -/
namespace L2.MP
open PySem PySem.Spec PyProof.Rows L2
inductive Row where
  | take (n : Str) (i : Int)
  | set (n : Str) (b : Int)
  | work (n l r : Str) (t : Int)
  | prn (c : Int) (n : Str)
  | test (n : Str) (a b : List Row)
  | loop (n : Str) (k : Int) (b : List Row)
  | guard (b h : List Row)
  | call (b : List Row)
  | leave
/-- a body: a tuple, or (if t is false) a tuple or a list -/
def SqB (t : Bool) (H : Hp) (a : Addr) (xs : List V) : Prop := H a = some (.tup xs) ∨ (t = false ∧ H a = some (.lst xs))
theorem SqB.ex {t : Bool} {H H' : Hp} {a : Addr} {xs : List V} (e : Ex H H') (h : SqB t H a xs) : SqB t H' a xs := h.imp (e.at ·) fun z => ⟨z.1, e.at z.2⟩
theorem SqB.sq {t : Bool} {K : PySem.W.Frag} {H : Hp} {a : Addr} {xs : List V} (h : SqB t H a xs) : SqL K H a xs ∨ SqT K H a xs := h.elim (fun z => .inr (sqT_of z)) fun z => .inl (sqL_of z.2)
mutual
/-- v is the row r -/
def RowA (t : Bool) (H : Hp) : Row → V → Prop
  | .take n i, v => ∃ a, v = .ref a ∧ H a = some (.tup [.str ("take" : Str), .str n, .int i])
  | .set n b, v => ∃ a, v = .ref a ∧ H a = some (.tup [.str ("set" : Str), .str n, .int b])
  | .work n l r k, v => ∃ a, v = .ref a ∧ H a = some (.tup [.str ("work" : Str), .str n, .str l, .str r, .int k])
  | .prn c n, v => ∃ a, v = .ref a ∧ H a = some (.tup [.str ("print" : Str), .int c, .str n])
  | .test n x y, v => ∃ a p q, v = .ref a ∧ H a = some (.tup [.str ("test" : Str), .str n, .ref p, .ref q]) ∧ (∃ xs, SqB t H p xs ∧ RowsA t H x xs) ∧ ∃ ys, SqB t H q ys ∧ RowsA t H y ys
  | .loop n k x, v => ∃ a p, v = .ref a ∧ H a = some (.tup [.str ("loop" : Str), .str n, .int k, .ref p]) ∧ ∃ xs, SqB t H p xs ∧ RowsA t H x xs
  | .guard x y, v => ∃ a p q, v = .ref a ∧ H a = some (.tup [.str ("guard" : Str), .ref p, .ref q]) ∧ (∃ xs, SqB t H p xs ∧ RowsA t H x xs) ∧ ∃ ys, SqB t H q ys ∧ RowsA t H y ys
  | .call x, v => ∃ a p, v = .ref a ∧ H a = some (.tup [.str ("call" : Str), .ref p]) ∧ ∃ xs, SqB t H p xs ∧ RowsA t H x xs
  | .leave, v => ∃ a, v = .ref a ∧ H a = some (.tup [.str ("leave" : Str)])
def RowsA (t : Bool) (H : Hp) : List Row → List V → Prop
  | [], xs => xs = []
  | r :: rs, xs => ∃ x ys, xs = x :: ys ∧ RowA t H r x ∧ RowsA t H rs ys
end
/-- the rows of a body -/
def BodA (t : Bool) (H : Hp) (rs : List Row) (p : Addr) : Prop := ∃ xs, SqB t H p xs ∧ RowsA t H rs xs
/-- tuples stay, and (if t is false) lists -/
structure Keep (t : Bool) (H H' : Hp) : Prop where
  tup : ∀ a xs, H a = some (.tup xs) → H' a = some (.tup xs)
  lst : t = false → ∀ a xs, H a = some (.lst xs) → H' a = some (.lst xs)
theorem Keep.of {t : Bool} {H H' : Hp} (e : Ex H H') : Keep t H H' := ⟨fun a xs h => e.at h, fun _ a xs h => e.at h⟩
theorem Keep.lset {H : Hp} {p : Addr} {xs : List V} {o : HO} (h : H p = some (.lst xs)) : Keep true H (upd H p o) := ⟨fun a ys q => by rw [upd_ne (fun z => by rw [z, h] at q; cases q)]; exact q, fun z => by cases z⟩
theorem Keep.iset {t : Bool} {H : Hp} {p C dx : Addr} {fs : List (Str × V)} {o : HO} (h : H p = some (.ins C dx fs)) : Keep t H (upd H p o) := ⟨fun a ys q => by rw [upd_ne (fun z => by rw [z, h] at q; cases q)]; exact q, fun _ a ys q => by rw [upd_ne (fun z => by rw [z, h] at q; cases q)]; exact q⟩
theorem Keep.dset {t : Bool} {H : Hp} {p : Addr} {kvs : List (Key × V)} {o : HO} (h : H p = some (.dK kvs)) : Keep t H (upd H p o) := ⟨fun a ys q => by rw [upd_ne (fun z => by rw [z, h] at q; cases q)]; exact q, fun _ a ys q => by rw [upd_ne (fun z => by rw [z, h] at q; cases q)]; exact q⟩
theorem Keep.trans {t : Bool} {H H1 H2 : Hp} (a : Keep t H H1) (b : Keep t H1 H2) : Keep t H H2 := ⟨fun x xs h => b.tup x xs (a.tup x xs h), fun z x xs h => b.lst z x xs (a.lst z x xs h)⟩
theorem SqB.kp {t : Bool} {H H' : Hp} {a : Addr} {xs : List V} (e : Keep t H H') (h : SqB t H a xs) : SqB t H' a xs := h.imp (e.tup a xs) fun z => ⟨z.1, e.lst z.1 a xs z.2⟩
mutual
theorem RowA.kp {t : Bool} {H H' : Hp} (e : Keep t H H') : ∀ (r : Row) {v : V}, RowA t H r v → RowA t H' r v
  | .take n i, v, ⟨a, e1, h⟩ => ⟨a, e1, e.tup _ _ h⟩
  | .set n i, v, ⟨a, e1, h⟩ => ⟨a, e1, e.tup _ _ h⟩
  | .work n l r k, v, ⟨a, e1, h⟩ => ⟨a, e1, e.tup _ _ h⟩
  | .prn c n, v, ⟨a, e1, h⟩ => ⟨a, e1, e.tup _ _ h⟩
  | .test n x y, v, ⟨a, p, q, e1, h, ⟨xs, h1, h2⟩, ys, h3, h4⟩ => ⟨a, p, q, e1, e.tup _ _ h, ⟨xs, h1.kp e, RowsA.kp e x h2⟩, ys, h3.kp e, RowsA.kp e y h4⟩
  | .loop n k x, v, ⟨a, p, e1, h, xs, h1, h2⟩ => ⟨a, p, e1, e.tup _ _ h, xs, h1.kp e, RowsA.kp e x h2⟩
  | .guard x y, v, ⟨a, p, q, e1, h, ⟨xs, h1, h2⟩, ys, h3, h4⟩ => ⟨a, p, q, e1, e.tup _ _ h, ⟨xs, h1.kp e, RowsA.kp e x h2⟩, ys, h3.kp e, RowsA.kp e y h4⟩
  | .call x, v, ⟨a, p, e1, h, xs, h1, h2⟩ => ⟨a, p, e1, e.tup _ _ h, xs, h1.kp e, RowsA.kp e x h2⟩
  | .leave, v, ⟨a, e1, h⟩ => ⟨a, e1, e.tup _ _ h⟩
theorem RowsA.kp {t : Bool} {H H' : Hp} (e : Keep t H H') : ∀ (rs : List Row) {xs : List V}, RowsA t H rs xs → RowsA t H' rs xs
  | [], xs, h => h
  | r :: rs, xs, ⟨x, ys, e1, h1, h2⟩ => ⟨x, ys, e1, RowA.kp e r h1, RowsA.kp e rs h2⟩
end
theorem RowA.ex {t : Bool} {H H' : Hp} (e : Ex H H') (r : Row) {v : V} (h : RowA t H r v) : RowA t H' r v := RowA.kp (.of e) r h
theorem RowsA.ex {t : Bool} {H H' : Hp} (e : Ex H H') (rs : List Row) {xs : List V} (h : RowsA t H rs xs) : RowsA t H' rs xs := RowsA.kp (.of e) rs h
theorem BodA.ex {t : Bool} {H H' : Hp} (e : Ex H H') {rs : List Row} {p : Addr} (h : BodA t H rs p) : BodA t H' rs p := let ⟨xs, h1, h2⟩ := h; ⟨xs, h1.ex e, RowsA.ex e rs h2⟩
theorem RowsA.len {t : Bool} {H : Hp} : ∀ {rs : List Row} {xs : List V}, RowsA t H rs xs → xs.length = rs.length
  | [], xs, h => by rw [show xs = [] from h]; rfl
  | r :: rs, xs, ⟨x, ys, e1, _, h2⟩ => by rw [e1, List.length_cons, List.length_cons, RowsA.len h2]
theorem RowsA.at {t : Bool} {H : Hp} : ∀ {rs : List Row} {xs : List V} {i : Nat} {x : V}, RowsA t H rs xs → xs[i]? = some x → ∃ r, rs[i]? = some r ∧ RowA t H r x
  | [], xs, i, x, h, e => by rw [show xs = [] from h] at e; simp at e
  | r :: rs, xs, 0, x, ⟨y, ys, e1, h1, _⟩, e => by rw [e1] at e; simp at e; subst e; exact ⟨r, rfl, h1⟩
  | r :: rs, xs, i + 1, x, ⟨y, ys, e1, _, h2⟩, e => by
    rw [e1] at e
    obtain ⟨r', q1, q2⟩ := RowsA.at (i := i) h2 (by simpa using e)
    exact ⟨r', by simpa using q1, q2⟩
theorem RowsA.snoc {t : Bool} {H : Hp} : ∀ {rs : List Row} {xs : List V} {r : Row} {x : V}, RowsA t H rs xs → RowA t H r x → RowsA t H (rs ++ [r]) (xs ++ [x])
  | [], xs, r, x, h, h1 => by rw [show xs = [] from h]; exact ⟨x, [], rfl, h1, rfl⟩
  | r' :: rs, xs, r, x, ⟨y, ys, e1, h2, h3⟩, h1 => ⟨y, ys ++ [x], by rw [e1]; rfl, h2, RowsA.snoc h3 h1⟩
theorem RowA.ref {t : Bool} {H : Hp} {r : Row} {v : V} (h : RowA t H r v) : ∃ a, v = .ref a := by
  cases r <;> first
    | (obtain ⟨a, e, _⟩ := h; exact ⟨a, e⟩)
    | (obtain ⟨a, p, e, _⟩ := h; exact ⟨a, e⟩)
    | (obtain ⟨a, p, q, e, _⟩ := h; exact ⟨a, e⟩)
/-! ### measures -/
mutual
def Row.dep : Row → Nat
  | .test _ a b => 1 + max (deps a) (deps b)
  | .loop _ _ b => 1 + deps b
  | .guard b h => 1 + max (deps b) (deps h)
  | .call b => 1 + deps b
  | _ => 0
def deps : List Row → Nat
  | [] => 0
  | r :: rs => max r.dep (deps rs)
end
mutual
def Row.sz : Row → Nat
  | .test _ a b => 1 + (szs a + szs b)
  | .loop _ _ b => 1 + szs b
  | .guard b h => 1 + (szs b + szs h)
  | .call b => 1 + szs b
  | _ => 1
def szs : List Row → Nat
  | [] => 0
  | r :: rs => r.sz + szs rs
end
theorem szs_app : ∀ (a b : List Row), szs (a ++ b) = szs a + szs b
  | [], b => by simp [szs]
  | r :: a, b => by simp only [List.cons_append, szs]; rw [szs_app a b]; omega
theorem deps_app : ∀ (a b : List Row), deps (a ++ b) = max (deps a) (deps b)
  | [], b => by simp [deps]
  | r :: a, b => by simp only [List.cons_append, deps]; rw [deps_app a b]; omega
theorem sz_pos : ∀ r : Row, 1 ≤ r.sz
  | .take _ _ | .set _ _ | .work _ _ _ _ | .prn _ _ | .leave => by simp [Row.sz]
  | .test _ _ _ | .loop _ _ _ | .guard _ _ | .call _ => by simp [Row.sz]
theorem len_szs : ∀ rs : List Row, rs.length ≤ szs rs
  | [] => by simp [szs]
  | r :: rs => by have := sz_pos r; have := len_szs rs; simp only [List.length_cons, szs]; omega
theorem dep_at : ∀ {rs : List Row} {i : Nat} {r : Row}, rs[i]? = some r → r.dep ≤ deps rs
  | [], i, r, h => by simp at h
  | r' :: rs, 0, r, h => by simp at h; subst h; simp [deps]; omega
  | r' :: rs, i + 1, r, h => by have := dep_at (rs := rs) (i := i) (by simpa using h); simp only [deps]; omega
theorem sz_at : ∀ {rs : List Row} {i : Nat} {r : Row}, rs[i]? = some r → r.sz ≤ szs rs
  | [], i, r, h => by simp at h
  | r' :: rs, 0, r, h => by simp at h; subst h; simp [szs]
  | r' :: rs, i + 1, r, h => by have := sz_at (rs := rs) (i := i) (by simpa using h); simp only [szs]; omega
/-! ### what a text writes; leaves; loops -/
def adds (acc l : List Str) : List Str := acc ++ l.filter fun n => !decide (n ∈ acc)
mutual
def Row.wr : Row → List Str
  | .take n _ => [n]
  | .set n _ => [n]
  | .work n _ _ _ => [n]
  | .prn _ _ => []
  | .test _ a b => wrs (wrs [] a) b
  | .loop _ _ b => wrs [] b
  | .guard b h => wrs (wrs [] b) h
  | .call b => wrs [] b
  | .leave => []
def wrs (acc : List Str) : List Row → List Str
  | [] => acc
  | r :: rs => wrs (adds acc r.wr) rs
end
mutual
def Row.lv : Row → Bool
  | .test _ a b => lvs a || lvs b
  | .leave => true
  | _ => false
def lvs : List Row → Bool
  | [] => false
  | r :: rs => r.lv || lvs rs
end
mutual
def Row.lo : Row → Int
  | .test _ a b => los (los 0 a) b
  | .loop _ _ b => 1 + los 0 b
  | .guard b h => los (los 0 b) h
  | .call b => los 0 b
  | _ => 0
def los (m : Int) : List Row → Int
  | [] => m
  | r :: rs => los (if r.lo > m then r.lo else m) rs
end
theorem wrs_app : ∀ (a b : List Row) (acc : List Str), wrs acc (a ++ b) = wrs (wrs acc a) b
  | [], b, acc => rfl
  | r :: a, b, acc => by simp only [List.cons_append, wrs]; exact wrs_app a b _
theorem lvs_app : ∀ (a b : List Row), lvs (a ++ b) = (lvs a || lvs b)
  | [], b => by simp [lvs]
  | r :: a, b => by simp only [List.cons_append, lvs]; rw [lvs_app a b, Bool.or_assoc]
theorem los_app : ∀ (a b : List Row) (m : Int), los m (a ++ b) = los (los m a) b
  | [], b, m => rfl
  | r :: a, b, m => by simp only [List.cons_append, los]; exact los_app a b _
theorem adds_len (acc l : List Str) : (adds acc l).length ≤ acc.length + l.length := by
  unfold adds
  rw [List.length_append]
  have := List.length_filter_le (fun n => !decide (n ∈ acc)) l
  omega
mutual
theorem wr_len : ∀ r : Row, r.wr.length ≤ r.sz
  | .take _ _ | .set _ _ | .work _ _ _ _ | .prn _ _ | .leave => by simp [Row.wr, Row.sz]
  | .test n a b => by
    have h1 := wrs_len a []
    have h2 := wrs_len b (wrs [] a)
    simp only [Row.wr, Row.sz, List.length_nil] at *; omega
  | .loop n k b => by
    have h1 := wrs_len b []
    simp only [Row.wr, Row.sz, List.length_nil] at *; omega
  | .guard a b => by
    have h1 := wrs_len a []
    have h2 := wrs_len b (wrs [] a)
    simp only [Row.wr, Row.sz, List.length_nil] at *; omega
  | .call b => by
    have h1 := wrs_len b []
    simp only [Row.wr, Row.sz, List.length_nil] at *; omega
theorem wrs_len : ∀ (rs : List Row) (acc : List Str), (wrs acc rs).length ≤ acc.length + szs rs
  | [], acc => by simp [wrs, szs]
  | r :: rs, acc => by
    have h1 := wrs_len rs (adds acc r.wr)
    have h2 := adds_len acc r.wr
    have h3 := wr_len r
    simp only [wrs, szs]; omega
end
theorem szs_take : ∀ (rs : List Row) (j : Nat), szs (rs.take j) ≤ szs rs
  | [], j => by simp
  | r :: rs, 0 => by simp [szs]
  | r :: rs, j + 1 => by have := szs_take rs j; simp only [List.take_succ_cons, szs]; omega
theorem fold_len : ∀ (l : List (List Row)) (acc : List Str), (l.foldl wrs acc).length ≤ acc.length + (l.map szs).sum
  | [], acc => by simp
  | x :: l, acc => by
    have h1 := fold_len l (wrs acc x)
    have h2 := wrs_len x acc
    simp only [List.foldl_cons, List.map_cons, List.sum_cons]; omega
theorem sum_at : ∀ (l : List (List Row)) (i : Nat) (x : List Row), l[i]? = some x → ((l.take i).map szs).sum + szs x ≤ (l.map szs).sum
  | [], i, x, h => by simp at h
  | y :: l, 0, x, h => by simp at h; subst h; simp
  | y :: l, i + 1, x, h => by
    have := sum_at l i x (by simpa using h)
    simp only [List.take_succ_cons, List.map_cons, List.sum_cons]; omega
theorem big_of {ws : List Str} {pss : List (List Row)} (h : ws.length + (pss.map szs).sum ≤ 40000) : ∀ (i j : Nat) (z : List Row) (r : Row), pss[i]? = some z → z[j]? = some r → (wrs ((pss.take i).foldl wrs ws) (z.take j)).length + r.wr.length ≤ 90000 := fun i j z r hi hj => by
  have h1 := wrs_len (z.take j) ((pss.take i).foldl wrs ws)
  have h2 := fold_len (pss.take i) ws
  have h3 := sum_at pss i z hi
  have h4 := szs_take z j
  have h5 := sz_at hj
  have h6 := wr_len r
  omega
/-! ### rows that are well said -/
/-- the tests of a name that the program makes -/
def signsOk (x : Str) (cs : Str) : Bool := x.cps.toList.all fun c => cs.cps.toList.contains c
mutual
/-- nin inputs; nm: what a name is; top: the greatest channel; lv: a leave may stand here -/
def Row.wf (nin : Nat) (nm : Str → Prop) (top : Int) (lv : Bool) : Row → Prop
  | .take n i => nm n ∧ 0 ≤ i ∧ i < nin
  | .set n b => nm n ∧ 0 ≤ b ∧ b ≤ 1
  | .work n l r t => nm n ∧ nm l ∧ nm r ∧ 0 ≤ t ∧ t ≤ 15
  | .prn c n => nm n ∧ 0 ≤ c ∧ c ≤ top
  | .test n a b => nm n ∧ wfs nin nm top lv a ∧ wfs nin nm top lv b
  | .loop n k b => nm n ∧ 1 ≤ k ∧ k ≤ 6 ∧ wfs nin nm top true b
  | .guard b h => wfs nin nm top true b ∧ wfs nin nm top false h
  | .call b => wfs nin nm top true b
  | .leave => lv = true
def wfs (nin : Nat) (nm : Str → Prop) (top : Int) (lv : Bool) : List Row → Prop
  | [] => True
  | r :: rs => r.wf nin nm top lv ∧ wfs nin nm top lv rs
end
theorem wfs_app {nin : Nat} {nm : Str → Prop} {top : Int} {lv : Bool} : ∀ (a b : List Row), wfs nin nm top lv (a ++ b) ↔ wfs nin nm top lv a ∧ wfs nin nm top lv b
  | [], b => by simp [wfs]
  | r :: a, b => by simp only [List.cons_append, wfs, wfs_app a b, and_assoc]
theorem wf_at {nin : Nat} {nm : Str → Prop} {top : Int} {lv : Bool} : ∀ {rs : List Row} {i : Nat} {r : Row}, wfs nin nm top lv rs → rs[i]? = some r → r.wf nin nm top lv
  | [], i, r, _, h => by simp at h
  | r' :: rs, 0, r, w, h => by simp at h; subst h; exact w.1
  | r' :: rs, i + 1, r, w, h => wf_at (rs := rs) (i := i) w.2 (by simpa using h)
mutual
theorem wf_lv {nin : Nat} {nm : Str → Prop} {top : Int} : ∀ (r : Row), r.wf nin nm top false → r.lv = false
  | .take _ _, _ | .set _ _, _ | .work _ _ _ _, _ | .prn _ _, _ | .loop _ _ _, _ | .guard _ _, _ | .call _, _ => by simp [Row.lv]
  | .leave, h => by cases h
  | .test n a b, h => by
    have h1 := wfs_lv a h.2.1
    have h2 := wfs_lv b h.2.2
    simp [Row.lv, h1, h2]
theorem wfs_lv {nin : Nat} {nm : Str → Prop} {top : Int} : ∀ (rs : List Row), wfs nin nm top false rs → lvs rs = false
  | [], _ => rfl
  | r :: rs, h => by
    have h1 := wf_lv r h.1
    have h2 := wfs_lv rs h.2
    simp [lvs, h1, h2]
end
mutual
theorem lo_dep : ∀ (r : Row), 0 ≤ r.lo ∧ r.lo ≤ r.dep
  | .take _ _ | .set _ _ | .work _ _ _ _ | .prn _ _ | .leave => by simp [Row.lo]
  | .test n a b => by
    have h1 := los_dep a 0
    have h2 := los_dep b (los 0 a)
    simp only [Row.lo, Row.dep]
    omega
  | .loop n k b => by
    have h1 := los_dep b 0
    simp only [Row.lo, Row.dep]
    omega
  | .guard a b => by
    have h1 := los_dep a 0
    have h2 := los_dep b (los 0 a)
    simp only [Row.lo, Row.dep]
    omega
  | .call b => by
    have h1 := los_dep b 0
    simp only [Row.lo, Row.dep]
    omega
theorem los_dep : ∀ (rs : List Row) (m : Int), m ≤ los m rs ∧ (los m rs ≤ m ∨ los m rs ≤ deps rs)
  | [], m => by simp [los]
  | r :: rs, m => by
    have h0 := lo_dep r
    have h1 := los_dep rs (if r.lo > m then r.lo else m)
    simp only [los, deps]
    split at h1 <;> rename_i hc <;> simp only [hc, if_true, if_false] <;> omega
end
end L2.MP

set_option Elab.async false
set_option linter.all false
set_option maxRecDepth 100000
set_option maxHeartbeats 4000000
/-! Tuples of the written part: texts, ints. -/
namespace L2.MP
open PySem PySem.Spec PyProof.Rows L2
def plT (a : Addr) (K : PySem.W.Frag) : Bool := match K.lookup a with
  | some o => decide (o.cls = .type "tuple") && o.dict.isNone
  | none => false
def wtSB (a : Addr) (l : List Str) (K : PySem.W.Frag) : Bool := plT a K && wtupB a l K
class WtS (K : PySem.W.Frag) (a : Addr) (l : outParam (List Str)) : Prop where
  ok : wtSB a l K = true
def intsB : List Int → List Value → Bool
  | [], [] => true
  | a :: l, .int b _ :: r => decide (a = b) && intsB l r
  | _, _ => false
theorem intsB_ok : ∀ {l : List Int} {r : List Value}, intsB l r = true → Vals (l.map V.int) r
  | [], [], _ => .nil
  | a :: l, .int b t :: r, h => by
    obtain ⟨h1, h2⟩ := He.ba h
    obtain rfl := of_decide_eq_true h1
    exact .cons ⟨t, rfl⟩ (intsB_ok h2)
  | [], _ :: _, h => by cases h
  | _ :: _, [], h => by cases h
def wtIB (a : Addr) (l : List Int) (K : PySem.W.Frag) : Bool := match K.lookup a with
  | some o => decide (o.cls = .type "tuple") && (match o.data with
    | .seq its _ => decide (its.size ≤ 1000) && intsB l its.toList
    | _ => false)
  | none => false
class WtI (K : PySem.W.Frag) (a : Addr) (l : outParam (List Int)) : Prop where
  ok : wtIB a l K = true
section
variable {K : PySem.W.Frag} {H : Hp} {Q : VK} {a : Addr} {σ : L2.St} {tr : TA} {s : Str} {ro : V → List V → Hp → VK → Prop} {l : List Str}
theorem WtS.sq (c : WtS K a l) (H : Hp) : SqT K H a (l.map V.str) := wtupB_ok (He.ba c.ok).2 H
theorem WtI.sq {l : List Int} (c : WtI K a l) (H : Hp) : SqT K H a (l.map V.int) := by
  have h := c.ok
  unfold wtIB at h
  split at h
  · rename_i o e
    obtain ⟨h1, h2⟩ := He.ba h
    split at h2
    · rename_i its n d
      obtain ⟨h3, h4⟩ := He.ba h2
      exact .inr ⟨o, its, n, e, of_decide_eq_true h1, d, Nat.le_trans (of_decide_eq_true h3) (by decide), intsB_ok h4⟩
    · cases h2
  · cases h
theorem o_inWt [c : WtS K a l] (q : Q (.bl (decide (s ∈ l))) H) : rInA K false (.str s) (.ref a) H Q := o_inT (c.sq H) q
theorem o_ninWt [c : WtS K a l] (q : Q (.bl (!decide (s ∈ l))) H) : rInA K true (.str s) (.ref a) H Q := o_ninT (c.sq H) q
theorem k_rbmW [c : WtS K a l] (q : tr σ H fun xs H2 => ro (.ref a) xs H2 Q) : RBM K "tuple" ro tr σ Q (.ref a) H := by
  have h := (He.ba c.ok).1
  unfold plT at h
  split at h
  · rename_i o eo
    obtain ⟨h2, h3⟩ := He.ba h
    exact ⟨.inr (.inl ⟨rfl, o, eo, of_decide_eq_true h2, Option.isNone_iff_eq_none.mp h3⟩), q⟩
  · cases h
/-- the place of a text in a list -/
class IxC (l : List Str) (s : Str) (j : outParam Nat) : Prop where
  at_ : l[j]? = some s
  no : ∀ m, m < j → l[m]? ≠ some s
theorem ixC {l : List Str} {s : Str} {j : Nat} (h1 : l[j]? = some s) (h2 : (List.range j).all (fun m => decide (l[m]? ≠ some s)) = true) : IxC l s j := ⟨h1, fun m hm => of_decide_eq_true (List.all_eq_true.mp h2 m (List.mem_range.mpr hm))⟩
theorem o_tix [c : WtS K a l] {j : Nat} [i : IxC l s j] (q : Q (.int (j : Nat)) H) : rTIndex K (.ref a) [.str s] H Q := ⟨a, l, s, j, rfl, rfl, c.sq H, i.at_, i.no, q⟩
theorem o_ixWI {l : List Int} [c : WtI K a l] {p : Int} {v : Int} (h0 : 0 ≤ p) (e : l[p.toNat]? = some v) (q : Q (.int v) H) : rIx K (.ref a) (.int p) H Q := o_ixTn (c.sq H) h0 (by rw [List.getElem?_map, e]; rfl) q
end
end L2.MP
namespace L2.MP
open PySem PySem.Spec PyProof.Rows L2
def wtSB_ (x : Str) (l : List Str) (K : PySem.W.Frag) : Bool := wtSB (He.ga K x) l K
def wtIB_ (x : Str) (l : List Int) (K : PySem.W.Frag) : Bool := wtIB (He.ga K x) l K
end L2.MP
namespace L2.MP
open PySem PySem.Spec PyProof.Rows L2
section
variable {K : PySem.W.Frag} {H : Hp} {Q : VK} {p tp : Addr} {xs : List V} {T : String} {b : Bool}
theorem ltP : Paired ClsV [.ty "list", .ty "tuple"] [.type "list", .type "tuple"] := .cons (.ty _) (.cons (.ty _) .nil)
theorem kitLT (h1 : kitB "list" "list" = some true) : True := trivial
theorem kany {t : Value} {a b : Bool} [c1 : Kit K t (.type "list") a] [c2 : Kit K t (.type "tuple") b] : PySem.W.kitAny K t [.type "list", .type "tuple"] = some (a || b) := by
  unfold PySem.W.kitAny
  rw [c1.eq]
  cases a
  · unfold PySem.W.kitAny
    rw [c2.eq]
    cases b <;> rfl
  · rfl
theorem i_ltT (h : H p = some (.tup xs)) (ht : H tp = some (.tup [.ty "list", .ty "tuple"])) (q : Q (.bl true) H) : rIsiT K [.ref p, .ref tp] H Q :=
  ⟨_, _, _, _, _, _, rfl, ht, ltP, .base (.tup h), kany, q⟩
theorem i_ltL (h : H p = some (.lst xs)) (ht : H tp = some (.tup [.ty "list", .ty "tuple"])) (q : Q (.bl true) H) : rIsiT K [.ref p, .ref tp] H Q :=
  ⟨_, _, _, _, _, _, rfl, ht, ltP, .base (.lst h), kany, q⟩
theorem i_ltN {x : V} [t : TyN x T] [c1 : Kit K (.type T) (.type "list") false] [c2 : Kit K (.type T) (.type "tuple") false] (ht : H tp = some (.tup [.ty "list", .ty "tuple"])) (q : Q (.bl false) H) : rIsiT K [x, .ref tp] H Q :=
  ⟨_, _, _, _, _, _, rfl, ht, ltP, t.ty K H, kany (a := false) (b := false), q⟩
end
end L2.MP

set_option Elab.async false
set_option linter.all false
set_option maxRecDepth 100000
set_option maxHeartbeats 4000000
namespace L2.MP
open PySem PySem.Spec PyProof.Rows L2 NdefX
/-! ### the text -/
abbrev prog : Program := PySem.Challenge.pw_stickymarks_k15_build_step
def top (i : Nat) : Stmt := prog.main.body.getD i (.Pass ⟨0, 0, 0, 0⟩)
inductive Fn where
  | Step_init | Take_init | Take_row | Set_init | Set_row | Work_init | Work_row | Print_init | Print_row | Test_init | Test_row | Block_init | Loop_init | Loop_row | Guard_init | Guard_row | Call_init | Call_row | Leave_init | Leave_row | rows_of | check_name | check_number | build_body | build_step | build_named | law_cell | law_draws | law_names | law_rows | law_row | law_deep_row | law_written | law_once | law_same | law_lists | law_kinds | law_due | law_reads | law_fits | law
abbrev Gm := Fn → Sp
abbrev st_Step_init : Stmt := inClass (top 5) 0
abbrev N_Step_init : List Str := [("self" : Str), ("writes" : Str), ("reads" : Str), ("parts" : Str), ("part" : Str), ("step" : Str), ("name" : Str)]
abbrev st_Take_init : Stmt := inClass (top 9) 0
abbrev N_Take_init : List Str := [("self" : Str), ("name" : Str), ("at" : Str), ("__class__" : Str)]
abbrev st_Take_row : Stmt := inClass (top 9) 1
abbrev N_Take_row : List Str := [("self" : Str)]
abbrev st_Set_init : Stmt := inClass (top 10) 0
abbrev N_Set_init : List Str := [("self" : Str), ("name" : Str), ("bit" : Str), ("__class__" : Str)]
abbrev st_Set_row : Stmt := inClass (top 10) 1
abbrev N_Set_row : List Str := [("self" : Str)]
abbrev st_Work_init : Stmt := inClass (top 11) 0
abbrev N_Work_init : List Str := [("self" : Str), ("name" : Str), ("left" : Str), ("right" : Str), ("table" : Str), ("__class__" : Str)]
abbrev st_Work_row : Stmt := inClass (top 11) 1
abbrev N_Work_row : List Str := [("self" : Str)]
abbrev st_Print_init : Stmt := inClass (top 12) 0
abbrev N_Print_init : List Str := [("self" : Str), ("channel" : Str), ("name" : Str), ("__class__" : Str)]
abbrev st_Print_row : Stmt := inClass (top 12) 1
abbrev N_Print_row : List Str := [("self" : Str)]
abbrev st_Test_init : Stmt := inClass (top 13) 0
abbrev N_Test_init : List Str := [("self" : Str), ("name" : Str), ("first" : Str), ("second" : Str), ("__class__" : Str)]
abbrev st_Test_row : Stmt := inClass (top 13) 1
abbrev N_Test_row : List Str := [("self" : Str)]
abbrev st_Block_init : Stmt := inClass (top 14) 0
abbrev N_Block_init : List Str := [("self" : Str), ("kind" : Str), ("reads" : Str), ("parts" : Str), ("__class__" : Str)]
abbrev st_Loop_init : Stmt := inClass (top 15) 0
abbrev N_Loop_init : List Str := [("self" : Str), ("name" : Str), ("turns" : Str), ("body" : Str), ("__class__" : Str)]
abbrev st_Loop_row : Stmt := inClass (top 15) 1
abbrev N_Loop_row : List Str := [("self" : Str)]
abbrev st_Guard_init : Stmt := inClass (top 16) 0
abbrev N_Guard_init : List Str := [("self" : Str), ("body" : Str), ("handler" : Str), ("__class__" : Str)]
abbrev st_Guard_row : Stmt := inClass (top 16) 1
abbrev N_Guard_row : List Str := [("self" : Str)]
abbrev st_Call_init : Stmt := inClass (top 17) 0
abbrev N_Call_init : List Str := [("self" : Str), ("body" : Str), ("__class__" : Str)]
abbrev st_Call_row : Stmt := inClass (top 17) 1
abbrev N_Call_row : List Str := [("self" : Str)]
abbrev st_Leave_init : Stmt := inClass (top 18) 0
abbrev N_Leave_init : List Str := [("self" : Str), ("__class__" : Str)]
abbrev st_Leave_row : Stmt := inClass (top 18) 1
abbrev N_Leave_row : List Str := [("self" : Str)]
abbrev st_rows_of : Stmt := top 19
abbrev N_rows_of : List Str := [("steps" : Str), ("step" : Str)]
abbrev st_check_name : Stmt := top 26
abbrev N_check_name : List Str := [("name" : Str), ("sign" : Str)]
abbrev st_check_number : Stmt := top 27
abbrev N_check_number : List Str := [("number" : Str), ("low" : Str), ("high" : Str)]
abbrev st_build_body : Stmt := top 28
abbrev N_build_body : List Str := [("body" : Str), ("deep" : Str), ("row" : Str)]
abbrev st_build_step : Stmt := top 29
abbrev N_build_step : List Str := [("row" : Str), ("deep" : Str), ("kind" : Str), ("body" : Str), ("handler" : Str), ("step" : Str)]
abbrev st_build_named : Stmt := top 30
abbrev N_build_named : List Str := [("row" : Str), ("deep" : Str), ("kind" : Str), ("step" : Str)]
abbrev st_law_cell : Stmt := top 32
abbrev N_law_cell : List Str := [("_law_script" : Str), ("_law_k" : Str)]
abbrev st_law_draws : Stmt := top 33
abbrev N_law_draws : List Str := [("_law_cell_here" : Str), ("_law_many" : Str), ("_law_salt" : Str), ("_law_size" : Str), ("_law_rest" : Str), ("_law_draws_here" : Str), ("_law_k" : Str), ("_law_mixed" : Str)]
abbrev st_law_names : Stmt := top 34
abbrev N_law_names : List Str := [("_law_draws_here" : Str), ("_law_letters" : Str), ("_law_names_here" : Str), ("_law_k" : Str), ("_law_name" : Str)]
abbrev st_law_rows : Stmt := top 35
abbrev N_law_rows : List Str := [("_law_draws_here" : Str), ("_law_start" : Str), ("_law_count" : Str), ("_law_deep" : Str), ("_law_names_here" : Str), ("_law_shape" : Str), ("_law_rows_here" : Str), ("_law_at" : Str), ("_law_k" : Str), ("_law_made" : Str)]
abbrev st_law_row : Stmt := top 36
abbrev N_law_row : List Str := [("_law_draws_here" : Str), ("_law_at" : Str), ("_law_deep" : Str), ("_law_names_here" : Str), ("_law_shape" : Str), ("_law_kind" : Str), ("_law_name" : Str), ("_law_rest" : Str), ("_law_left" : Str)]
abbrev st_law_deep_row : Stmt := top 37
abbrev N_law_deep_row : List Str := [("_law_draws_here" : Str), ("_law_at" : Str), ("_law_deep" : Str), ("_law_names_here" : Str), ("_law_shape" : Str), ("_law_kind" : Str), ("_law_name" : Str), ("_law_count" : Str), ("_law_other" : Str), ("_law_first" : Str), ("_law_second" : Str), ("_law_inner" : Str), ("_law_body" : Str), ("_law_outer" : Str), ("_law_handler" : Str)]
abbrev st_law_written : Stmt := top 38
abbrev N_law_written : List Str := [("_law_rows_here" : Str), ("_law_found" : Str), ("_law_row_here" : Str), ("_law_part" : Str)]
abbrev st_law_once : Stmt := top 40
abbrev N_law_once : List Str := [("_law_names_here" : Str), ("_law_found" : Str), ("_law_name" : Str)]
abbrev st_law_same : Stmt := top 41
abbrev N_law_same : List Str := [("_law_got" : Str), ("_law_due_here" : Str), ("_law_k" : Str)]
abbrev st_law_lists : Stmt := top 42
abbrev N_law_lists : List Str := [("_law_rows_here" : Str), ("_law_made" : Str), ("_law_row_here" : Str), ("_law_parts" : Str), ("_law_part" : Str)]
abbrev st_law_kinds : Stmt := top 43
abbrev N_law_kinds : List Str := [("_law_step" : Str), ("_law_found" : Str)]
abbrev st_law_due : Stmt := top 44
abbrev N_law_due : List Str := [("_law_kind" : Str), ("_law_kinds_here" : Str), ("_law_due_here" : Str), ("_law_one" : Str)]
abbrev st_law_reads : Stmt := top 45
abbrev N_law_reads : List Str := [("_law_row_here" : Str)]
abbrev st_law_fits : Stmt := top 46
abbrev N_law_fits : List Str := [("_law_row_here" : Str), ("_law_given" : Str), ("_law_step" : Str)]
abbrev st_law : Stmt := top 47
abbrev N_law : List Str := [("_law_script" : Str), ("_law_names_here" : Str), ("_law_shape" : Str), ("_law_rows_here" : Str), ("_law_given" : Str), ("_law_k" : Str)]
def ps : Fn → List Str
  | .Step_init => [("self" : Str), ("writes" : Str), ("reads" : Str), ("parts" : Str)]
  | .Take_init => [("self" : Str), ("name" : Str), ("at" : Str)]
  | .Take_row => [("self" : Str)]
  | .Set_init => [("self" : Str), ("name" : Str), ("bit" : Str)]
  | .Set_row => [("self" : Str)]
  | .Work_init => [("self" : Str), ("name" : Str), ("left" : Str), ("right" : Str), ("table" : Str)]
  | .Work_row => [("self" : Str)]
  | .Print_init => [("self" : Str), ("channel" : Str), ("name" : Str)]
  | .Print_row => [("self" : Str)]
  | .Test_init => [("self" : Str), ("name" : Str), ("first" : Str), ("second" : Str)]
  | .Test_row => [("self" : Str)]
  | .Block_init => [("self" : Str), ("kind" : Str), ("reads" : Str), ("parts" : Str)]
  | .Loop_init => [("self" : Str), ("name" : Str), ("turns" : Str), ("body" : Str)]
  | .Loop_row => [("self" : Str)]
  | .Guard_init => [("self" : Str), ("body" : Str), ("handler" : Str)]
  | .Guard_row => [("self" : Str)]
  | .Call_init => [("self" : Str), ("body" : Str)]
  | .Call_row => [("self" : Str)]
  | .Leave_init => [("self" : Str)]
  | .Leave_row => [("self" : Str)]
  | .rows_of => [("steps" : Str)]
  | .check_name => [("name" : Str)]
  | .check_number => [("number" : Str), ("low" : Str), ("high" : Str)]
  | .build_body => [("body" : Str), ("deep" : Str)]
  | .build_step => [("row" : Str), ("deep" : Str)]
  | .build_named => [("row" : Str), ("deep" : Str)]
  | .law_cell => [("_law_script" : Str), ("_law_k" : Str)]
  | .law_draws => [("_law_cell_here" : Str), ("_law_many" : Str), ("_law_salt" : Str)]
  | .law_names => [("_law_draws_here" : Str)]
  | .law_rows => [("_law_draws_here" : Str), ("_law_start" : Str), ("_law_count" : Str), ("_law_deep" : Str), ("_law_names_here" : Str), ("_law_shape" : Str)]
  | .law_row => [("_law_draws_here" : Str), ("_law_at" : Str), ("_law_deep" : Str), ("_law_names_here" : Str), ("_law_shape" : Str)]
  | .law_deep_row => [("_law_draws_here" : Str), ("_law_at" : Str), ("_law_deep" : Str), ("_law_names_here" : Str), ("_law_shape" : Str)]
  | .law_written => [("_law_rows_here" : Str)]
  | .law_once => [("_law_names_here" : Str)]
  | .law_same => [("_law_got" : Str), ("_law_due_here" : Str)]
  | .law_lists => [("_law_rows_here" : Str)]
  | .law_kinds => [("_law_step" : Str)]
  | .law_due => [("_law_kind" : Str)]
  | .law_reads => [("_law_row_here" : Str)]
  | .law_fits => [("_law_row_here" : Str), ("_law_given" : Str)]
  | .law => [("_law_script" : Str)]
def dm : Fn → DefM
  | .Step_init => ⟨fun K => He.ma K (He.ga K ("Step" : Str)) ("__init__" : Str), ("__init__" : Str), ("Step.__init__" : Str), st_Step_init, [], [], []⟩
  | .Take_init => ⟨fun K => He.ma K (He.ga K ("Take" : Str)) ("__init__" : Str), ("__init__" : Str), ("Take.__init__" : Str), st_Take_init, [], [], [("__class__" : Str)]⟩
  | .Take_row => ⟨fun K => He.ma K (He.ga K ("Take" : Str)) ("row" : Str), ("row" : Str), ("Take.row" : Str), st_Take_row, [], [], []⟩
  | .Set_init => ⟨fun K => He.ma K (He.ga K ("Set" : Str)) ("__init__" : Str), ("__init__" : Str), ("Set.__init__" : Str), st_Set_init, [], [], [("__class__" : Str)]⟩
  | .Set_row => ⟨fun K => He.ma K (He.ga K ("Set" : Str)) ("row" : Str), ("row" : Str), ("Set.row" : Str), st_Set_row, [], [], []⟩
  | .Work_init => ⟨fun K => He.ma K (He.ga K ("Work" : Str)) ("__init__" : Str), ("__init__" : Str), ("Work.__init__" : Str), st_Work_init, [], [], [("__class__" : Str)]⟩
  | .Work_row => ⟨fun K => He.ma K (He.ga K ("Work" : Str)) ("row" : Str), ("row" : Str), ("Work.row" : Str), st_Work_row, [], [], []⟩
  | .Print_init => ⟨fun K => He.ma K (He.ga K ("Print" : Str)) ("__init__" : Str), ("__init__" : Str), ("Print.__init__" : Str), st_Print_init, [], [], [("__class__" : Str)]⟩
  | .Print_row => ⟨fun K => He.ma K (He.ga K ("Print" : Str)) ("row" : Str), ("row" : Str), ("Print.row" : Str), st_Print_row, [], [], []⟩
  | .Test_init => ⟨fun K => He.ma K (He.ga K ("Test" : Str)) ("__init__" : Str), ("__init__" : Str), ("Test.__init__" : Str), st_Test_init, [], [], [("__class__" : Str)]⟩
  | .Test_row => ⟨fun K => He.ma K (He.ga K ("Test" : Str)) ("row" : Str), ("row" : Str), ("Test.row" : Str), st_Test_row, [], [], []⟩
  | .Block_init => ⟨fun K => He.ma K (He.ga K ("Block" : Str)) ("__init__" : Str), ("__init__" : Str), ("Block.__init__" : Str), st_Block_init, [], [], [("__class__" : Str)]⟩
  | .Loop_init => ⟨fun K => He.ma K (He.ga K ("Loop" : Str)) ("__init__" : Str), ("__init__" : Str), ("Loop.__init__" : Str), st_Loop_init, [], [], [("__class__" : Str)]⟩
  | .Loop_row => ⟨fun K => He.ma K (He.ga K ("Loop" : Str)) ("row" : Str), ("row" : Str), ("Loop.row" : Str), st_Loop_row, [], [], []⟩
  | .Guard_init => ⟨fun K => He.ma K (He.ga K ("Guard" : Str)) ("__init__" : Str), ("__init__" : Str), ("Guard.__init__" : Str), st_Guard_init, [], [], [("__class__" : Str)]⟩
  | .Guard_row => ⟨fun K => He.ma K (He.ga K ("Guard" : Str)) ("row" : Str), ("row" : Str), ("Guard.row" : Str), st_Guard_row, [], [], []⟩
  | .Call_init => ⟨fun K => He.ma K (He.ga K ("Call" : Str)) ("__init__" : Str), ("__init__" : Str), ("Call.__init__" : Str), st_Call_init, [], [], [("__class__" : Str)]⟩
  | .Call_row => ⟨fun K => He.ma K (He.ga K ("Call" : Str)) ("row" : Str), ("row" : Str), ("Call.row" : Str), st_Call_row, [], [], []⟩
  | .Leave_init => ⟨fun K => He.ma K (He.ga K ("Leave" : Str)) ("__init__" : Str), ("__init__" : Str), ("Leave.__init__" : Str), st_Leave_init, [], [], [("__class__" : Str)]⟩
  | .Leave_row => ⟨fun K => He.ma K (He.ga K ("Leave" : Str)) ("row" : Str), ("row" : Str), ("Leave.row" : Str), st_Leave_row, [], [], []⟩
  | .rows_of => ⟨fun K => He.ga K ("rows_of" : Str), ("rows_of" : Str), ("rows_of" : Str), st_rows_of, [], [], []⟩
  | .check_name => ⟨fun K => He.ga K ("check_name" : Str), ("check_name" : Str), ("check_name" : Str), st_check_name, [], [], []⟩
  | .check_number => ⟨fun K => He.ga K ("check_number" : Str), ("check_number" : Str), ("check_number" : Str), st_check_number, [], [], []⟩
  | .build_body => ⟨fun K => He.ga K ("build_body" : Str), ("build_body" : Str), ("build_body" : Str), st_build_body, [], [], []⟩
  | .build_step => ⟨fun K => He.ga K ("build_step" : Str), ("build_step" : Str), ("build_step" : Str), st_build_step, [He.Dv.int 0], [], []⟩
  | .build_named => ⟨fun K => He.ga K ("build_named" : Str), ("build_named" : Str), ("build_named" : Str), st_build_named, [], [], []⟩
  | .law_cell => ⟨fun K => He.ga K ("_law_cell" : Str), ("_law_cell" : Str), ("_law_cell" : Str), st_law_cell, [], [], []⟩
  | .law_draws => ⟨fun K => He.ga K ("_law_draws" : Str), ("_law_draws" : Str), ("_law_draws" : Str), st_law_draws, [], [], []⟩
  | .law_names => ⟨fun K => He.ga K ("_law_names" : Str), ("_law_names" : Str), ("_law_names" : Str), st_law_names, [], [], []⟩
  | .law_rows => ⟨fun K => He.ga K ("_law_rows" : Str), ("_law_rows" : Str), ("_law_rows" : Str), st_law_rows, [], [], []⟩
  | .law_row => ⟨fun K => He.ga K ("_law_row" : Str), ("_law_row" : Str), ("_law_row" : Str), st_law_row, [], [], []⟩
  | .law_deep_row => ⟨fun K => He.ga K ("_law_deep_row" : Str), ("_law_deep_row" : Str), ("_law_deep_row" : Str), st_law_deep_row, [], [], []⟩
  | .law_written => ⟨fun K => He.ga K ("_law_written" : Str), ("_law_written" : Str), ("_law_written" : Str), st_law_written, [], [], []⟩
  | .law_once => ⟨fun K => He.ga K ("_law_once" : Str), ("_law_once" : Str), ("_law_once" : Str), st_law_once, [], [], []⟩
  | .law_same => ⟨fun K => He.ga K ("_law_same" : Str), ("_law_same" : Str), ("_law_same" : Str), st_law_same, [], [], []⟩
  | .law_lists => ⟨fun K => He.ga K ("_law_lists" : Str), ("_law_lists" : Str), ("_law_lists" : Str), st_law_lists, [], [], []⟩
  | .law_kinds => ⟨fun K => He.ga K ("_law_kinds" : Str), ("_law_kinds" : Str), ("_law_kinds" : Str), st_law_kinds, [], [], []⟩
  | .law_due => ⟨fun K => He.ga K ("_law_due" : Str), ("_law_due" : Str), ("_law_due" : Str), st_law_due, [], [], []⟩
  | .law_reads => ⟨fun K => He.ga K ("_law_reads" : Str), ("_law_reads" : Str), ("_law_reads" : Str), st_law_reads, [], [], []⟩
  | .law_fits => ⟨fun K => He.ga K ("_law_fits" : Str), ("_law_fits" : Str), ("_law_fits" : Str), st_law_fits, [], [], []⟩
  | .law => ⟨fun K => He.ga K ("law" : Str), ("law" : Str), ("law" : Str), st_law, [], [], []⟩
/-! ### the readings -/
section
variable (K : PySem.W.Frag) (W : World) (G : Gm) (E : XK)
def rd_Step_init : TS := (tSeq (sFld K (tVar 0) (tVar 1) ("writes" : Str)) (tSeq (sFld K (tVar 0) (tVar 2) ("reads" : Str)) (tSeq (sFld K (tVar 0) (tVar 3) ("parts" : Str)) (tSeq (sFld K (tVar 0) (tC (.bl false)) ("leaves" : Str)) (tSeq (sFld K (tVar 0) (tC (.int 0)) ("loops" : Str)) (tFor (iAny K (tVar 3)) (gName 4) (tFor (iAny K (tVar 4)) (gName 5) (tSeq (sFld K (tVar 0) (tOp (rAddA K) (tFld K (tVar 0) ("writes" : Str)) (tCB (rTupleA K) (tCons (tLc (iAny K (tFld K (tVar 5) ("writes" : Str))) (gName 6) (tTest (tOp (rInA K true) (tVar 6) (tFld K (tVar 0) ("writes" : Str)))) (tVar 6) [6]) tNil))) ("writes" : Str)) (tSeq (sFld K (tVar 0) (tOrV (tFld K (tVar 0) ("leaves" : Str)) (tFld K (tVar 5) ("leaves" : Str))) ("leaves" : Str)) (sFld K (tVar 0) (tCB rMax2I (tCons (tCB rIntA (tCons (tFld K (tVar 0) ("loops" : Str)) tNil)) (tCons (tFld K (tVar 5) ("loops" : Str)) tNil))) ("loops" : Str)))))))))))
def rd_Take_init : TS := (tSeq (tSup [He.ga K ("Take" : Str)] (G .Step_init) (fun _ => E) (tCons (tTup (tCons (tVar 1) tNil)) (tCons (tTup tNil) (tCons (tTup tNil) tNil)))) (sFld K (tVar 0) (tVar 2) ("at" : Str)))
def rd_Take_row : TS := (tRet (tTup (tCons (tC (.str ("take" : Str))) (tCons (tOp (rIx K) (tFld K (tVar 0) ("writes" : Str)) (tC (.int 0))) (tCons (tFld K (tVar 0) ("at" : Str)) tNil)))))
def rd_Set_init : TS := (tSeq (tSup [He.ga K ("Set" : Str)] (G .Step_init) (fun _ => E) (tCons (tTup (tCons (tVar 1) tNil)) (tCons (tTup tNil) (tCons (tTup tNil) tNil)))) (sFld K (tVar 0) (tVar 2) ("bit" : Str)))
def rd_Set_row : TS := (tRet (tTup (tCons (tC (.str ("set" : Str))) (tCons (tOp (rIx K) (tFld K (tVar 0) ("writes" : Str)) (tC (.int 0))) (tCons (tFld K (tVar 0) ("bit" : Str)) tNil)))))
def rd_Work_init : TS := (tSeq (tSup [He.ga K ("Work" : Str)] (G .Step_init) (fun _ => E) (tCons (tTup (tCons (tVar 1) tNil)) (tCons (tTup (tCons (tVar 2) (tCons (tVar 3) tNil))) (tCons (tTup tNil) tNil)))) (sFld K (tVar 0) (tVar 4) ("table" : Str)))
def rd_Work_row : TS := (tRet (tTup (tCons (tC (.str ("work" : Str))) (tCons (tOp (rIx K) (tFld K (tVar 0) ("writes" : Str)) (tC (.int 0))) (tCons (tOp (rIx K) (tFld K (tVar 0) ("reads" : Str)) (tC (.int 0))) (tCons (tOp (rIx K) (tFld K (tVar 0) ("reads" : Str)) (tC (.int 1))) (tCons (tFld K (tVar 0) ("table" : Str)) tNil)))))))
def rd_Print_init : TS := (tSeq (tSup [He.ga K ("Print" : Str)] (G .Step_init) (fun _ => E) (tCons (tTup tNil) (tCons (tTup (tCons (tVar 2) tNil)) (tCons (tTup tNil) tNil)))) (sFld K (tVar 0) (tVar 1) ("channel" : Str)))
def rd_Print_row : TS := (tRet (tTup (tCons (tC (.str ("print" : Str))) (tCons (tFld K (tVar 0) ("channel" : Str)) (tCons (tOp (rIx K) (tFld K (tVar 0) ("reads" : Str)) (tC (.int 0))) tNil)))))
def rd_Test_init : TS := (tSeq (tSup [He.ga K ("Test" : Str)] (G .Step_init) (fun _ => E) (tCons (tTup tNil) (tCons (tTup (tCons (tVar 1) tNil)) (tCons (tTup (tCons (tVar 2) (tCons (tVar 3) tNil))) tNil)))) tNext)
def rd_Test_row : TS := (tRet (tTup (tCons (tC (.str ("test" : Str))) (tCons (tOp (rIx K) (tFld K (tVar 0) ("reads" : Str)) (tC (.int 0))) (tCons (tCallSD (G .rows_of) [] (fun _ => E) (tCons (tOp (rIx K) (tFld K (tVar 0) ("parts" : Str)) (tC (.int 0))) tNil)) (tCons (tCallSD (G .rows_of) [] (fun _ => E) (tCons (tOp (rIx K) (tFld K (tVar 0) ("parts" : Str)) (tC (.int 1))) tNil)) tNil))))))
def rd_Block_init : TS := (tSeq (tSup [He.ga K ("Block" : Str), He.ga K ("Loop" : Str), He.ga K ("Guard" : Str), He.ga K ("Call" : Str)] (G .Step_init) (fun _ => E) (tCons (tTup tNil) (tCons (tVar 2) (tCons (tVar 3) tNil)))) (tSeq (sFld K (tVar 0) (tVar 1) ("kind" : Str)) (tSeq (sFld K (tVar 0) (tFld K (tVar 0) ("leaves" : Str)) ("opened" : Str)) (sFld K (tVar 0) (tC (.bl false)) ("leaves" : Str)))))
def rd_Loop_init : TS := (tSeq (tSup [He.ga K ("Loop" : Str)] (G .Block_init) (fun _ => E) (tCons (tC (.str ("loop" : Str))) (tCons (tTup (tCons (tVar 1) tNil)) (tCons (tTup (tCons (tVar 3) tNil)) tNil)))) (tSeq (sFld K (tVar 0) (tVar 2) ("turns" : Str)) (sFld K (tVar 0) (tOp (rAddA K) (tC (.int 1)) (tFld K (tVar 0) ("loops" : Str))) ("loops" : Str))))
def rd_Loop_row : TS := (tRet (tTup (tCons (tC (.str ("loop" : Str))) (tCons (tOp (rIx K) (tFld K (tVar 0) ("reads" : Str)) (tC (.int 0))) (tCons (tFld K (tVar 0) ("turns" : Str)) (tCons (tCallSD (G .rows_of) [] (fun _ => E) (tCons (tOp (rIx K) (tFld K (tVar 0) ("parts" : Str)) (tC (.int 0))) tNil)) tNil))))))
def rd_Guard_init : TS := (tSeq (tSup [He.ga K ("Guard" : Str)] (G .Block_init) (fun _ => E) (tCons (tC (.str ("guard" : Str))) (tCons (tTup tNil) (tCons (tTup (tCons (tVar 1) (tCons (tVar 2) tNil))) tNil)))) tNext)
def rd_Guard_row : TS := (tRet (tTup (tCons (tC (.str ("guard" : Str))) (tCons (tCallSD (G .rows_of) [] (fun _ => E) (tCons (tOp (rIx K) (tFld K (tVar 0) ("parts" : Str)) (tC (.int 0))) tNil)) (tCons (tCallSD (G .rows_of) [] (fun _ => E) (tCons (tOp (rIx K) (tFld K (tVar 0) ("parts" : Str)) (tC (.int 1))) tNil)) tNil)))))
def rd_Call_init : TS := (tSeq (tSup [He.ga K ("Call" : Str)] (G .Block_init) (fun _ => E) (tCons (tC (.str ("call" : Str))) (tCons (tTup tNil) (tCons (tTup (tCons (tVar 1) tNil)) tNil)))) tNext)
def rd_Call_row : TS := (tRet (tTup (tCons (tC (.str ("call" : Str))) (tCons (tCallSD (G .rows_of) [] (fun _ => E) (tCons (tOp (rIx K) (tFld K (tVar 0) ("parts" : Str)) (tC (.int 0))) tNil)) tNil))))
def rd_Leave_init : TS := (tSeq (tSup [He.ga K ("Leave" : Str)] (G .Step_init) (fun _ => E) (tCons (tTup tNil) (tCons (tTup tNil) (tCons (tTup tNil) tNil)))) (sFld K (tVar 0) (tC (.bl true)) ("leaves" : Str)))
def rd_Leave_row : TS := (tRet (tTup (tCons (tC (.str ("leave" : Str))) tNil)))
def rd_rows_of : TS := (tRet (tCB (rTupleA K) (tCons (tLc (iAny K (tVar 0)) (gName 1) tYes (tDyn [(He.ga K ("Take" : Str), G .Take_row), (He.ga K ("Set" : Str), G .Set_row), (He.ga K ("Work" : Str), G .Work_row), (He.ga K ("Print" : Str), G .Print_row), (He.ga K ("Test" : Str), G .Test_row), (He.ga K ("Loop" : Str), G .Loop_row), (He.ga K ("Guard" : Str), G .Guard_row), (He.ga K ("Call" : Str), G .Call_row), (He.ga K ("Leave" : Str), G .Leave_row)] ("row" : Str) [] (fun _ => E0) (tVar 1) tNil) [1]) tNil)))
def rd_check_name : TS := (tSeq (tIfS (tOr (tNot (tB (tCB (rIsi K) (tCons (tVar 0) (tCons (tC (.ty "str")) tNil))))) (tOr (tTest (tOp rLtI (tCB (rLenA K) (tCons (tVar 0) tNil)) (tC (.int 1)))) (tOr (tTest (tOp rGtI (tCB (rLenA K) (tCons (tVar 0) tNil)) (tC (.int 12)))) (tTest (tOp (rInSg true) (tOp (rIx K) (tVar 0) (tC (.int 0))) (tC (.str ("abcdefghijklmnopqrstuvwxyz" : Str)))))))) (tRaiseE E (.ref (He.ga K "InvalidProgram"))) tNext) (tFor (iAny K (tVar 0)) (gName 1) (tIfS (tTest (tOp (rInSg true) (tVar 1) (tC (.str ("abcdefghijklmnopqrstuvwxyz0123456789" : Str))))) (tRaiseE E (.ref (He.ga K "InvalidProgram"))) tNext)))
def rd_check_number : TS := (tIfS (tOr (tNot (tB (tCB (rIsi K) (tCons (tVar 0) (tCons (tC (.ty "int")) tNil))))) (tOr (tB (tCB (rIsi K) (tCons (tVar 0) (tCons (tC (.ty "bool")) tNil)))) (tOr (tTest (tOp rLtI (tVar 0) (tVar 1))) (tTest (tOp rGtI (tVar 0) (tVar 2)))))) (tRaiseE E (.ref (He.ga K "InvalidProgram"))) tNext)
def rd_build_body : TS := (tSeq (tIfS (tOr (tNot (tB (tCB (rIsiT K) (tCons (tVar 0) (tCons (tTup (tCons (tC (.ty "list")) (tCons (tC (.ty "tuple")) tNil))) tNil))))) (tAnd (tTest (tOp rGtI (tVar 1) (tC (.int 40)))) (tTest (tOp rGtI (tCB (rLenA K) (tCons (tVar 0) tNil)) (tC (.int 0)))))) (tRaiseE E (.ref (He.ga K "InvalidProgram"))) tNext) (tRet (tCB (rTupleA K) (tCons (tLc (iAny K (tVar 0)) (gName 2) tYes (tCallSD (G .build_step) [] (fun _ => E0) (tCons (tVar 2) (tCons (tVar 1) tNil))) [2]) tNil))))
def rd_build_step : TS := (tSeq (tIfS (tOr (tNot (tB (tCB (rIsi K) (tCons (tVar 0) (tCons (tC (.ty "tuple")) tNil))))) (tOr (tTest (tOp rLtI (tCB (rLenA K) (tCons (tVar 0) tNil)) (tC (.int 1)))) (tTest (tOp (rInA K true) (tOp (rIx K) (tVar 0) (tC (.int 0))) (tC (.ref (He.ga K ("KINDS" : Str)))))))) (tRaiseE E (.ref (He.ga K "InvalidProgram"))) tNext) (tSeq (tAsg (tOp (rIx K) (tVar 0) (tC (.int 0))) (gName 2)) (tSeq (tIfS (tTest (tOp (rNeA K) (tCB (rLenA K) (tCons (tVar 0) tNil)) (tOp (rIx K) (tC (.ref (He.ga K ("SIZES" : Str)))) (tBM K "tuple" (rTIndex K) (tC (.ref (He.ga K ("KINDS" : Str)))) (tCons (tVar 2) tNil))))) (tRaiseE E (.ref (He.ga K "InvalidProgram"))) tNext) (tSeq (tIfS (tTest (tOp (rEqA K) (tVar 2) (tC (.str ("leave" : Str))))) (tRet (tMakeS (He.ga K "Leave") (G .Leave_init) [] (fun _ => E) tNil)) tNext) (tSeq (tIfS (tTest (tOp (rEqA K) (tVar 2) (tC (.str ("call" : Str))))) (tRet (tMakeS (He.ga K "Call") (G .Call_init) [] (fun _ => E) (tCons (tCallSD (G .build_body) [] (fun _ => E) (tCons (tOp (rIx K) (tVar 0) (tC (.int 1))) (tCons (tOp (rAddA K) (tVar 1) (tC (.int 1))) tNil))) tNil))) tNext) (tSeq (tIfS (tTest (tOp (rEqA K) (tVar 2) (tC (.str ("guard" : Str))))) (tSeq (tAsg (tCallSD (G .build_body) [] (fun _ => E) (tCons (tOp (rIx K) (tVar 0) (tC (.int 1))) (tCons (tOp (rAddA K) (tVar 1) (tC (.int 1))) tNil))) (gName 3)) (tSeq (tAsg (tCallSD (G .build_body) [] (fun _ => E) (tCons (tOp (rIx K) (tVar 0) (tC (.int 2))) (tCons (tOp (rAddA K) (tVar 1) (tC (.int 1))) tNil))) (gName 4)) (tSeq (tFor (iAny K (tVar 4)) (gName 5) (tIfS (tB (tFld K (tVar 5) ("leaves" : Str))) (tRaiseE E (.ref (He.ga K "InvalidProgram"))) tNext)) (tRet (tMakeS (He.ga K "Guard") (G .Guard_init) [] (fun _ => E) (tCons (tVar 3) (tCons (tVar 4) tNil))))))) tNext) (tSeq (tIfS (tTest (tOp (rEqA K) (tVar 2) (tC (.str ("print" : Str))))) (tSeq (tDrop (tCallSD (G .check_number) [] (fun _ => E) (tCons (tOp (rIx K) (tVar 0) (tC (.int 1))) (tCons (tC (.int 0)) (tCons (tC (.int 3)) tNil))))) (tSeq (tDrop (tCallSD (G .check_name) [] (fun _ => E) (tCons (tOp (rIx K) (tVar 0) (tC (.int 2))) tNil))) (tRet (tMakeS (He.ga K "Print") (G .Print_init) [] (fun _ => E) (tCons (tOp (rIx K) (tVar 0) (tC (.int 1))) (tCons (tOp (rIx K) (tVar 0) (tC (.int 2))) tNil)))))) tNext) (tRet (tCallSD (G .build_named) [] (fun _ => E) (tCons (tVar 0) (tCons (tVar 1) tNil)))))))))))
def rd_build_named : TS := (tSeq (tAsg (tOp (rIx K) (tVar 0) (tC (.int 0))) (gName 2)) (tSeq (tDrop (tCallSD (G .check_name) [] (fun _ => E) (tCons (tOp (rIx K) (tVar 0) (tC (.int 1))) tNil))) (tSeq (tIfS (tTest (tOp (rEqA K) (tVar 2) (tC (.str ("take" : Str))))) (tSeq (tDrop (tCallSD (G .check_number) [] (fun _ => E) (tCons (tOp (rIx K) (tVar 0) (tC (.int 2))) (tCons (tC (.int 0)) (tCons (tC (.int 15)) tNil))))) (tRet (tMakeS (He.ga K "Take") (G .Take_init) [] (fun _ => E) (tCons (tOp (rIx K) (tVar 0) (tC (.int 1))) (tCons (tOp (rIx K) (tVar 0) (tC (.int 2))) tNil))))) tNext) (tSeq (tIfS (tTest (tOp (rEqA K) (tVar 2) (tC (.str ("set" : Str))))) (tSeq (tDrop (tCallSD (G .check_number) [] (fun _ => E) (tCons (tOp (rIx K) (tVar 0) (tC (.int 2))) (tCons (tC (.int 0)) (tCons (tC (.int 1)) tNil))))) (tRet (tMakeS (He.ga K "Set") (G .Set_init) [] (fun _ => E) (tCons (tOp (rIx K) (tVar 0) (tC (.int 1))) (tCons (tOp (rIx K) (tVar 0) (tC (.int 2))) tNil))))) tNext) (tSeq (tIfS (tTest (tOp (rEqA K) (tVar 2) (tC (.str ("work" : Str))))) (tSeq (tDrop (tCallSD (G .check_name) [] (fun _ => E) (tCons (tOp (rIx K) (tVar 0) (tC (.int 2))) tNil))) (tSeq (tDrop (tCallSD (G .check_name) [] (fun _ => E) (tCons (tOp (rIx K) (tVar 0) (tC (.int 3))) tNil))) (tSeq (tDrop (tCallSD (G .check_number) [] (fun _ => E) (tCons (tOp (rIx K) (tVar 0) (tC (.int 4))) (tCons (tC (.int 0)) (tCons (tC (.int 15)) tNil))))) (tRet (tMakeS (He.ga K "Work") (G .Work_init) [] (fun _ => E) (tCons (tOp (rIx K) (tVar 0) (tC (.int 1))) (tCons (tOp (rIx K) (tVar 0) (tC (.int 2))) (tCons (tOp (rIx K) (tVar 0) (tC (.int 3))) (tCons (tOp (rIx K) (tVar 0) (tC (.int 4))) tNil))))))))) tNext) (tSeq (tIfS (tTest (tOp (rEqA K) (tVar 2) (tC (.str ("loop" : Str))))) (tSeq (tDrop (tCallSD (G .check_number) [] (fun _ => E) (tCons (tOp (rIx K) (tVar 0) (tC (.int 2))) (tCons (tC (.int 1)) (tCons (tC (.int 6)) tNil))))) (tSeq (tAsg (tMakeS (He.ga K "Loop") (G .Loop_init) [] (fun _ => E) (tCons (tOp (rIx K) (tVar 0) (tC (.int 1))) (tCons (tOp (rIx K) (tVar 0) (tC (.int 2))) (tCons (tCallSD (G .build_body) [] (fun _ => E) (tCons (tOp (rIx K) (tVar 0) (tC (.int 3))) (tCons (tOp (rAddA K) (tVar 1) (tC (.int 1))) tNil))) tNil)))) (gName 3)) (tSeq (tIfS (tTest (tOp rGtI (tFld K (tVar 3) ("loops" : Str)) (tC (.int 3)))) (tRaiseE E (.ref (He.ga K "InvalidProgram"))) tNext) (tRet (tVar 3))))) tNext) (tRet (tMakeS (He.ga K "Test") (G .Test_init) [] (fun _ => E) (tCons (tOp (rIx K) (tVar 0) (tC (.int 1))) (tCons (tCallSD (G .build_body) [] (fun _ => E) (tCons (tOp (rIx K) (tVar 0) (tC (.int 2))) (tCons (tOp (rAddA K) (tVar 1) (tC (.int 1))) tNil))) (tCons (tCallSD (G .build_body) [] (fun _ => E) (tCons (tOp (rIx K) (tVar 0) (tC (.int 3))) (tCons (tOp (rAddA K) (tVar 1) (tC (.int 1))) tNil))) tNil)))))))))))
def rd_law_cell : TS := (tSeq (tIfS (tTest (tOp rLtI (tVar 1) (tCB (rLenA K) (tCons (tVar 0) tNil)))) (tRet (tOp (rIx K) (tVar 0) (tVar 1))) tNext) (tRet (tC (.int 0))))
def rd_law_draws : TS := (tSeq (tAsg (tCB rAbsI (tCons (tVar 0) tNil)) (gName 3)) (tSeq (tAsg (tVar 3) (gName 4)) (tSeq (tAsg (tLst tNil) (gName 5)) (tSeq (tFor (iRng1 (tCons (tVar 1) tNil)) (gName 6) (tIfS (tAnd (tTest (tOp rGeI (tVar 3) (tOp rPowI (tC (.int 10)) (tC (.int 18))))) (tTest (tOp rGeI (tVar 4) (tC (.int 60))))) (tSeq (tDrop (tBM K "list" rAppend (tVar 5) (tCons (tOp rModI (tVar 4) (tC (.int 60))) tNil))) (tAsg (tOp rFdivI (tVar 4) (tC (.int 60))) (gName 4))) (tSeq (tAsg (tOp rModI (tOp (rAddA K) (tOp (rAddA K) (tOp (rAddA K) (tOp rMulA (tOp rModI (tVar 3) (tC (.int 1000003))) (tC (.int 48271))) (tOp rMulA (tVar 6) (tC (.int 69621)))) (tOp rMulA (tVar 2) (tC (.int 7919)))) (tC (.int 12345))) (tC (.int 2147483647))) (gName 7)) (tSeq (tAsg (tOp rModI (tOp (rAddA K) (tOp (rAddA K) (tOp rMulA (tVar 7) (tC (.int 16807))) (tOp rMulA (tVar 6) (tC (.int 40692)))) (tVar 2)) (tC (.int 2147483399))) (gName 7)) (tDrop (tBM K "list" rAppend (tVar 5) (tCons (tOp rModI (tOp rFdivI (tVar 7) (tC (.int 1009))) (tC (.int 60))) tNil))))))) (tRet (tVar 5))))))
def rd_law_names : TS := (tSeq (tAsg (tC (.str ("abcdefghijklmnopqrstuvwxyz" : Str))) (gName 1)) (tSeq (tAsg (tLst tNil) (gName 2)) (tSeq (tFor (iRng1 (tCons (tC (.int 4)) tNil)) (gName 3) (tSeq (tAsg (tOp (rIx K) (tVar 1) (tOp rModI (tOp (rAddA K) (tOp (rIx K) (tVar 0) (tC (.int 3))) (tOp rMulA (tOp (rIx K) (tLst (tCons (tC (.int 1)) (tCons (tC (.int 3)) (tCons (tC (.int 5)) (tCons (tC (.int 7)) tNil))))) (tOp rModI (tOp (rIx K) (tVar 0) (tC (.int 2))) (tC (.int 4)))) (tVar 3))) (tC (.int 26)))) (gName 4)) (tSeq (tAsg (tOp (rAddA K) (tOp (rAddA K) (tOp (rIx K) (tLst (tCons (tC (.str ("" : Str))) (tCons (tC (.str ("v" : Str))) (tCons (tC (.str ("x9" : Str))) (tCons (tC (.str ("name" : Str))) tNil))))) (tOp rModI (tOp (rIx K) (tVar 0) (tC (.int 0))) (tC (.int 4)))) (tVar 4)) (tOp (rIx K) (tLst (tCons (tC (.str ("" : Str))) (tCons (tC (.str ("0" : Str))) (tCons (tC (.str ("7z" : Str))) (tCons (tC (.str ("long" : Str))) tNil))))) (tOp rModI (tOp (rIx K) (tVar 0) (tC (.int 1))) (tC (.int 4))))) (gName 4)) (tDrop (tBM K "list" rAppend (tVar 2) (tCons (tOp (rAddA K) (tVar 4) (tOp rMulA (tC (.str ("1" : Str))) (tOp rMulA (tVar 3) (tOp rModI (tOp rFdivI (tOp (rIx K) (tVar 0) (tC (.int 2))) (tC (.int 4))) (tC (.int 2)))))) tNil)))))) (tRet (tVar 2)))))
def rd_law_rows : TS := (tSeq (tAsg (tLst tNil) (gName 6)) (tSeq (tAsg (tVar 1) (gName 7)) (tSeq (tFor (iRng1 (tCons (tVar 2) tNil)) (gName 8) (tSeq (tIfS (tTest (tOp rGtI (tOp (rAddA K) (tVar 7) (tC (.int 6))) (tCB (rLenA K) (tCons (tVar 0) tNil)))) tBreak tNext) (tSeq (tAsg (tCallSD (G .law_row) [] (fun _ => E) (tCons (tVar 0) (tCons (tVar 7) (tCons (tVar 3) (tCons (tVar 4) (tCons (tVar 5) tNil)))))) (gName 9)) (tSeq (tDrop (tBM K "list" rAppend (tVar 6) (tCons (tOp (rIx K) (tVar 9) (tC (.int 0))) tNil))) (tAsg (tOp (rIx K) (tVar 9) (tC (.int 1))) (gName 7)))))) (tRet (tTup (tCons (tCB (rTupleA K) (tCons (tVar 6) tNil)) (tCons (tVar 7) tNil)))))))
def rd_law_row : TS := (tSeq (tAsg (tOp rModI (tOp (rIx K) (tVar 0) (tVar 1)) (tOp (rIx K) (tVar 4) (tC (.int 3)))) (gName 5)) (tSeq (tAsg (tOp (rIx K) (tVar 3) (tOp rModI (tOp (rIx K) (tVar 0) (tOp (rAddA K) (tVar 1) (tC (.int 1)))) (tC (.int 4)))) (gName 6)) (tSeq (tAsg (tOp (rIx K) (tVar 0) (tOp (rAddA K) (tVar 1) (tC (.int 4)))) (gName 7)) (tSeq (tIfS (tAnd (tTest (tOp rGtI (tVar 2) (tC (.int 0)))) (tTest (tOp rGeI (tVar 5) (tC (.int 7))))) (tRet (tCallSD (G .law_deep_row) [] (fun _ => E) (tCons (tVar 0) (tCons (tVar 1) (tCons (tVar 2) (tCons (tVar 3) (tCons (tVar 4) tNil))))))) tNext) (tSeq (tIfS (tAnd (tTest (tOp (rInA K false) (tVar 5) (tTup (tCons (tC (.int 0)) (tCons (tC (.int 1)) (tCons (tC (.int 7)) tNil)))))) (tTest (tOp (rNeA K) (tOp (rIx K) (tVar 4) (tC (.int 0))) (tLst tNil)))) (tRet (tTup (tCons (tTup (tCons (tC (.str ("take" : Str))) (tCons (tVar 6) (tCons (tOp rModI (tVar 7) (tCB (rLenA K) (tCons (tOp (rIx K) (tVar 4) (tC (.int 0))) tNil))) tNil)))) (tCons (tOp (rAddA K) (tVar 1) (tC (.int 5))) tNil)))) tNext) (tSeq (tIfS (tOr (tTest (tOp (rEqA K) (tVar 5) (tC (.int 2)))) (tTest (tOp (rEqA K) (tVar 5) (tC (.int 8))))) (tRet (tTup (tCons (tTup (tCons (tC (.str ("set" : Str))) (tCons (tVar 6) (tCons (tOp rModI (tVar 7) (tC (.int 2))) tNil)))) (tCons (tOp (rAddA K) (tVar 1) (tC (.int 5))) tNil)))) tNext) (tSeq (tIfS (tOr (tTest (tOp (rEqA K) (tVar 5) (tC (.int 3)))) (tTest (tOp (rEqA K) (tVar 5) (tC (.int 9))))) (tRet (tTup (tCons (tTup (tCons (tC (.str ("print" : Str))) (tCons (tOp rModI (tVar 7) (tOp (rAddA K) (tOp (rIx K) (tVar 4) (tC (.int 1))) (tC (.int 1)))) (tCons (tVar 6) tNil)))) (tCons (tOp (rAddA K) (tVar 1) (tC (.int 5))) tNil)))) tNext) (tSeq (tIfS (tAnd (tTest (tOp (rEqA K) (tVar 5) (tC (.int 4)))) (tB (tOp (rIx K) (tVar 4) (tC (.int 2))))) (tRet (tTup (tCons (tTup (tCons (tC (.str ("leave" : Str))) tNil)) (tCons (tOp (rAddA K) (tVar 1) (tC (.int 5))) tNil)))) tNext) (tSeq (tAsg (tOp (rIx K) (tVar 3) (tOp rModI (tOp (rIx K) (tVar 0) (tOp (rAddA K) (tVar 1) (tC (.int 2)))) (tC (.int 4)))) (gName 8)) (tRet (tTup (tCons (tTup (tCons (tC (.str ("work" : Str))) (tCons (tVar 6) (tCons (tVar 8) (tCons (tOp (rIx K) (tVar 3) (tOp rModI (tOp (rIx K) (tVar 0) (tOp (rAddA K) (tVar 1) (tC (.int 3)))) (tC (.int 4)))) (tCons (tOp rModI (tVar 7) (tC (.int 16))) tNil)))))) (tCons (tOp (rAddA K) (tVar 1) (tC (.int 5))) tNil)))))))))))))
def rd_law_deep_row : TS := (tSeq (tAsg (tOp rModI (tOp (rIx K) (tVar 0) (tVar 1)) (tOp (rIx K) (tVar 4) (tC (.int 3)))) (gName 5)) (tSeq (tAsg (tOp (rIx K) (tVar 3) (tOp rModI (tOp (rIx K) (tVar 0) (tOp (rAddA K) (tVar 1) (tC (.int 1)))) (tC (.int 4)))) (gName 6)) (tSeq (tAsg (tOp (rAddA K) (tC (.int 1)) (tOp rModI (tOp (rIx K) (tVar 0) (tOp (rAddA K) (tVar 1) (tC (.int 2)))) (tC (.int 3)))) (gName 7)) (tSeq (tAsg (tOp (rIx K) (tVar 0) (tOp (rAddA K) (tVar 1) (tC (.int 3)))) (gName 8)) (tSeq (tIfS (tTest (tOp rLtI (tVar 5) (tC (.int 10)))) (tSeq (tAsg (tCallSD (G .law_rows) [] (fun _ => E) (tCons (tVar 0) (tCons (tOp (rAddA K) (tVar 1) (tC (.int 4))) (tCons (tVar 7) (tCons (tOp rSubI (tVar 2) (tC (.int 1))) (tCons (tVar 3) (tCons (tVar 4) tNil))))))) (gName 9)) (tSeq (tAsg (tCallSD (G .law_rows) [] (fun _ => E) (tCons (tVar 0) (tCons (tOp (rIx K) (tVar 9) (tC (.int 1))) (tCons (tOp rModI (tVar 8) (tC (.int 3))) (tCons (tOp rSubI (tVar 2) (tC (.int 1))) (tCons (tVar 3) (tCons (tVar 4) tNil))))))) (gName 10)) (tRet (tTup (tCons (tTup (tCons (tC (.str ("test" : Str))) (tCons (tVar 6) (tCons (tOp (rIx K) (tVar 9) (tC (.int 0))) (tCons (tOp (rIx K) (tVar 10) (tC (.int 0))) tNil))))) (tCons (tOp (rIx K) (tVar 10) (tC (.int 1))) tNil)))))) tNext) (tSeq (tAsg (tTup (tCons (tOp (rIx K) (tVar 4) (tC (.int 0))) (tCons (tOp (rIx K) (tVar 4) (tC (.int 1))) (tCons (tC (.bl true)) (tCons (tOp (rIx K) (tVar 4) (tC (.int 3))) tNil))))) (gName 11)) (tSeq (tAsg (tCallSD (G .law_rows) [] (fun _ => E) (tCons (tVar 0) (tCons (tOp (rAddA K) (tVar 1) (tC (.int 4))) (tCons (tVar 7) (tCons (tOp rSubI (tVar 2) (tC (.int 1))) (tCons (tVar 3) (tCons (tVar 11) tNil))))))) (gName 12)) (tSeq (tIfS (tAnd (tTest (tOp (rEqA K) (tVar 5) (tC (.int 10)))) (tTest (tOp (rEqA K) (tOp rModI (tVar 8) (tC (.int 2))) (tC (.int 0))))) (tRet (tTup (tCons (tTup (tCons (tC (.str ("call" : Str))) (tCons (tOp (rIx K) (tVar 12) (tC (.int 0))) tNil))) (tCons (tOp (rIx K) (tVar 12) (tC (.int 1))) tNil)))) tNext) (tSeq (tIfS (tTest (tOp (rEqA K) (tVar 5) (tC (.int 10)))) (tRet (tTup (tCons (tTup (tCons (tC (.str ("loop" : Str))) (tCons (tVar 6) (tCons (tOp (rAddA K) (tC (.int 1)) (tOp rModI (tOp rFdivI (tVar 8) (tC (.int 2))) (tC (.int 3)))) (tCons (tOp (rIx K) (tVar 12) (tC (.int 0))) tNil))))) (tCons (tOp (rIx K) (tVar 12) (tC (.int 1))) tNil)))) tNext) (tSeq (tAsg (tTup (tCons (tOp (rIx K) (tVar 4) (tC (.int 0))) (tCons (tOp (rIx K) (tVar 4) (tC (.int 1))) (tCons (tC (.bl false)) (tCons (tOp (rIx K) (tVar 4) (tC (.int 3))) tNil))))) (gName 13)) (tSeq (tAsg (tCallSD (G .law_rows) [] (fun _ => E) (tCons (tVar 0) (tCons (tOp (rIx K) (tVar 12) (tC (.int 1))) (tCons (tOp rModI (tVar 8) (tC (.int 3))) (tCons (tOp rSubI (tVar 2) (tC (.int 1))) (tCons (tVar 3) (tCons (tVar 13) tNil))))))) (gName 14)) (tRet (tTup (tCons (tTup (tCons (tC (.str ("guard" : Str))) (tCons (tOp (rIx K) (tVar 12) (tC (.int 0))) (tCons (tOp (rIx K) (tVar 14) (tC (.int 0))) tNil)))) (tCons (tOp (rIx K) (tVar 14) (tC (.int 1))) tNil)))))))))))))))
def rd_law_written : TS := (tSeq (tAsg (tLst tNil) (gName 1)) (tSeq (tFor (iAny K (tVar 0)) (gName 2) (tSeq (tIfS (tTest (tOp (rInA K false) (tOp (rIx K) (tVar 2) (tC (.int 0))) (tTup (tCons (tC (.str ("take" : Str))) (tCons (tC (.str ("set" : Str))) (tCons (tC (.str ("work" : Str))) tNil)))))) (tDrop (tBM K "list" rAppend (tVar 1) (tCons (tOp (rIx K) (tVar 2) (tC (.int 1))) tNil))) tNext) (tFor (iAny K (tVar 2)) (gName 3) (tIfS (tB (tCB (rIsi K) (tCons (tVar 3) (tCons (tC (.ty "tuple")) tNil)))) (tAsg (tOp (rAddA K) (tVar 1) (tCallSD (G .law_written) [] (fun _ => E) (tCons (tVar 3) tNil))) (gName 1)) tNext)))) (tRet (tVar 1))))
def rd_law_once : TS := (tSeq (tAsg (tLst tNil) (gName 1)) (tSeq (tFor (iAny K (tVar 0)) (gName 2) (tIfS (tTest (tOp (rInA K true) (tVar 2) (tVar 1))) (tDrop (tBM K "list" rAppend (tVar 1) (tCons (tVar 2) tNil))) tNext)) (tRet (tVar 1))))
def rd_law_same : TS := (tSeq (tIfS (tOr (tTest (tOp rIsNone (tVar 1) (tC .non))) (tB (tCB (rIsi K) (tCons (tVar 1) (tCons (tC (.ty "bool")) tNil))))) (tRet (tAndV (tOp (rEqA K) (tCB (rIsi K) (tCons (tVar 0) (tCons (tC (.ty "bool")) tNil))) (tOp rNotNone (tVar 1) (tC .non))) (tOp (rEqA K) (tVar 0) (tVar 1)))) tNext) (tSeq (tIfS (tB (tCB (rIsiT K) (tCons (tVar 1) (tCons (tTup (tCons (tC (.ty "list")) (tCons (tC (.ty "tuple")) tNil))) tNil)))) (tSeq (tIfS (tOr (tTest (tOp (rNeA K) (tCB (rIsi K) (tCons (tVar 0) (tCons (tC (.ty "list")) tNil))) (tCB (rIsi K) (tCons (tVar 1) (tCons (tC (.ty "list")) tNil))))) (tNot (tB (tCB (rIsiT K) (tCons (tVar 0) (tCons (tTup (tCons (tC (.ty "list")) (tCons (tC (.ty "tuple")) tNil))) tNil)))))) (tRet (tC (.bl false))) tNext) (tSeq (tIfS (tTest (tOp (rNeA K) (tCB (rLenA K) (tCons (tVar 0) tNil)) (tCB (rLenA K) (tCons (tVar 1) tNil)))) (tRet (tC (.bl false))) tNext) (tSeq (tFor (iRng1 (tCons (tCB (rLenA K) (tCons (tVar 1) tNil)) tNil)) (gName 2) (tIfS (tNot (tB (tCallSD (G .law_same) [] (fun _ => E) (tCons (tOp (rIx K) (tVar 0) (tVar 2)) (tCons (tOp (rIx K) (tVar 1) (tVar 2)) tNil))))) (tRet (tC (.bl false))) tNext)) (tRet (tC (.bl true)))))) tNext) (tSeq (tIfS (tB (tCB (rIsi K) (tCons (tVar 1) (tCons (tC (.ty "str")) tNil)))) (tRet (tAndV (tCB (rIsi K) (tCons (tVar 0) (tCons (tC (.ty "str")) tNil))) (tOp (rEqA K) (tVar 0) (tVar 1)))) tNext) (tRet (tAndV (tCB (rIsi K) (tCons (tVar 0) (tCons (tC (.ty "int")) tNil))) (tAndV (tNotV (tCB (rIsi K) (tCons (tVar 0) (tCons (tC (.ty "bool")) tNil)))) (tOp (rEqA K) (tVar 0) (tVar 1))))))))
def rd_law_lists : TS := (tSeq (tAsg (tLst tNil) (gName 1)) (tSeq (tFor (iAny K (tVar 0)) (gName 2) (tSeq (tAsg (tLst tNil) (gName 3)) (tSeq (tFor (iAny K (tVar 2)) (gName 4) (tSeq (tIfS (tB (tCB (rIsi K) (tCons (tVar 4) (tCons (tC (.ty "tuple")) tNil)))) (tAsg (tCallSD (G .law_lists) [] (fun _ => E) (tCons (tVar 4) tNil)) (gName 4)) tNext) (tDrop (tBM K "list" rAppend (tVar 3) (tCons (tVar 4) tNil))))) (tDrop (tBM K "list" rAppend (tVar 1) (tCons (tCB (rTupleA K) (tCons (tVar 3) tNil)) tNil)))))) (tRet (tVar 1))))
def rd_law_kinds : TS := (tSeq (tAsg (tLst (tCons (tCB (rIsi K) (tCons (tVar 0) (tCons (tC (.ref (He.ga K ("Take" : Str)))) tNil))) (tCons (tCB (rIsi K) (tCons (tVar 0) (tCons (tC (.ref (He.ga K ("Set" : Str)))) tNil))) (tCons (tCB (rIsi K) (tCons (tVar 0) (tCons (tC (.ref (He.ga K ("Work" : Str)))) tNil))) (tCons (tCB (rIsi K) (tCons (tVar 0) (tCons (tC (.ref (He.ga K ("Print" : Str)))) tNil))) tNil))))) (gName 1)) (tSeq (tAsg (tOp (rAddA K) (tVar 1) (tLst (tCons (tCB (rIsi K) (tCons (tVar 0) (tCons (tC (.ref (He.ga K ("Test" : Str)))) tNil))) (tCons (tCB (rIsi K) (tCons (tVar 0) (tCons (tC (.ref (He.ga K ("Loop" : Str)))) tNil))) (tCons (tCB (rIsi K) (tCons (tVar 0) (tCons (tC (.ref (He.ga K ("Guard" : Str)))) tNil))) tNil))))) (gName 1)) (tSeq (tAsg (tOp (rAddA K) (tVar 1) (tLst (tCons (tCB (rIsi K) (tCons (tVar 0) (tCons (tC (.ref (He.ga K ("Call" : Str)))) tNil))) (tCons (tCB (rIsi K) (tCons (tVar 0) (tCons (tC (.ref (He.ga K ("Leave" : Str)))) tNil))) (tCons (tCB (rIsi K) (tCons (tVar 0) (tCons (tC (.ref (He.ga K ("Step" : Str)))) tNil))) tNil))))) (gName 1)) (tSeq (tAsg (tOp (rAddA K) (tVar 1) (tLst (tCons (tCB (rIsi K) (tCons (tVar 0) (tCons (tC (.ref (He.ga K ("Writer" : Str)))) tNil))) (tCons (tCB (rIsi K) (tCons (tVar 0) (tCons (tC (.ref (He.ga K ("Reader" : Str)))) tNil))) (tCons (tCB (rIsi K) (tCons (tVar 0) (tCons (tC (.ref (He.ga K ("Holder" : Str)))) tNil))) tNil))))) (gName 1)) (tRet (tOp (rAddA K) (tVar 1) (tLst (tCons (tCB (rIsi K) (tCons (tVar 0) (tCons (tC (.ref (He.ga K ("Block" : Str)))) tNil))) tNil))))))))
def rd_law_due : TS := (tSeq (tAsg (tLst (tCons (tC (.str ("take" : Str))) (tCons (tC (.str ("set" : Str))) (tCons (tC (.str ("work" : Str))) (tCons (tC (.str ("print" : Str))) (tCons (tC (.str ("test" : Str))) (tCons (tC (.str ("loop" : Str))) (tCons (tC (.str ("guard" : Str))) (tCons (tC (.str ("call" : Str))) (tCons (tC (.str ("leave" : Str))) tNil)))))))))) (gName 1)) (tSeq (tAsg (tOp (rAddA K) (tLc (iAny K (tVar 1)) (gName 3) tYes (tOp (rEqA K) (tVar 0) (tVar 3)) [3]) (tLst (tCons (tC (.bl true)) (tCons (tOp (rInA K false) (tVar 0) (tTup (tCons (tC (.str ("take" : Str))) (tCons (tC (.str ("set" : Str))) (tCons (tC (.str ("work" : Str))) tNil))))) tNil)))) (gName 2)) (tSeq (tAsg (tOp (rAddA K) (tVar 2) (tLst (tCons (tOp (rInA K false) (tVar 0) (tTup (tCons (tC (.str ("work" : Str))) (tCons (tC (.str ("print" : Str))) (tCons (tC (.str ("test" : Str))) (tCons (tC (.str ("loop" : Str))) tNil)))))) (tCons (tOp (rInA K false) (tVar 0) (tTup (tCons (tC (.str ("test" : Str))) (tCons (tC (.str ("loop" : Str))) (tCons (tC (.str ("guard" : Str))) (tCons (tC (.str ("call" : Str))) tNil)))))) tNil)))) (gName 2)) (tRet (tOp (rAddA K) (tVar 2) (tLst (tCons (tOp (rInA K false) (tVar 0) (tTup (tCons (tC (.str ("loop" : Str))) (tCons (tC (.str ("guard" : Str))) (tCons (tC (.str ("call" : Str))) tNil))))) tNil)))))))
def rd_law_reads : TS := (tSeq (tIfS (tTest (tOp (rEqA K) (tOp (rIx K) (tVar 0) (tC (.int 0))) (tC (.str ("work" : Str))))) (tRet (tLst (tCons (tOp (rIx K) (tVar 0) (tC (.int 2))) (tCons (tOp (rIx K) (tVar 0) (tC (.int 3))) tNil)))) tNext) (tSeq (tIfS (tTest (tOp (rEqA K) (tOp (rIx K) (tVar 0) (tC (.int 0))) (tC (.str ("print" : Str))))) (tRet (tLst (tCons (tOp (rIx K) (tVar 0) (tC (.int 2))) tNil))) tNext) (tSeq (tIfS (tOr (tTest (tOp (rEqA K) (tOp (rIx K) (tVar 0) (tC (.int 0))) (tC (.str ("test" : Str))))) (tTest (tOp (rEqA K) (tOp (rIx K) (tVar 0) (tC (.int 0))) (tC (.str ("loop" : Str)))))) (tRet (tLst (tCons (tOp (rIx K) (tVar 0) (tC (.int 1))) tNil))) tNext) (tRet (tLst tNil)))))
def rd_law_fits : TS := (tSeq (tAsg (tCallSD (G .build_step) [V.int 0] (fun _ => E) (tCons (tVar 1) tNil)) (gName 2)) (tSeq (tIfS (tOr (tNot (tB (tCallSD (G .law_same) [] (fun _ => E) (tCons (tDyn [(He.ga K ("Take" : Str), G .Take_row), (He.ga K ("Set" : Str), G .Set_row), (He.ga K ("Work" : Str), G .Work_row), (He.ga K ("Print" : Str), G .Print_row), (He.ga K ("Test" : Str), G .Test_row), (He.ga K ("Loop" : Str), G .Loop_row), (He.ga K ("Guard" : Str), G .Guard_row), (He.ga K ("Call" : Str), G .Call_row), (He.ga K ("Leave" : Str), G .Leave_row)] ("row" : Str) [] (fun _ => E) (tVar 2) tNil) (tCons (tVar 0) tNil))))) (tTest (tOp (rNeA K) (tCallSD (G .law_kinds) [] (fun _ => E) (tCons (tVar 2) tNil)) (tCallSD (G .law_due) [] (fun _ => E) (tCons (tOp (rIx K) (tVar 0) (tC (.int 0))) tNil))))) (tRet (tC (.bl false))) tNext) (tSeq (tIfS (tOr (tNot (tB (tCB (rIsi K) (tCons (tFld K (tVar 2) ("writes" : Str)) (tCons (tC (.ty "tuple")) tNil))))) (tNot (tB (tCB (rIsi K) (tCons (tFld K (tVar 2) ("reads" : Str)) (tCons (tC (.ty "tuple")) tNil)))))) (tRet (tC (.bl false))) tNext) (tRet (tAndV (tOp (rEqA K) (tCB (rListA K) (tCons (tFld K (tVar 2) ("writes" : Str)) tNil)) (tCallSD (G .law_once) [] (fun _ => E) (tCons (tCallSD (G .law_written) [] (fun _ => E) (tCons (tLst (tCons (tVar 0) tNil)) tNil)) tNil))) (tOp (rEqA K) (tCB (rListA K) (tCons (tFld K (tVar 2) ("reads" : Str)) tNil)) (tCallSD (G .law_reads) [] (fun _ => E) (tCons (tVar 0) tNil))))))))
def rd_law : TS := (tSeq (tAsg (tCallSD (G .law_names) [] (fun _ => E) (tCons (tCallSD (G .law_draws) [] (fun _ => E) (tCons (tCallSD (G .law_cell) [] (fun _ => E) (tCons (tVar 0) (tCons (tC (.int 1)) tNil))) (tCons (tC (.int 4)) (tCons (tC (.int 10)) tNil)))) tNil)) (gName 1)) (tSeq (tAsg (tTup (tCons (tLst (tCons (tC (.int 0)) (tCons (tC (.int 1)) (tCons (tC (.int 2)) tNil)))) (tCons (tC (.int 3)) (tCons (tOp (rEqA K) (tOp rModI (tCallSD (G .law_cell) [] (fun _ => E) (tCons (tVar 0) (tCons (tC (.int 2)) tNil))) (tC (.int 2))) (tC (.int 0))) (tCons (tC (.int 12)) tNil))))) (gName 2)) (tSeq (tAsg (tOp (rIx K) (tCallSD (G .law_rows) [] (fun _ => E) (tCons (tCallSD (G .law_draws) [] (fun _ => E) (tCons (tCallSD (G .law_cell) [] (fun _ => E) (tCons (tVar 0) (tCons (tC (.int 0)) tNil))) (tCons (tC (.int 90)) (tCons (tC (.int 11)) tNil)))) (tCons (tC (.int 0)) (tCons (tC (.int 9)) (tCons (tC (.int 3)) (tCons (tVar 1) (tCons (tVar 2) tNil))))))) (tC (.int 0))) (gName 3)) (tSeq (tAsg (tVar 3) (gName 4)) (tSeq (tIfS (tTest (tOp (rEqA K) (tOp rModI (tOp rFdivI (tCallSD (G .law_cell) [] (fun _ => E) (tCons (tVar 0) (tCons (tC (.int 2)) tNil))) (tC (.int 2))) (tC (.int 2))) (tC (.int 0)))) (tAsg (tCallSD (G .law_lists) [] (fun _ => E) (tCons (tVar 3) tNil)) (gName 4)) tNext) (tSeq (tFor (iRng1 (tCons (tCB (rLenA K) (tCons (tVar 3) tNil)) tNil)) (gName 5) (tIfS (tNot (tB (tCallSD (G .law_fits) [] (fun _ => E) (tCons (tOp (rIx K) (tVar 3) (tVar 5)) (tCons (tOp (rIx K) (tVar 4) (tVar 5)) tNil))))) (tRet (tC (.bl false))) tNext)) (tRet (tAndV (tCallSD (G .law_fits) [] (fun _ => E) (tCons (tTup (tCons (tC (.str ("leave" : Str))) tNil)) (tCons (tTup (tCons (tC (.str ("leave" : Str))) tNil)) tNil))) (tCallSD (G .law_fits) [] (fun _ => E) (tCons (tTup (tCons (tC (.str ("call" : Str))) (tCons (tTup tNil) tNil))) (tCons (tTup (tCons (tC (.str ("call" : Str))) (tCons (tLst tNil) tNil))) tNil)))))))))))
end
def Gam (K : PySem.W.Frag) (W : World) : Nat → Gm
  | 0 => fun _ _ _ _ _ => False
  | k + 1 => fun f => match f with
    | .Step_init => fun vs H Q E => vs.length = 4 ∧ rd_Step_init K { nx := fun _ H' => Q .non H', rt := Q } (start N_Step_init vs) H
    | .Take_init => fun vs H Q E => vs.length = 3 ∧ rd_Take_init K (Gam K W k) E { nx := fun _ H' => Q .non H', rt := Q } (start N_Take_init vs) H
    | .Take_row => fun vs H Q E => vs.length = 1 ∧ rd_Take_row K { nx := fun _ H' => Q .non H', rt := Q } (start N_Take_row vs) H
    | .Set_init => fun vs H Q E => vs.length = 3 ∧ rd_Set_init K (Gam K W k) E { nx := fun _ H' => Q .non H', rt := Q } (start N_Set_init vs) H
    | .Set_row => fun vs H Q E => vs.length = 1 ∧ rd_Set_row K { nx := fun _ H' => Q .non H', rt := Q } (start N_Set_row vs) H
    | .Work_init => fun vs H Q E => vs.length = 5 ∧ rd_Work_init K (Gam K W k) E { nx := fun _ H' => Q .non H', rt := Q } (start N_Work_init vs) H
    | .Work_row => fun vs H Q E => vs.length = 1 ∧ rd_Work_row K { nx := fun _ H' => Q .non H', rt := Q } (start N_Work_row vs) H
    | .Print_init => fun vs H Q E => vs.length = 3 ∧ rd_Print_init K (Gam K W k) E { nx := fun _ H' => Q .non H', rt := Q } (start N_Print_init vs) H
    | .Print_row => fun vs H Q E => vs.length = 1 ∧ rd_Print_row K { nx := fun _ H' => Q .non H', rt := Q } (start N_Print_row vs) H
    | .Test_init => fun vs H Q E => vs.length = 4 ∧ rd_Test_init K (Gam K W k) E { nx := fun _ H' => Q .non H', rt := Q } (start N_Test_init vs) H
    | .Test_row => fun vs H Q E => vs.length = 1 ∧ rd_Test_row K (Gam K W k) E { nx := fun _ H' => Q .non H', rt := Q } (start N_Test_row vs) H
    | .Block_init => fun vs H Q E => vs.length = 4 ∧ rd_Block_init K (Gam K W k) E { nx := fun _ H' => Q .non H', rt := Q } (start N_Block_init vs) H
    | .Loop_init => fun vs H Q E => vs.length = 4 ∧ rd_Loop_init K (Gam K W k) E { nx := fun _ H' => Q .non H', rt := Q } (start N_Loop_init vs) H
    | .Loop_row => fun vs H Q E => vs.length = 1 ∧ rd_Loop_row K (Gam K W k) E { nx := fun _ H' => Q .non H', rt := Q } (start N_Loop_row vs) H
    | .Guard_init => fun vs H Q E => vs.length = 3 ∧ rd_Guard_init K (Gam K W k) E { nx := fun _ H' => Q .non H', rt := Q } (start N_Guard_init vs) H
    | .Guard_row => fun vs H Q E => vs.length = 1 ∧ rd_Guard_row K (Gam K W k) E { nx := fun _ H' => Q .non H', rt := Q } (start N_Guard_row vs) H
    | .Call_init => fun vs H Q E => vs.length = 2 ∧ rd_Call_init K (Gam K W k) E { nx := fun _ H' => Q .non H', rt := Q } (start N_Call_init vs) H
    | .Call_row => fun vs H Q E => vs.length = 1 ∧ rd_Call_row K (Gam K W k) E { nx := fun _ H' => Q .non H', rt := Q } (start N_Call_row vs) H
    | .Leave_init => fun vs H Q E => vs.length = 1 ∧ rd_Leave_init K (Gam K W k) E { nx := fun _ H' => Q .non H', rt := Q } (start N_Leave_init vs) H
    | .Leave_row => fun vs H Q E => vs.length = 1 ∧ rd_Leave_row  { nx := fun _ H' => Q .non H', rt := Q } (start N_Leave_row vs) H
    | .rows_of => fun vs H Q E => vs.length = 1 ∧ rd_rows_of K (Gam K W k) { nx := fun _ H' => Q .non H', rt := Q } (start N_rows_of vs) H
    | .check_name => fun vs H Q E => vs.length = 1 ∧ rd_check_name K E { nx := fun _ H' => Q .non H', rt := Q } (start N_check_name vs) H
    | .check_number => fun vs H Q E => vs.length = 3 ∧ rd_check_number K E { nx := fun _ H' => Q .non H', rt := Q } (start N_check_number vs) H
    | .build_body => fun vs H Q E => vs.length = 2 ∧ rd_build_body K (Gam K W k) E { nx := fun _ H' => Q .non H', rt := Q } (start N_build_body vs) H
    | .build_step => fun vs H Q E => vs.length = 2 ∧ rd_build_step K (Gam K W k) E { nx := fun _ H' => Q .non H', rt := Q } (start N_build_step vs) H
    | .build_named => fun vs H Q E => vs.length = 2 ∧ rd_build_named K (Gam K W k) E { nx := fun _ H' => Q .non H', rt := Q } (start N_build_named vs) H
    | .law_cell => fun vs H Q E => vs.length = 2 ∧ rd_law_cell K { nx := fun _ H' => Q .non H', rt := Q } (start N_law_cell vs) H
    | .law_draws => fun vs H Q E => vs.length = 3 ∧ rd_law_draws K { nx := fun _ H' => Q .non H', rt := Q } (start N_law_draws vs) H
    | .law_names => fun vs H Q E => vs.length = 1 ∧ rd_law_names K { nx := fun _ H' => Q .non H', rt := Q } (start N_law_names vs) H
    | .law_rows => fun vs H Q E => vs.length = 6 ∧ rd_law_rows K (Gam K W k) E { nx := fun _ H' => Q .non H', rt := Q } (start N_law_rows vs) H
    | .law_row => fun vs H Q E => vs.length = 5 ∧ rd_law_row K (Gam K W k) E { nx := fun _ H' => Q .non H', rt := Q } (start N_law_row vs) H
    | .law_deep_row => fun vs H Q E => vs.length = 5 ∧ rd_law_deep_row K (Gam K W k) E { nx := fun _ H' => Q .non H', rt := Q } (start N_law_deep_row vs) H
    | .law_written => fun vs H Q E => vs.length = 1 ∧ rd_law_written K (Gam K W k) E { nx := fun _ H' => Q .non H', rt := Q } (start N_law_written vs) H
    | .law_once => fun vs H Q E => vs.length = 1 ∧ rd_law_once K { nx := fun _ H' => Q .non H', rt := Q } (start N_law_once vs) H
    | .law_same => fun vs H Q E => vs.length = 2 ∧ rd_law_same K (Gam K W k) E { nx := fun _ H' => Q .non H', rt := Q } (start N_law_same vs) H
    | .law_lists => fun vs H Q E => vs.length = 1 ∧ rd_law_lists K (Gam K W k) E { nx := fun _ H' => Q .non H', rt := Q } (start N_law_lists vs) H
    | .law_kinds => fun vs H Q E => vs.length = 1 ∧ rd_law_kinds K { nx := fun _ H' => Q .non H', rt := Q } (start N_law_kinds vs) H
    | .law_due => fun vs H Q E => vs.length = 1 ∧ rd_law_due K { nx := fun _ H' => Q .non H', rt := Q } (start N_law_due vs) H
    | .law_reads => fun vs H Q E => vs.length = 1 ∧ rd_law_reads K { nx := fun _ H' => Q .non H', rt := Q } (start N_law_reads vs) H
    | .law_fits => fun vs H Q E => vs.length = 2 ∧ rd_law_fits K (Gam K W k) E { nx := fun _ H' => Q .non H', rt := Q } (start N_law_fits vs) H
    | .law => fun vs H Q E => vs.length = 1 ∧ rd_law K (Gam K W k) E { nx := fun _ H' => Q .non H', rt := Q } (start N_law vs) H
def lev (k : Nat) : Nat := 2 * k
abbrev AllOk (P : Program) (w : World) (K : PySem.W.Frag) (mg : Str → Option Value) (base : Heap) (k : Nat) : Prop := ∀ f, FnOk P w K mg base (L2.CX P w) (lev k) ((dm f).adr K) (fdAt K ((dm f).adr K)) (ps f) (Gam K w k f)
/-! ### the facts -/
class TxtK (K : PySem.W.Frag) : Prop where
  f_Step_init : FunM K (dm .Step_init)
  f_Take_init : FunMC K (dm .Take_init)
  f_Take_row : FunM K (dm .Take_row)
  f_Set_init : FunMC K (dm .Set_init)
  f_Set_row : FunM K (dm .Set_row)
  f_Work_init : FunMC K (dm .Work_init)
  f_Work_row : FunM K (dm .Work_row)
  f_Print_init : FunMC K (dm .Print_init)
  f_Print_row : FunM K (dm .Print_row)
  f_Test_init : FunMC K (dm .Test_init)
  f_Test_row : FunM K (dm .Test_row)
  f_Block_init : FunMC K (dm .Block_init)
  f_Loop_init : FunMC K (dm .Loop_init)
  f_Loop_row : FunM K (dm .Loop_row)
  f_Guard_init : FunMC K (dm .Guard_init)
  f_Guard_row : FunM K (dm .Guard_row)
  f_Call_init : FunMC K (dm .Call_init)
  f_Call_row : FunM K (dm .Call_row)
  f_Leave_init : FunMC K (dm .Leave_init)
  f_Leave_row : FunM K (dm .Leave_row)
  f_rows_of : FunM K (dm .rows_of)
  f_check_name : FunM K (dm .check_name)
  f_check_number : FunM K (dm .check_number)
  f_build_body : FunM K (dm .build_body)
  f_build_step : FunM K (dm .build_step)
  f_build_named : FunM K (dm .build_named)
  f_law_cell : FunM K (dm .law_cell)
  f_law_draws : FunM K (dm .law_draws)
  f_law_names : FunM K (dm .law_names)
  f_law_rows : FunM K (dm .law_rows)
  f_law_row : FunM K (dm .law_row)
  f_law_deep_row : FunM K (dm .law_deep_row)
  f_law_written : FunM K (dm .law_written)
  f_law_once : FunM K (dm .law_once)
  f_law_same : FunM K (dm .law_same)
  f_law_lists : FunM K (dm .law_lists)
  f_law_kinds : FunM K (dm .law_kinds)
  f_law_due : FunM K (dm .law_due)
  f_law_reads : FunM K (dm .law_reads)
  f_law_fits : FunM K (dm .law_fits)
  f_law : FunM K (dm .law)
  b_Block_init_4 : Binds K (fdAt K ((dm .Block_init).adr K)) (ps .Block_init) []
  b_Call_init_2 : Binds K (fdAt K ((dm .Call_init).adr K)) (ps .Call_init) []
  b_Call_row_1 : Binds K (fdAt K ((dm .Call_row).adr K)) (ps .Call_row) []
  b_Guard_init_3 : Binds K (fdAt K ((dm .Guard_init).adr K)) (ps .Guard_init) []
  b_Guard_row_1 : Binds K (fdAt K ((dm .Guard_row).adr K)) (ps .Guard_row) []
  b_Leave_init_1 : Binds K (fdAt K ((dm .Leave_init).adr K)) (ps .Leave_init) []
  b_Leave_row_1 : Binds K (fdAt K ((dm .Leave_row).adr K)) (ps .Leave_row) []
  b_Loop_init_4 : Binds K (fdAt K ((dm .Loop_init).adr K)) (ps .Loop_init) []
  b_Loop_row_1 : Binds K (fdAt K ((dm .Loop_row).adr K)) (ps .Loop_row) []
  b_Print_init_3 : Binds K (fdAt K ((dm .Print_init).adr K)) (ps .Print_init) []
  b_Print_row_1 : Binds K (fdAt K ((dm .Print_row).adr K)) (ps .Print_row) []
  b_Set_init_3 : Binds K (fdAt K ((dm .Set_init).adr K)) (ps .Set_init) []
  b_Set_row_1 : Binds K (fdAt K ((dm .Set_row).adr K)) (ps .Set_row) []
  b_Step_init_4 : Binds K (fdAt K ((dm .Step_init).adr K)) (ps .Step_init) []
  b_Take_init_3 : Binds K (fdAt K ((dm .Take_init).adr K)) (ps .Take_init) []
  b_Take_row_1 : Binds K (fdAt K ((dm .Take_row).adr K)) (ps .Take_row) []
  b_Test_init_4 : Binds K (fdAt K ((dm .Test_init).adr K)) (ps .Test_init) []
  b_Test_row_1 : Binds K (fdAt K ((dm .Test_row).adr K)) (ps .Test_row) []
  b_Work_init_5 : Binds K (fdAt K ((dm .Work_init).adr K)) (ps .Work_init) []
  b_Work_row_1 : Binds K (fdAt K ((dm .Work_row).adr K)) (ps .Work_row) []
  b_build_body_2 : Binds K (fdAt K ((dm .build_body).adr K)) (ps .build_body) []
  b_build_named_2 : Binds K (fdAt K ((dm .build_named).adr K)) (ps .build_named) []
  b_build_step_1 : ∃ ds, Vals [V.int 0] ds ∧ Binds K (fdAt K ((dm .build_step).adr K)) (ps .build_step) ds
  b_build_step_2 : ∃ ds, Vals [] ds ∧ Binds K (fdAt K ((dm .build_step).adr K)) (ps .build_step) ds
  b_check_name_1 : Binds K (fdAt K ((dm .check_name).adr K)) (ps .check_name) []
  b_check_number_3 : Binds K (fdAt K ((dm .check_number).adr K)) (ps .check_number) []
  b_law_cell_2 : Binds K (fdAt K ((dm .law_cell).adr K)) (ps .law_cell) []
  b_law_deep_row_5 : Binds K (fdAt K ((dm .law_deep_row).adr K)) (ps .law_deep_row) []
  b_law_draws_3 : Binds K (fdAt K ((dm .law_draws).adr K)) (ps .law_draws) []
  b_law_due_1 : Binds K (fdAt K ((dm .law_due).adr K)) (ps .law_due) []
  b_law_fits_2 : Binds K (fdAt K ((dm .law_fits).adr K)) (ps .law_fits) []
  b_law_kinds_1 : Binds K (fdAt K ((dm .law_kinds).adr K)) (ps .law_kinds) []
  b_law_lists_1 : Binds K (fdAt K ((dm .law_lists).adr K)) (ps .law_lists) []
  b_law_names_1 : Binds K (fdAt K ((dm .law_names).adr K)) (ps .law_names) []
  b_law_once_1 : Binds K (fdAt K ((dm .law_once).adr K)) (ps .law_once) []
  b_law_reads_1 : Binds K (fdAt K ((dm .law_reads).adr K)) (ps .law_reads) []
  b_law_row_5 : Binds K (fdAt K ((dm .law_row).adr K)) (ps .law_row) []
  b_law_rows_6 : Binds K (fdAt K ((dm .law_rows).adr K)) (ps .law_rows) []
  b_law_same_2 : Binds K (fdAt K ((dm .law_same).adr K)) (ps .law_same) []
  b_law_written_1 : Binds K (fdAt K ((dm .law_written).adr K)) (ps .law_written) []
  b_rows_of_1 : Binds K (fdAt K ((dm .rows_of).adr K)) (ps .rows_of) []
  c_Leave : Cls K (He.ga K ("Leave" : Str))
  me_Leave_row : Meth K (He.ga K ("Leave" : Str)) ("row" : Str) (He.ma K (He.ga K ("Leave" : Str)) ("row" : Str))
  c_Call : Cls K (He.ga K ("Call" : Str))
  me_Call_row : Meth K (He.ga K ("Call" : Str)) ("row" : Str) (He.ma K (He.ga K ("Call" : Str)) ("row" : Str))
  c_Guard : Cls K (He.ga K ("Guard" : Str))
  me_Guard_row : Meth K (He.ga K ("Guard" : Str)) ("row" : Str) (He.ma K (He.ga K ("Guard" : Str)) ("row" : Str))
  c_Loop : Cls K (He.ga K ("Loop" : Str))
  me_Loop_row : Meth K (He.ga K ("Loop" : Str)) ("row" : Str) (He.ma K (He.ga K ("Loop" : Str)) ("row" : Str))
  c_Test : Cls K (He.ga K ("Test" : Str))
  me_Test_row : Meth K (He.ga K ("Test" : Str)) ("row" : Str) (He.ma K (He.ga K ("Test" : Str)) ("row" : Str))
  c_Print : Cls K (He.ga K ("Print" : Str))
  me_Print_row : Meth K (He.ga K ("Print" : Str)) ("row" : Str) (He.ma K (He.ga K ("Print" : Str)) ("row" : Str))
  c_Work : Cls K (He.ga K ("Work" : Str))
  me_Work_row : Meth K (He.ga K ("Work" : Str)) ("row" : Str) (He.ma K (He.ga K ("Work" : Str)) ("row" : Str))
  c_Set : Cls K (He.ga K ("Set" : Str))
  me_Set_row : Meth K (He.ga K ("Set" : Str)) ("row" : Str) (He.ma K (He.ga K ("Set" : Str)) ("row" : Str))
  c_Take : Cls K (He.ga K ("Take" : Str))
  me_Take_row : Meth K (He.ga K ("Take" : Str)) ("row" : Str) (He.ma K (He.ga K ("Take" : Str)) ("row" : Str))
  x_InvalidProgram : PySem.W.excIn K (He.ga K ("InvalidProgram" : Str)) He.veBase "ValueError.__new__" = true ∧ PySem.W.keepIn K (.ref (He.ga K ("InvalidProgram" : Str))) = true ∧ PySem.W.subIn K (.ref (He.ga K ("InvalidProgram" : Str))) (.type "BaseException") = some true ∧ PySem.W.typeIn K (.ref (He.ga K ("InvalidProgram" : Str))) = some (.type "type")
  mk_Leave : Mk K (He.ga K ("Leave" : Str)) (He.ma K (He.ga K ("Leave" : Str)) "__init__")
  mk_Call : Mk K (He.ga K ("Call" : Str)) (He.ma K (He.ga K ("Call" : Str)) "__init__")
  mk_Guard : Mk K (He.ga K ("Guard" : Str)) (He.ma K (He.ga K ("Guard" : Str)) "__init__")
  mk_Print : Mk K (He.ga K ("Print" : Str)) (He.ma K (He.ga K ("Print" : Str)) "__init__")
  su_Print_init : SupK K prog ((dm .Print_init).adr K) (cdAt K ((dm .Print_init).adr K)) (ccAt K ((dm .Print_init).adr K)) (He.ga K ("Print" : Str)) (fdAt K ((dm .Print_init).adr K)) ("self" : Str)
  sc_Print_Print_init : SupC K (He.ga K ("Print" : Str)) (He.ga K ("Print" : Str)) ("__init__" : Str) ((dm .Step_init).adr K)
  su_Guard_init : SupK K prog ((dm .Guard_init).adr K) (cdAt K ((dm .Guard_init).adr K)) (ccAt K ((dm .Guard_init).adr K)) (He.ga K ("Guard" : Str)) (fdAt K ((dm .Guard_init).adr K)) ("self" : Str)
  sc_Guard_Guard_init : SupC K (He.ga K ("Guard" : Str)) (He.ga K ("Guard" : Str)) ("__init__" : Str) ((dm .Block_init).adr K)
  su_Call_init : SupK K prog ((dm .Call_init).adr K) (cdAt K ((dm .Call_init).adr K)) (ccAt K ((dm .Call_init).adr K)) (He.ga K ("Call" : Str)) (fdAt K ((dm .Call_init).adr K)) ("self" : Str)
  sc_Call_Call_init : SupC K (He.ga K ("Call" : Str)) (He.ga K ("Call" : Str)) ("__init__" : Str) ((dm .Block_init).adr K)
  su_Leave_init : SupK K prog ((dm .Leave_init).adr K) (cdAt K ((dm .Leave_init).adr K)) (ccAt K ((dm .Leave_init).adr K)) (He.ga K ("Leave" : Str)) (fdAt K ((dm .Leave_init).adr K)) ("self" : Str)
  sc_Leave_Leave_init : SupC K (He.ga K ("Leave" : Str)) (He.ga K ("Leave" : Str)) ("__init__" : Str) ((dm .Step_init).adr K)
  mk_Take : Mk K (He.ga K ("Take" : Str)) (He.ma K (He.ga K ("Take" : Str)) "__init__")
  mk_Set : Mk K (He.ga K ("Set" : Str)) (He.ma K (He.ga K ("Set" : Str)) "__init__")
  mk_Work : Mk K (He.ga K ("Work" : Str)) (He.ma K (He.ga K ("Work" : Str)) "__init__")
  mk_Loop : Mk K (He.ga K ("Loop" : Str)) (He.ma K (He.ga K ("Loop" : Str)) "__init__")
  mk_Test : Mk K (He.ga K ("Test" : Str)) (He.ma K (He.ga K ("Test" : Str)) "__init__")
  su_Take_init : SupK K prog ((dm .Take_init).adr K) (cdAt K ((dm .Take_init).adr K)) (ccAt K ((dm .Take_init).adr K)) (He.ga K ("Take" : Str)) (fdAt K ((dm .Take_init).adr K)) ("self" : Str)
  sc_Take_Take_init : SupC K (He.ga K ("Take" : Str)) (He.ga K ("Take" : Str)) ("__init__" : Str) ((dm .Step_init).adr K)
  su_Set_init : SupK K prog ((dm .Set_init).adr K) (cdAt K ((dm .Set_init).adr K)) (ccAt K ((dm .Set_init).adr K)) (He.ga K ("Set" : Str)) (fdAt K ((dm .Set_init).adr K)) ("self" : Str)
  sc_Set_Set_init : SupC K (He.ga K ("Set" : Str)) (He.ga K ("Set" : Str)) ("__init__" : Str) ((dm .Step_init).adr K)
  su_Work_init : SupK K prog ((dm .Work_init).adr K) (cdAt K ((dm .Work_init).adr K)) (ccAt K ((dm .Work_init).adr K)) (He.ga K ("Work" : Str)) (fdAt K ((dm .Work_init).adr K)) ("self" : Str)
  sc_Work_Work_init : SupC K (He.ga K ("Work" : Str)) (He.ga K ("Work" : Str)) ("__init__" : Str) ((dm .Step_init).adr K)
  su_Test_init : SupK K prog ((dm .Test_init).adr K) (cdAt K ((dm .Test_init).adr K)) (ccAt K ((dm .Test_init).adr K)) (He.ga K ("Test" : Str)) (fdAt K ((dm .Test_init).adr K)) ("self" : Str)
  sc_Test_Test_init : SupC K (He.ga K ("Test" : Str)) (He.ga K ("Test" : Str)) ("__init__" : Str) ((dm .Step_init).adr K)
  su_Block_init : SupK K prog ((dm .Block_init).adr K) (cdAt K ((dm .Block_init).adr K)) (ccAt K ((dm .Block_init).adr K)) (He.ga K ("Block" : Str)) (fdAt K ((dm .Block_init).adr K)) ("self" : Str)
  sc_Call_Block_init : SupC K (He.ga K ("Call" : Str)) (He.ga K ("Block" : Str)) ("__init__" : Str) ((dm .Step_init).adr K)
  sc_Guard_Block_init : SupC K (He.ga K ("Guard" : Str)) (He.ga K ("Block" : Str)) ("__init__" : Str) ((dm .Step_init).adr K)
  sc_Loop_Block_init : SupC K (He.ga K ("Loop" : Str)) (He.ga K ("Block" : Str)) ("__init__" : Str) ((dm .Step_init).adr K)
  sc_Block_Block_init : SupC K (He.ga K ("Block" : Str)) (He.ga K ("Block" : Str)) ("__init__" : Str) ((dm .Step_init).adr K)
  su_Loop_init : SupK K prog ((dm .Loop_init).adr K) (cdAt K ((dm .Loop_init).adr K)) (ccAt K ((dm .Loop_init).adr K)) (He.ga K ("Loop" : Str)) (fdAt K ((dm .Loop_init).adr K)) ("self" : Str)
  sc_Loop_Loop_init : SupC K (He.ga K ("Loop" : Str)) (He.ga K ("Loop" : Str)) ("__init__" : Str) ((dm .Block_init).adr K)
  wt_KINDS : wtSB_ ("KINDS" : Str) [("take" : Str), ("set" : Str), ("work" : Str), ("print" : Str), ("test" : Str), ("loop" : Str), ("guard" : Str), ("call" : Str), ("leave" : Str)] K = true
  wt_SIZES : wtIB_ ("SIZES" : Str) [3, 3, 5, 3, 4, 4, 3, 2, 1] K = true
  c_Step : Cls K (He.ga K ("Step" : Str))
  na_Step_writes : NoAttr K (He.ga K ("Step" : Str)) ("writes" : Str)
  na_Step_reads : NoAttr K (He.ga K ("Step" : Str)) ("reads" : Str)
  na_Step_parts : NoAttr K (He.ga K ("Step" : Str)) ("parts" : Str)
  na_Step_leaves : NoAttr K (He.ga K ("Step" : Str)) ("leaves" : Str)
  na_Step_loops : NoAttr K (He.ga K ("Step" : Str)) ("loops" : Str)
  is_Step : IsiC K (He.ga K ("Step" : Str))
  c_Writer : Cls K (He.ga K ("Writer" : Str))
  na_Writer_writes : NoAttr K (He.ga K ("Writer" : Str)) ("writes" : Str)
  na_Writer_reads : NoAttr K (He.ga K ("Writer" : Str)) ("reads" : Str)
  na_Writer_parts : NoAttr K (He.ga K ("Writer" : Str)) ("parts" : Str)
  na_Writer_leaves : NoAttr K (He.ga K ("Writer" : Str)) ("leaves" : Str)
  na_Writer_loops : NoAttr K (He.ga K ("Writer" : Str)) ("loops" : Str)
  is_Writer : IsiC K (He.ga K ("Writer" : Str))
  c_Reader : Cls K (He.ga K ("Reader" : Str))
  na_Reader_writes : NoAttr K (He.ga K ("Reader" : Str)) ("writes" : Str)
  na_Reader_reads : NoAttr K (He.ga K ("Reader" : Str)) ("reads" : Str)
  na_Reader_parts : NoAttr K (He.ga K ("Reader" : Str)) ("parts" : Str)
  na_Reader_leaves : NoAttr K (He.ga K ("Reader" : Str)) ("leaves" : Str)
  na_Reader_loops : NoAttr K (He.ga K ("Reader" : Str)) ("loops" : Str)
  is_Reader : IsiC K (He.ga K ("Reader" : Str))
  c_Holder : Cls K (He.ga K ("Holder" : Str))
  na_Holder_writes : NoAttr K (He.ga K ("Holder" : Str)) ("writes" : Str)
  na_Holder_reads : NoAttr K (He.ga K ("Holder" : Str)) ("reads" : Str)
  na_Holder_parts : NoAttr K (He.ga K ("Holder" : Str)) ("parts" : Str)
  na_Holder_leaves : NoAttr K (He.ga K ("Holder" : Str)) ("leaves" : Str)
  na_Holder_loops : NoAttr K (He.ga K ("Holder" : Str)) ("loops" : Str)
  is_Holder : IsiC K (He.ga K ("Holder" : Str))
  na_Take_writes : NoAttr K (He.ga K ("Take" : Str)) ("writes" : Str)
  na_Take_reads : NoAttr K (He.ga K ("Take" : Str)) ("reads" : Str)
  na_Take_parts : NoAttr K (He.ga K ("Take" : Str)) ("parts" : Str)
  na_Take_leaves : NoAttr K (He.ga K ("Take" : Str)) ("leaves" : Str)
  na_Take_loops : NoAttr K (He.ga K ("Take" : Str)) ("loops" : Str)
  na_Take_at : NoAttr K (He.ga K ("Take" : Str)) ("at" : Str)
  is_Take : IsiC K (He.ga K ("Take" : Str))
  na_Set_writes : NoAttr K (He.ga K ("Set" : Str)) ("writes" : Str)
  na_Set_reads : NoAttr K (He.ga K ("Set" : Str)) ("reads" : Str)
  na_Set_parts : NoAttr K (He.ga K ("Set" : Str)) ("parts" : Str)
  na_Set_leaves : NoAttr K (He.ga K ("Set" : Str)) ("leaves" : Str)
  na_Set_loops : NoAttr K (He.ga K ("Set" : Str)) ("loops" : Str)
  na_Set_bit : NoAttr K (He.ga K ("Set" : Str)) ("bit" : Str)
  is_Set : IsiC K (He.ga K ("Set" : Str))
  na_Work_writes : NoAttr K (He.ga K ("Work" : Str)) ("writes" : Str)
  na_Work_reads : NoAttr K (He.ga K ("Work" : Str)) ("reads" : Str)
  na_Work_parts : NoAttr K (He.ga K ("Work" : Str)) ("parts" : Str)
  na_Work_leaves : NoAttr K (He.ga K ("Work" : Str)) ("leaves" : Str)
  na_Work_loops : NoAttr K (He.ga K ("Work" : Str)) ("loops" : Str)
  na_Work_table : NoAttr K (He.ga K ("Work" : Str)) ("table" : Str)
  is_Work : IsiC K (He.ga K ("Work" : Str))
  na_Print_writes : NoAttr K (He.ga K ("Print" : Str)) ("writes" : Str)
  na_Print_reads : NoAttr K (He.ga K ("Print" : Str)) ("reads" : Str)
  na_Print_parts : NoAttr K (He.ga K ("Print" : Str)) ("parts" : Str)
  na_Print_leaves : NoAttr K (He.ga K ("Print" : Str)) ("leaves" : Str)
  na_Print_loops : NoAttr K (He.ga K ("Print" : Str)) ("loops" : Str)
  na_Print_channel : NoAttr K (He.ga K ("Print" : Str)) ("channel" : Str)
  is_Print : IsiC K (He.ga K ("Print" : Str))
  na_Test_writes : NoAttr K (He.ga K ("Test" : Str)) ("writes" : Str)
  na_Test_reads : NoAttr K (He.ga K ("Test" : Str)) ("reads" : Str)
  na_Test_parts : NoAttr K (He.ga K ("Test" : Str)) ("parts" : Str)
  na_Test_leaves : NoAttr K (He.ga K ("Test" : Str)) ("leaves" : Str)
  na_Test_loops : NoAttr K (He.ga K ("Test" : Str)) ("loops" : Str)
  is_Test : IsiC K (He.ga K ("Test" : Str))
  c_Block : Cls K (He.ga K ("Block" : Str))
  na_Block_writes : NoAttr K (He.ga K ("Block" : Str)) ("writes" : Str)
  na_Block_reads : NoAttr K (He.ga K ("Block" : Str)) ("reads" : Str)
  na_Block_parts : NoAttr K (He.ga K ("Block" : Str)) ("parts" : Str)
  na_Block_leaves : NoAttr K (He.ga K ("Block" : Str)) ("leaves" : Str)
  na_Block_loops : NoAttr K (He.ga K ("Block" : Str)) ("loops" : Str)
  na_Block_kind : NoAttr K (He.ga K ("Block" : Str)) ("kind" : Str)
  na_Block_opened : NoAttr K (He.ga K ("Block" : Str)) ("opened" : Str)
  is_Block : IsiC K (He.ga K ("Block" : Str))
  na_Loop_writes : NoAttr K (He.ga K ("Loop" : Str)) ("writes" : Str)
  na_Loop_reads : NoAttr K (He.ga K ("Loop" : Str)) ("reads" : Str)
  na_Loop_parts : NoAttr K (He.ga K ("Loop" : Str)) ("parts" : Str)
  na_Loop_leaves : NoAttr K (He.ga K ("Loop" : Str)) ("leaves" : Str)
  na_Loop_loops : NoAttr K (He.ga K ("Loop" : Str)) ("loops" : Str)
  na_Loop_kind : NoAttr K (He.ga K ("Loop" : Str)) ("kind" : Str)
  na_Loop_opened : NoAttr K (He.ga K ("Loop" : Str)) ("opened" : Str)
  na_Loop_turns : NoAttr K (He.ga K ("Loop" : Str)) ("turns" : Str)
  is_Loop : IsiC K (He.ga K ("Loop" : Str))
  na_Guard_writes : NoAttr K (He.ga K ("Guard" : Str)) ("writes" : Str)
  na_Guard_reads : NoAttr K (He.ga K ("Guard" : Str)) ("reads" : Str)
  na_Guard_parts : NoAttr K (He.ga K ("Guard" : Str)) ("parts" : Str)
  na_Guard_leaves : NoAttr K (He.ga K ("Guard" : Str)) ("leaves" : Str)
  na_Guard_loops : NoAttr K (He.ga K ("Guard" : Str)) ("loops" : Str)
  na_Guard_kind : NoAttr K (He.ga K ("Guard" : Str)) ("kind" : Str)
  na_Guard_opened : NoAttr K (He.ga K ("Guard" : Str)) ("opened" : Str)
  is_Guard : IsiC K (He.ga K ("Guard" : Str))
  na_Call_writes : NoAttr K (He.ga K ("Call" : Str)) ("writes" : Str)
  na_Call_reads : NoAttr K (He.ga K ("Call" : Str)) ("reads" : Str)
  na_Call_parts : NoAttr K (He.ga K ("Call" : Str)) ("parts" : Str)
  na_Call_leaves : NoAttr K (He.ga K ("Call" : Str)) ("leaves" : Str)
  na_Call_loops : NoAttr K (He.ga K ("Call" : Str)) ("loops" : Str)
  na_Call_kind : NoAttr K (He.ga K ("Call" : Str)) ("kind" : Str)
  na_Call_opened : NoAttr K (He.ga K ("Call" : Str)) ("opened" : Str)
  is_Call : IsiC K (He.ga K ("Call" : Str))
  na_Leave_writes : NoAttr K (He.ga K ("Leave" : Str)) ("writes" : Str)
  na_Leave_reads : NoAttr K (He.ga K ("Leave" : Str)) ("reads" : Str)
  na_Leave_parts : NoAttr K (He.ga K ("Leave" : Str)) ("parts" : Str)
  na_Leave_leaves : NoAttr K (He.ga K ("Leave" : Str)) ("leaves" : Str)
  na_Leave_loops : NoAttr K (He.ga K ("Leave" : Str)) ("loops" : Str)
  is_Leave : IsiC K (He.ga K ("Leave" : Str))
  kit_Block_Block : PySem.W.kitOne K (.ref (He.ga K ("Block" : Str))) (.ref (He.ga K ("Block" : Str))) = some true
  kit_Block_Call : PySem.W.kitOne K (.ref (He.ga K ("Block" : Str))) (.ref (He.ga K ("Call" : Str))) = some false
  kit_Block_Guard : PySem.W.kitOne K (.ref (He.ga K ("Block" : Str))) (.ref (He.ga K ("Guard" : Str))) = some false
  kit_Block_Holder : PySem.W.kitOne K (.ref (He.ga K ("Block" : Str))) (.ref (He.ga K ("Holder" : Str))) = some true
  kit_Block_Leave : PySem.W.kitOne K (.ref (He.ga K ("Block" : Str))) (.ref (He.ga K ("Leave" : Str))) = some false
  kit_Block_Loop : PySem.W.kitOne K (.ref (He.ga K ("Block" : Str))) (.ref (He.ga K ("Loop" : Str))) = some false
  kit_Block_Print : PySem.W.kitOne K (.ref (He.ga K ("Block" : Str))) (.ref (He.ga K ("Print" : Str))) = some false
  kit_Block_Reader : PySem.W.kitOne K (.ref (He.ga K ("Block" : Str))) (.ref (He.ga K ("Reader" : Str))) = some false
  kit_Block_Set : PySem.W.kitOne K (.ref (He.ga K ("Block" : Str))) (.ref (He.ga K ("Set" : Str))) = some false
  kit_Block_Step : PySem.W.kitOne K (.ref (He.ga K ("Block" : Str))) (.ref (He.ga K ("Step" : Str))) = some true
  kit_Block_Take : PySem.W.kitOne K (.ref (He.ga K ("Block" : Str))) (.ref (He.ga K ("Take" : Str))) = some false
  kit_Block_Test : PySem.W.kitOne K (.ref (He.ga K ("Block" : Str))) (.ref (He.ga K ("Test" : Str))) = some false
  kit_Block_Work : PySem.W.kitOne K (.ref (He.ga K ("Block" : Str))) (.ref (He.ga K ("Work" : Str))) = some false
  kit_Block_Writer : PySem.W.kitOne K (.ref (He.ga K ("Block" : Str))) (.ref (He.ga K ("Writer" : Str))) = some false
  kit_Call_Block : PySem.W.kitOne K (.ref (He.ga K ("Call" : Str))) (.ref (He.ga K ("Block" : Str))) = some true
  kit_Call_Call : PySem.W.kitOne K (.ref (He.ga K ("Call" : Str))) (.ref (He.ga K ("Call" : Str))) = some true
  kit_Call_Guard : PySem.W.kitOne K (.ref (He.ga K ("Call" : Str))) (.ref (He.ga K ("Guard" : Str))) = some false
  kit_Call_Holder : PySem.W.kitOne K (.ref (He.ga K ("Call" : Str))) (.ref (He.ga K ("Holder" : Str))) = some true
  kit_Call_Leave : PySem.W.kitOne K (.ref (He.ga K ("Call" : Str))) (.ref (He.ga K ("Leave" : Str))) = some false
  kit_Call_Loop : PySem.W.kitOne K (.ref (He.ga K ("Call" : Str))) (.ref (He.ga K ("Loop" : Str))) = some false
  kit_Call_Print : PySem.W.kitOne K (.ref (He.ga K ("Call" : Str))) (.ref (He.ga K ("Print" : Str))) = some false
  kit_Call_Reader : PySem.W.kitOne K (.ref (He.ga K ("Call" : Str))) (.ref (He.ga K ("Reader" : Str))) = some false
  kit_Call_Set : PySem.W.kitOne K (.ref (He.ga K ("Call" : Str))) (.ref (He.ga K ("Set" : Str))) = some false
  kit_Call_Step : PySem.W.kitOne K (.ref (He.ga K ("Call" : Str))) (.ref (He.ga K ("Step" : Str))) = some true
  kit_Call_Take : PySem.W.kitOne K (.ref (He.ga K ("Call" : Str))) (.ref (He.ga K ("Take" : Str))) = some false
  kit_Call_Test : PySem.W.kitOne K (.ref (He.ga K ("Call" : Str))) (.ref (He.ga K ("Test" : Str))) = some false
  kit_Call_Work : PySem.W.kitOne K (.ref (He.ga K ("Call" : Str))) (.ref (He.ga K ("Work" : Str))) = some false
  kit_Call_Writer : PySem.W.kitOne K (.ref (He.ga K ("Call" : Str))) (.ref (He.ga K ("Writer" : Str))) = some false
  kit_Guard_Block : PySem.W.kitOne K (.ref (He.ga K ("Guard" : Str))) (.ref (He.ga K ("Block" : Str))) = some true
  kit_Guard_Call : PySem.W.kitOne K (.ref (He.ga K ("Guard" : Str))) (.ref (He.ga K ("Call" : Str))) = some false
  kit_Guard_Guard : PySem.W.kitOne K (.ref (He.ga K ("Guard" : Str))) (.ref (He.ga K ("Guard" : Str))) = some true
  kit_Guard_Holder : PySem.W.kitOne K (.ref (He.ga K ("Guard" : Str))) (.ref (He.ga K ("Holder" : Str))) = some true
  kit_Guard_Leave : PySem.W.kitOne K (.ref (He.ga K ("Guard" : Str))) (.ref (He.ga K ("Leave" : Str))) = some false
  kit_Guard_Loop : PySem.W.kitOne K (.ref (He.ga K ("Guard" : Str))) (.ref (He.ga K ("Loop" : Str))) = some false
  kit_Guard_Print : PySem.W.kitOne K (.ref (He.ga K ("Guard" : Str))) (.ref (He.ga K ("Print" : Str))) = some false
  kit_Guard_Reader : PySem.W.kitOne K (.ref (He.ga K ("Guard" : Str))) (.ref (He.ga K ("Reader" : Str))) = some false
  kit_Guard_Set : PySem.W.kitOne K (.ref (He.ga K ("Guard" : Str))) (.ref (He.ga K ("Set" : Str))) = some false
  kit_Guard_Step : PySem.W.kitOne K (.ref (He.ga K ("Guard" : Str))) (.ref (He.ga K ("Step" : Str))) = some true
  kit_Guard_Take : PySem.W.kitOne K (.ref (He.ga K ("Guard" : Str))) (.ref (He.ga K ("Take" : Str))) = some false
  kit_Guard_Test : PySem.W.kitOne K (.ref (He.ga K ("Guard" : Str))) (.ref (He.ga K ("Test" : Str))) = some false
  kit_Guard_Work : PySem.W.kitOne K (.ref (He.ga K ("Guard" : Str))) (.ref (He.ga K ("Work" : Str))) = some false
  kit_Guard_Writer : PySem.W.kitOne K (.ref (He.ga K ("Guard" : Str))) (.ref (He.ga K ("Writer" : Str))) = some false
  kit_Holder_Block : PySem.W.kitOne K (.ref (He.ga K ("Holder" : Str))) (.ref (He.ga K ("Block" : Str))) = some false
  kit_Holder_Call : PySem.W.kitOne K (.ref (He.ga K ("Holder" : Str))) (.ref (He.ga K ("Call" : Str))) = some false
  kit_Holder_Guard : PySem.W.kitOne K (.ref (He.ga K ("Holder" : Str))) (.ref (He.ga K ("Guard" : Str))) = some false
  kit_Holder_Holder : PySem.W.kitOne K (.ref (He.ga K ("Holder" : Str))) (.ref (He.ga K ("Holder" : Str))) = some true
  kit_Holder_Leave : PySem.W.kitOne K (.ref (He.ga K ("Holder" : Str))) (.ref (He.ga K ("Leave" : Str))) = some false
  kit_Holder_Loop : PySem.W.kitOne K (.ref (He.ga K ("Holder" : Str))) (.ref (He.ga K ("Loop" : Str))) = some false
  kit_Holder_Print : PySem.W.kitOne K (.ref (He.ga K ("Holder" : Str))) (.ref (He.ga K ("Print" : Str))) = some false
  kit_Holder_Reader : PySem.W.kitOne K (.ref (He.ga K ("Holder" : Str))) (.ref (He.ga K ("Reader" : Str))) = some false
  kit_Holder_Set : PySem.W.kitOne K (.ref (He.ga K ("Holder" : Str))) (.ref (He.ga K ("Set" : Str))) = some false
  kit_Holder_Step : PySem.W.kitOne K (.ref (He.ga K ("Holder" : Str))) (.ref (He.ga K ("Step" : Str))) = some true
  kit_Holder_Take : PySem.W.kitOne K (.ref (He.ga K ("Holder" : Str))) (.ref (He.ga K ("Take" : Str))) = some false
  kit_Holder_Test : PySem.W.kitOne K (.ref (He.ga K ("Holder" : Str))) (.ref (He.ga K ("Test" : Str))) = some false
  kit_Holder_Work : PySem.W.kitOne K (.ref (He.ga K ("Holder" : Str))) (.ref (He.ga K ("Work" : Str))) = some false
  kit_Holder_Writer : PySem.W.kitOne K (.ref (He.ga K ("Holder" : Str))) (.ref (He.ga K ("Writer" : Str))) = some false
  kit_Leave_Block : PySem.W.kitOne K (.ref (He.ga K ("Leave" : Str))) (.ref (He.ga K ("Block" : Str))) = some false
  kit_Leave_Call : PySem.W.kitOne K (.ref (He.ga K ("Leave" : Str))) (.ref (He.ga K ("Call" : Str))) = some false
  kit_Leave_Guard : PySem.W.kitOne K (.ref (He.ga K ("Leave" : Str))) (.ref (He.ga K ("Guard" : Str))) = some false
  kit_Leave_Holder : PySem.W.kitOne K (.ref (He.ga K ("Leave" : Str))) (.ref (He.ga K ("Holder" : Str))) = some false
  kit_Leave_Leave : PySem.W.kitOne K (.ref (He.ga K ("Leave" : Str))) (.ref (He.ga K ("Leave" : Str))) = some true
  kit_Leave_Loop : PySem.W.kitOne K (.ref (He.ga K ("Leave" : Str))) (.ref (He.ga K ("Loop" : Str))) = some false
  kit_Leave_Print : PySem.W.kitOne K (.ref (He.ga K ("Leave" : Str))) (.ref (He.ga K ("Print" : Str))) = some false
  kit_Leave_Reader : PySem.W.kitOne K (.ref (He.ga K ("Leave" : Str))) (.ref (He.ga K ("Reader" : Str))) = some false
  kit_Leave_Set : PySem.W.kitOne K (.ref (He.ga K ("Leave" : Str))) (.ref (He.ga K ("Set" : Str))) = some false
  kit_Leave_Step : PySem.W.kitOne K (.ref (He.ga K ("Leave" : Str))) (.ref (He.ga K ("Step" : Str))) = some true
  kit_Leave_Take : PySem.W.kitOne K (.ref (He.ga K ("Leave" : Str))) (.ref (He.ga K ("Take" : Str))) = some false
  kit_Leave_Test : PySem.W.kitOne K (.ref (He.ga K ("Leave" : Str))) (.ref (He.ga K ("Test" : Str))) = some false
  kit_Leave_Work : PySem.W.kitOne K (.ref (He.ga K ("Leave" : Str))) (.ref (He.ga K ("Work" : Str))) = some false
  kit_Leave_Writer : PySem.W.kitOne K (.ref (He.ga K ("Leave" : Str))) (.ref (He.ga K ("Writer" : Str))) = some false
  kit_Loop_Block : PySem.W.kitOne K (.ref (He.ga K ("Loop" : Str))) (.ref (He.ga K ("Block" : Str))) = some true
  kit_Loop_Call : PySem.W.kitOne K (.ref (He.ga K ("Loop" : Str))) (.ref (He.ga K ("Call" : Str))) = some false
  kit_Loop_Guard : PySem.W.kitOne K (.ref (He.ga K ("Loop" : Str))) (.ref (He.ga K ("Guard" : Str))) = some false
  kit_Loop_Holder : PySem.W.kitOne K (.ref (He.ga K ("Loop" : Str))) (.ref (He.ga K ("Holder" : Str))) = some true
  kit_Loop_Leave : PySem.W.kitOne K (.ref (He.ga K ("Loop" : Str))) (.ref (He.ga K ("Leave" : Str))) = some false
  kit_Loop_Loop : PySem.W.kitOne K (.ref (He.ga K ("Loop" : Str))) (.ref (He.ga K ("Loop" : Str))) = some true
  kit_Loop_Print : PySem.W.kitOne K (.ref (He.ga K ("Loop" : Str))) (.ref (He.ga K ("Print" : Str))) = some false
  kit_Loop_Reader : PySem.W.kitOne K (.ref (He.ga K ("Loop" : Str))) (.ref (He.ga K ("Reader" : Str))) = some true
  kit_Loop_Set : PySem.W.kitOne K (.ref (He.ga K ("Loop" : Str))) (.ref (He.ga K ("Set" : Str))) = some false
  kit_Loop_Step : PySem.W.kitOne K (.ref (He.ga K ("Loop" : Str))) (.ref (He.ga K ("Step" : Str))) = some true
  kit_Loop_Take : PySem.W.kitOne K (.ref (He.ga K ("Loop" : Str))) (.ref (He.ga K ("Take" : Str))) = some false
  kit_Loop_Test : PySem.W.kitOne K (.ref (He.ga K ("Loop" : Str))) (.ref (He.ga K ("Test" : Str))) = some false
  kit_Loop_Work : PySem.W.kitOne K (.ref (He.ga K ("Loop" : Str))) (.ref (He.ga K ("Work" : Str))) = some false
  kit_Loop_Writer : PySem.W.kitOne K (.ref (He.ga K ("Loop" : Str))) (.ref (He.ga K ("Writer" : Str))) = some false
  kit_NoneType_Block : PySem.W.kitOne K (.type "NoneType") (.ref (He.ga K ("Block" : Str))) = some false
  kit_NoneType_Call : PySem.W.kitOne K (.type "NoneType") (.ref (He.ga K ("Call" : Str))) = some false
  kit_NoneType_Guard : PySem.W.kitOne K (.type "NoneType") (.ref (He.ga K ("Guard" : Str))) = some false
  kit_NoneType_Holder : PySem.W.kitOne K (.type "NoneType") (.ref (He.ga K ("Holder" : Str))) = some false
  kit_NoneType_Leave : PySem.W.kitOne K (.type "NoneType") (.ref (He.ga K ("Leave" : Str))) = some false
  kit_NoneType_Loop : PySem.W.kitOne K (.type "NoneType") (.ref (He.ga K ("Loop" : Str))) = some false
  kit_NoneType_Print : PySem.W.kitOne K (.type "NoneType") (.ref (He.ga K ("Print" : Str))) = some false
  kit_NoneType_Reader : PySem.W.kitOne K (.type "NoneType") (.ref (He.ga K ("Reader" : Str))) = some false
  kit_NoneType_Set : PySem.W.kitOne K (.type "NoneType") (.ref (He.ga K ("Set" : Str))) = some false
  kit_NoneType_Step : PySem.W.kitOne K (.type "NoneType") (.ref (He.ga K ("Step" : Str))) = some false
  kit_NoneType_Take : PySem.W.kitOne K (.type "NoneType") (.ref (He.ga K ("Take" : Str))) = some false
  kit_NoneType_Test : PySem.W.kitOne K (.type "NoneType") (.ref (He.ga K ("Test" : Str))) = some false
  kit_NoneType_Work : PySem.W.kitOne K (.type "NoneType") (.ref (He.ga K ("Work" : Str))) = some false
  kit_NoneType_Writer : PySem.W.kitOne K (.type "NoneType") (.ref (He.ga K ("Writer" : Str))) = some false
  kit_Print_Block : PySem.W.kitOne K (.ref (He.ga K ("Print" : Str))) (.ref (He.ga K ("Block" : Str))) = some false
  kit_Print_Call : PySem.W.kitOne K (.ref (He.ga K ("Print" : Str))) (.ref (He.ga K ("Call" : Str))) = some false
  kit_Print_Guard : PySem.W.kitOne K (.ref (He.ga K ("Print" : Str))) (.ref (He.ga K ("Guard" : Str))) = some false
  kit_Print_Holder : PySem.W.kitOne K (.ref (He.ga K ("Print" : Str))) (.ref (He.ga K ("Holder" : Str))) = some false
  kit_Print_Leave : PySem.W.kitOne K (.ref (He.ga K ("Print" : Str))) (.ref (He.ga K ("Leave" : Str))) = some false
  kit_Print_Loop : PySem.W.kitOne K (.ref (He.ga K ("Print" : Str))) (.ref (He.ga K ("Loop" : Str))) = some false
  kit_Print_Print : PySem.W.kitOne K (.ref (He.ga K ("Print" : Str))) (.ref (He.ga K ("Print" : Str))) = some true
  kit_Print_Reader : PySem.W.kitOne K (.ref (He.ga K ("Print" : Str))) (.ref (He.ga K ("Reader" : Str))) = some true
  kit_Print_Set : PySem.W.kitOne K (.ref (He.ga K ("Print" : Str))) (.ref (He.ga K ("Set" : Str))) = some false
  kit_Print_Step : PySem.W.kitOne K (.ref (He.ga K ("Print" : Str))) (.ref (He.ga K ("Step" : Str))) = some true
  kit_Print_Take : PySem.W.kitOne K (.ref (He.ga K ("Print" : Str))) (.ref (He.ga K ("Take" : Str))) = some false
  kit_Print_Test : PySem.W.kitOne K (.ref (He.ga K ("Print" : Str))) (.ref (He.ga K ("Test" : Str))) = some false
  kit_Print_Work : PySem.W.kitOne K (.ref (He.ga K ("Print" : Str))) (.ref (He.ga K ("Work" : Str))) = some false
  kit_Print_Writer : PySem.W.kitOne K (.ref (He.ga K ("Print" : Str))) (.ref (He.ga K ("Writer" : Str))) = some false
  kit_Reader_Block : PySem.W.kitOne K (.ref (He.ga K ("Reader" : Str))) (.ref (He.ga K ("Block" : Str))) = some false
  kit_Reader_Call : PySem.W.kitOne K (.ref (He.ga K ("Reader" : Str))) (.ref (He.ga K ("Call" : Str))) = some false
  kit_Reader_Guard : PySem.W.kitOne K (.ref (He.ga K ("Reader" : Str))) (.ref (He.ga K ("Guard" : Str))) = some false
  kit_Reader_Holder : PySem.W.kitOne K (.ref (He.ga K ("Reader" : Str))) (.ref (He.ga K ("Holder" : Str))) = some false
  kit_Reader_Leave : PySem.W.kitOne K (.ref (He.ga K ("Reader" : Str))) (.ref (He.ga K ("Leave" : Str))) = some false
  kit_Reader_Loop : PySem.W.kitOne K (.ref (He.ga K ("Reader" : Str))) (.ref (He.ga K ("Loop" : Str))) = some false
  kit_Reader_Print : PySem.W.kitOne K (.ref (He.ga K ("Reader" : Str))) (.ref (He.ga K ("Print" : Str))) = some false
  kit_Reader_Reader : PySem.W.kitOne K (.ref (He.ga K ("Reader" : Str))) (.ref (He.ga K ("Reader" : Str))) = some true
  kit_Reader_Set : PySem.W.kitOne K (.ref (He.ga K ("Reader" : Str))) (.ref (He.ga K ("Set" : Str))) = some false
  kit_Reader_Step : PySem.W.kitOne K (.ref (He.ga K ("Reader" : Str))) (.ref (He.ga K ("Step" : Str))) = some true
  kit_Reader_Take : PySem.W.kitOne K (.ref (He.ga K ("Reader" : Str))) (.ref (He.ga K ("Take" : Str))) = some false
  kit_Reader_Test : PySem.W.kitOne K (.ref (He.ga K ("Reader" : Str))) (.ref (He.ga K ("Test" : Str))) = some false
  kit_Reader_Work : PySem.W.kitOne K (.ref (He.ga K ("Reader" : Str))) (.ref (He.ga K ("Work" : Str))) = some false
  kit_Reader_Writer : PySem.W.kitOne K (.ref (He.ga K ("Reader" : Str))) (.ref (He.ga K ("Writer" : Str))) = some false
  kit_Set_Block : PySem.W.kitOne K (.ref (He.ga K ("Set" : Str))) (.ref (He.ga K ("Block" : Str))) = some false
  kit_Set_Call : PySem.W.kitOne K (.ref (He.ga K ("Set" : Str))) (.ref (He.ga K ("Call" : Str))) = some false
  kit_Set_Guard : PySem.W.kitOne K (.ref (He.ga K ("Set" : Str))) (.ref (He.ga K ("Guard" : Str))) = some false
  kit_Set_Holder : PySem.W.kitOne K (.ref (He.ga K ("Set" : Str))) (.ref (He.ga K ("Holder" : Str))) = some false
  kit_Set_Leave : PySem.W.kitOne K (.ref (He.ga K ("Set" : Str))) (.ref (He.ga K ("Leave" : Str))) = some false
  kit_Set_Loop : PySem.W.kitOne K (.ref (He.ga K ("Set" : Str))) (.ref (He.ga K ("Loop" : Str))) = some false
  kit_Set_Print : PySem.W.kitOne K (.ref (He.ga K ("Set" : Str))) (.ref (He.ga K ("Print" : Str))) = some false
  kit_Set_Reader : PySem.W.kitOne K (.ref (He.ga K ("Set" : Str))) (.ref (He.ga K ("Reader" : Str))) = some false
  kit_Set_Set : PySem.W.kitOne K (.ref (He.ga K ("Set" : Str))) (.ref (He.ga K ("Set" : Str))) = some true
  kit_Set_Step : PySem.W.kitOne K (.ref (He.ga K ("Set" : Str))) (.ref (He.ga K ("Step" : Str))) = some true
  kit_Set_Take : PySem.W.kitOne K (.ref (He.ga K ("Set" : Str))) (.ref (He.ga K ("Take" : Str))) = some false
  kit_Set_Test : PySem.W.kitOne K (.ref (He.ga K ("Set" : Str))) (.ref (He.ga K ("Test" : Str))) = some false
  kit_Set_Work : PySem.W.kitOne K (.ref (He.ga K ("Set" : Str))) (.ref (He.ga K ("Work" : Str))) = some false
  kit_Set_Writer : PySem.W.kitOne K (.ref (He.ga K ("Set" : Str))) (.ref (He.ga K ("Writer" : Str))) = some true
  kit_Step_Block : PySem.W.kitOne K (.ref (He.ga K ("Step" : Str))) (.ref (He.ga K ("Block" : Str))) = some false
  kit_Step_Call : PySem.W.kitOne K (.ref (He.ga K ("Step" : Str))) (.ref (He.ga K ("Call" : Str))) = some false
  kit_Step_Guard : PySem.W.kitOne K (.ref (He.ga K ("Step" : Str))) (.ref (He.ga K ("Guard" : Str))) = some false
  kit_Step_Holder : PySem.W.kitOne K (.ref (He.ga K ("Step" : Str))) (.ref (He.ga K ("Holder" : Str))) = some false
  kit_Step_Leave : PySem.W.kitOne K (.ref (He.ga K ("Step" : Str))) (.ref (He.ga K ("Leave" : Str))) = some false
  kit_Step_Loop : PySem.W.kitOne K (.ref (He.ga K ("Step" : Str))) (.ref (He.ga K ("Loop" : Str))) = some false
  kit_Step_Print : PySem.W.kitOne K (.ref (He.ga K ("Step" : Str))) (.ref (He.ga K ("Print" : Str))) = some false
  kit_Step_Reader : PySem.W.kitOne K (.ref (He.ga K ("Step" : Str))) (.ref (He.ga K ("Reader" : Str))) = some false
  kit_Step_Set : PySem.W.kitOne K (.ref (He.ga K ("Step" : Str))) (.ref (He.ga K ("Set" : Str))) = some false
  kit_Step_Step : PySem.W.kitOne K (.ref (He.ga K ("Step" : Str))) (.ref (He.ga K ("Step" : Str))) = some true
  kit_Step_Take : PySem.W.kitOne K (.ref (He.ga K ("Step" : Str))) (.ref (He.ga K ("Take" : Str))) = some false
  kit_Step_Test : PySem.W.kitOne K (.ref (He.ga K ("Step" : Str))) (.ref (He.ga K ("Test" : Str))) = some false
  kit_Step_Work : PySem.W.kitOne K (.ref (He.ga K ("Step" : Str))) (.ref (He.ga K ("Work" : Str))) = some false
  kit_Step_Writer : PySem.W.kitOne K (.ref (He.ga K ("Step" : Str))) (.ref (He.ga K ("Writer" : Str))) = some false
  kit_Take_Block : PySem.W.kitOne K (.ref (He.ga K ("Take" : Str))) (.ref (He.ga K ("Block" : Str))) = some false
  kit_Take_Call : PySem.W.kitOne K (.ref (He.ga K ("Take" : Str))) (.ref (He.ga K ("Call" : Str))) = some false
  kit_Take_Guard : PySem.W.kitOne K (.ref (He.ga K ("Take" : Str))) (.ref (He.ga K ("Guard" : Str))) = some false
  kit_Take_Holder : PySem.W.kitOne K (.ref (He.ga K ("Take" : Str))) (.ref (He.ga K ("Holder" : Str))) = some false
  kit_Take_Leave : PySem.W.kitOne K (.ref (He.ga K ("Take" : Str))) (.ref (He.ga K ("Leave" : Str))) = some false
  kit_Take_Loop : PySem.W.kitOne K (.ref (He.ga K ("Take" : Str))) (.ref (He.ga K ("Loop" : Str))) = some false
  kit_Take_Print : PySem.W.kitOne K (.ref (He.ga K ("Take" : Str))) (.ref (He.ga K ("Print" : Str))) = some false
  kit_Take_Reader : PySem.W.kitOne K (.ref (He.ga K ("Take" : Str))) (.ref (He.ga K ("Reader" : Str))) = some false
  kit_Take_Set : PySem.W.kitOne K (.ref (He.ga K ("Take" : Str))) (.ref (He.ga K ("Set" : Str))) = some false
  kit_Take_Step : PySem.W.kitOne K (.ref (He.ga K ("Take" : Str))) (.ref (He.ga K ("Step" : Str))) = some true
  kit_Take_Take : PySem.W.kitOne K (.ref (He.ga K ("Take" : Str))) (.ref (He.ga K ("Take" : Str))) = some true
  kit_Take_Test : PySem.W.kitOne K (.ref (He.ga K ("Take" : Str))) (.ref (He.ga K ("Test" : Str))) = some false
  kit_Take_Work : PySem.W.kitOne K (.ref (He.ga K ("Take" : Str))) (.ref (He.ga K ("Work" : Str))) = some false
  kit_Take_Writer : PySem.W.kitOne K (.ref (He.ga K ("Take" : Str))) (.ref (He.ga K ("Writer" : Str))) = some true
  kit_Test_Block : PySem.W.kitOne K (.ref (He.ga K ("Test" : Str))) (.ref (He.ga K ("Block" : Str))) = some false
  kit_Test_Call : PySem.W.kitOne K (.ref (He.ga K ("Test" : Str))) (.ref (He.ga K ("Call" : Str))) = some false
  kit_Test_Guard : PySem.W.kitOne K (.ref (He.ga K ("Test" : Str))) (.ref (He.ga K ("Guard" : Str))) = some false
  kit_Test_Holder : PySem.W.kitOne K (.ref (He.ga K ("Test" : Str))) (.ref (He.ga K ("Holder" : Str))) = some true
  kit_Test_Leave : PySem.W.kitOne K (.ref (He.ga K ("Test" : Str))) (.ref (He.ga K ("Leave" : Str))) = some false
  kit_Test_Loop : PySem.W.kitOne K (.ref (He.ga K ("Test" : Str))) (.ref (He.ga K ("Loop" : Str))) = some false
  kit_Test_Print : PySem.W.kitOne K (.ref (He.ga K ("Test" : Str))) (.ref (He.ga K ("Print" : Str))) = some false
  kit_Test_Reader : PySem.W.kitOne K (.ref (He.ga K ("Test" : Str))) (.ref (He.ga K ("Reader" : Str))) = some true
  kit_Test_Set : PySem.W.kitOne K (.ref (He.ga K ("Test" : Str))) (.ref (He.ga K ("Set" : Str))) = some false
  kit_Test_Step : PySem.W.kitOne K (.ref (He.ga K ("Test" : Str))) (.ref (He.ga K ("Step" : Str))) = some true
  kit_Test_Take : PySem.W.kitOne K (.ref (He.ga K ("Test" : Str))) (.ref (He.ga K ("Take" : Str))) = some false
  kit_Test_Test : PySem.W.kitOne K (.ref (He.ga K ("Test" : Str))) (.ref (He.ga K ("Test" : Str))) = some true
  kit_Test_Work : PySem.W.kitOne K (.ref (He.ga K ("Test" : Str))) (.ref (He.ga K ("Work" : Str))) = some false
  kit_Test_Writer : PySem.W.kitOne K (.ref (He.ga K ("Test" : Str))) (.ref (He.ga K ("Writer" : Str))) = some false
  kit_Work_Block : PySem.W.kitOne K (.ref (He.ga K ("Work" : Str))) (.ref (He.ga K ("Block" : Str))) = some false
  kit_Work_Call : PySem.W.kitOne K (.ref (He.ga K ("Work" : Str))) (.ref (He.ga K ("Call" : Str))) = some false
  kit_Work_Guard : PySem.W.kitOne K (.ref (He.ga K ("Work" : Str))) (.ref (He.ga K ("Guard" : Str))) = some false
  kit_Work_Holder : PySem.W.kitOne K (.ref (He.ga K ("Work" : Str))) (.ref (He.ga K ("Holder" : Str))) = some false
  kit_Work_Leave : PySem.W.kitOne K (.ref (He.ga K ("Work" : Str))) (.ref (He.ga K ("Leave" : Str))) = some false
  kit_Work_Loop : PySem.W.kitOne K (.ref (He.ga K ("Work" : Str))) (.ref (He.ga K ("Loop" : Str))) = some false
  kit_Work_Print : PySem.W.kitOne K (.ref (He.ga K ("Work" : Str))) (.ref (He.ga K ("Print" : Str))) = some false
  kit_Work_Reader : PySem.W.kitOne K (.ref (He.ga K ("Work" : Str))) (.ref (He.ga K ("Reader" : Str))) = some true
  kit_Work_Set : PySem.W.kitOne K (.ref (He.ga K ("Work" : Str))) (.ref (He.ga K ("Set" : Str))) = some false
  kit_Work_Step : PySem.W.kitOne K (.ref (He.ga K ("Work" : Str))) (.ref (He.ga K ("Step" : Str))) = some true
  kit_Work_Take : PySem.W.kitOne K (.ref (He.ga K ("Work" : Str))) (.ref (He.ga K ("Take" : Str))) = some false
  kit_Work_Test : PySem.W.kitOne K (.ref (He.ga K ("Work" : Str))) (.ref (He.ga K ("Test" : Str))) = some false
  kit_Work_Work : PySem.W.kitOne K (.ref (He.ga K ("Work" : Str))) (.ref (He.ga K ("Work" : Str))) = some true
  kit_Work_Writer : PySem.W.kitOne K (.ref (He.ga K ("Work" : Str))) (.ref (He.ga K ("Writer" : Str))) = some true
  kit_Writer_Block : PySem.W.kitOne K (.ref (He.ga K ("Writer" : Str))) (.ref (He.ga K ("Block" : Str))) = some false
  kit_Writer_Call : PySem.W.kitOne K (.ref (He.ga K ("Writer" : Str))) (.ref (He.ga K ("Call" : Str))) = some false
  kit_Writer_Guard : PySem.W.kitOne K (.ref (He.ga K ("Writer" : Str))) (.ref (He.ga K ("Guard" : Str))) = some false
  kit_Writer_Holder : PySem.W.kitOne K (.ref (He.ga K ("Writer" : Str))) (.ref (He.ga K ("Holder" : Str))) = some false
  kit_Writer_Leave : PySem.W.kitOne K (.ref (He.ga K ("Writer" : Str))) (.ref (He.ga K ("Leave" : Str))) = some false
  kit_Writer_Loop : PySem.W.kitOne K (.ref (He.ga K ("Writer" : Str))) (.ref (He.ga K ("Loop" : Str))) = some false
  kit_Writer_Print : PySem.W.kitOne K (.ref (He.ga K ("Writer" : Str))) (.ref (He.ga K ("Print" : Str))) = some false
  kit_Writer_Reader : PySem.W.kitOne K (.ref (He.ga K ("Writer" : Str))) (.ref (He.ga K ("Reader" : Str))) = some false
  kit_Writer_Set : PySem.W.kitOne K (.ref (He.ga K ("Writer" : Str))) (.ref (He.ga K ("Set" : Str))) = some false
  kit_Writer_Step : PySem.W.kitOne K (.ref (He.ga K ("Writer" : Str))) (.ref (He.ga K ("Step" : Str))) = some true
  kit_Writer_Take : PySem.W.kitOne K (.ref (He.ga K ("Writer" : Str))) (.ref (He.ga K ("Take" : Str))) = some false
  kit_Writer_Test : PySem.W.kitOne K (.ref (He.ga K ("Writer" : Str))) (.ref (He.ga K ("Test" : Str))) = some false
  kit_Writer_Work : PySem.W.kitOne K (.ref (He.ga K ("Writer" : Str))) (.ref (He.ga K ("Work" : Str))) = some false
  kit_Writer_Writer : PySem.W.kitOne K (.ref (He.ga K ("Writer" : Str))) (.ref (He.ga K ("Writer" : Str))) = some true
  kit_int_Block : PySem.W.kitOne K (.type "int") (.ref (He.ga K ("Block" : Str))) = some false
  kit_int_Call : PySem.W.kitOne K (.type "int") (.ref (He.ga K ("Call" : Str))) = some false
  kit_int_Guard : PySem.W.kitOne K (.type "int") (.ref (He.ga K ("Guard" : Str))) = some false
  kit_int_Holder : PySem.W.kitOne K (.type "int") (.ref (He.ga K ("Holder" : Str))) = some false
  kit_int_Leave : PySem.W.kitOne K (.type "int") (.ref (He.ga K ("Leave" : Str))) = some false
  kit_int_Loop : PySem.W.kitOne K (.type "int") (.ref (He.ga K ("Loop" : Str))) = some false
  kit_int_Print : PySem.W.kitOne K (.type "int") (.ref (He.ga K ("Print" : Str))) = some false
  kit_int_Reader : PySem.W.kitOne K (.type "int") (.ref (He.ga K ("Reader" : Str))) = some false
  kit_int_Set : PySem.W.kitOne K (.type "int") (.ref (He.ga K ("Set" : Str))) = some false
  kit_int_Step : PySem.W.kitOne K (.type "int") (.ref (He.ga K ("Step" : Str))) = some false
  kit_int_Take : PySem.W.kitOne K (.type "int") (.ref (He.ga K ("Take" : Str))) = some false
  kit_int_Test : PySem.W.kitOne K (.type "int") (.ref (He.ga K ("Test" : Str))) = some false
  kit_int_Work : PySem.W.kitOne K (.type "int") (.ref (He.ga K ("Work" : Str))) = some false
  kit_int_Writer : PySem.W.kitOne K (.type "int") (.ref (He.ga K ("Writer" : Str))) = some false
structure Txt (K : PySem.W.Frag) (w : World) (mg : Str → Option Value) : Prop where
  k : TxtK K
  g_law : mg ("law" : Str) = some (.ref (He.ga K ("law" : Str)))
  g_law_names : mg ("_law_names" : Str) = some (.ref (He.ga K ("_law_names" : Str)))
  g_law_draws : mg ("_law_draws" : Str) = some (.ref (He.ga K ("_law_draws" : Str)))
  g_law_cell : mg ("_law_cell" : Str) = some (.ref (He.ga K ("_law_cell" : Str)))
  g_law_rows : mg ("_law_rows" : Str) = some (.ref (He.ga K ("_law_rows" : Str)))
  g_law_lists : mg ("_law_lists" : Str) = some (.ref (He.ga K ("_law_lists" : Str)))
  z_len : mg ("len" : Str) = none
  z_range : mg ("range" : Str) = none
  g_law_fits : mg ("_law_fits" : Str) = some (.ref (He.ga K ("_law_fits" : Str)))
  z_abs : mg ("abs" : Str) = none
  g_law_row : mg ("_law_row" : Str) = some (.ref (He.ga K ("_law_row" : Str)))
  z_tuple : mg ("tuple" : Str) = none
  z_isinstance : mg ("isinstance" : Str) = none
  g_build_step : mg ("build_step" : Str) = some (.ref (He.ga K ("build_step" : Str)))
  g_law_same : mg ("_law_same" : Str) = some (.ref (He.ga K ("_law_same" : Str)))
  g_law_kinds : mg ("_law_kinds" : Str) = some (.ref (He.ga K ("_law_kinds" : Str)))
  g_law_due : mg ("_law_due" : Str) = some (.ref (He.ga K ("_law_due" : Str)))
  z_list : mg ("list" : Str) = none
  g_law_once : mg ("_law_once" : Str) = some (.ref (He.ga K ("_law_once" : Str)))
  g_law_written : mg ("_law_written" : Str) = some (.ref (He.ga K ("_law_written" : Str)))
  g_law_reads : mg ("_law_reads" : Str) = some (.ref (He.ga K ("_law_reads" : Str)))
  g_rows_of : mg ("rows_of" : Str) = some (.ref (He.ga K ("rows_of" : Str)))
  g_KINDS : mg ("KINDS" : Str) = some (.ref (He.ga K ("KINDS" : Str)))
  g_InvalidProgram : mg ("InvalidProgram" : Str) = some (.ref (He.ga K ("InvalidProgram" : Str)))
  g_SIZES : mg ("SIZES" : Str) = some (.ref (He.ga K ("SIZES" : Str)))
  g_Leave : mg ("Leave" : Str) = some (.ref (He.ga K ("Leave" : Str)))
  g_Call : mg ("Call" : Str) = some (.ref (He.ga K ("Call" : Str)))
  g_build_body : mg ("build_body" : Str) = some (.ref (He.ga K ("build_body" : Str)))
  g_Guard : mg ("Guard" : Str) = some (.ref (He.ga K ("Guard" : Str)))
  g_check_number : mg ("check_number" : Str) = some (.ref (He.ga K ("check_number" : Str)))
  g_check_name : mg ("check_name" : Str) = some (.ref (He.ga K ("check_name" : Str)))
  g_Print : mg ("Print" : Str) = some (.ref (He.ga K ("Print" : Str)))
  g_build_named : mg ("build_named" : Str) = some (.ref (He.ga K ("build_named" : Str)))
  g_law_deep_row : mg ("_law_deep_row" : Str) = some (.ref (He.ga K ("_law_deep_row" : Str)))
  z_bool : mg ("bool" : Str) = none
  z_str : mg ("str" : Str) = none
  z_int : mg ("int" : Str) = none
  g_Work : mg ("Work" : Str) = some (.ref (He.ga K ("Work" : Str)))
  g_Set : mg ("Set" : Str) = some (.ref (He.ga K ("Set" : Str)))
  g_Take : mg ("Take" : Str) = some (.ref (He.ga K ("Take" : Str)))
  g_Loop : mg ("Loop" : Str) = some (.ref (He.ga K ("Loop" : Str)))
  g_Test : mg ("Test" : Str) = some (.ref (He.ga K ("Test" : Str)))
  g_Step : mg ("Step" : Str) = some (.ref (He.ga K ("Step" : Str)))
  g_Holder : mg ("Holder" : Str) = some (.ref (He.ga K ("Holder" : Str)))
  g_Reader : mg ("Reader" : Str) = some (.ref (He.ga K ("Reader" : Str)))
  g_Writer : mg ("Writer" : Str) = some (.ref (He.ga K ("Writer" : Str)))
  g_Block : mg ("Block" : Str) = some (.ref (He.ga K ("Block" : Str)))
  z_super : mg ("super" : Str) = none
  s_FIRST_SIGNS : ∃ t, mg ("FIRST_SIGNS" : Str) = some (.str ("abcdefghijklmnopqrstuvwxyz" : Str) t)
  s_SIGNS : ∃ t, mg ("SIGNS" : Str) = some (.str ("abcdefghijklmnopqrstuvwxyz0123456789" : Str) t)
  n_DEEPEST : ∃ t, mg ("DEEPEST" : Str) = some (.int 40 t)
  z_max : mg ("max" : Str) = none
def exl : List (PySem.W.Frag → Bool) := [(fun K => He.Fa.ok K (.glo ("law" : Str))),
  (fun K => He.Fa.ok K (.glo ("_law_names" : Str))),
  (fun K => He.Fa.ok K (.glo ("_law_draws" : Str))),
  (fun K => He.Fa.ok K (.glo ("_law_cell" : Str))),
  (fun K => He.Fa.ok K (.glo ("_law_rows" : Str))),
  (fun K => He.Fa.ok K (.glo ("_law_lists" : Str))),
  (fun K => He.Fa.ok K (.free ("len" : Str))),
  (fun K => He.Fa.ok K (.free ("range" : Str))),
  (fun K => He.Fa.ok K (.glo ("_law_fits" : Str))),
  (fun K => He.Fa.ok K (.free ("abs" : Str))),
  (fun K => He.Fa.ok K (.glo ("_law_row" : Str))),
  (fun K => He.Fa.ok K (.free ("tuple" : Str))),
  (fun K => He.Fa.ok K (.free ("isinstance" : Str))),
  (fun K => He.Fa.ok K (.glo ("build_step" : Str))),
  (fun K => He.Fa.ok K (.glo ("_law_same" : Str))),
  (fun K => He.Fa.ok K (.cls ("Leave" : Str))),
  (fun K => He.Fa.ok K (.meth ("Leave" : Str) ("row" : Str))),
  (fun K => He.Fa.ok K (.cls ("Call" : Str))),
  (fun K => He.Fa.ok K (.meth ("Call" : Str) ("row" : Str))),
  (fun K => He.Fa.ok K (.cls ("Guard" : Str))),
  (fun K => He.Fa.ok K (.meth ("Guard" : Str) ("row" : Str))),
  (fun K => He.Fa.ok K (.cls ("Loop" : Str))),
  (fun K => He.Fa.ok K (.meth ("Loop" : Str) ("row" : Str))),
  (fun K => He.Fa.ok K (.cls ("Test" : Str))),
  (fun K => He.Fa.ok K (.meth ("Test" : Str) ("row" : Str))),
  (fun K => He.Fa.ok K (.cls ("Print" : Str))),
  (fun K => He.Fa.ok K (.meth ("Print" : Str) ("row" : Str))),
  (fun K => He.Fa.ok K (.cls ("Work" : Str))),
  (fun K => He.Fa.ok K (.meth ("Work" : Str) ("row" : Str))),
  (fun K => He.Fa.ok K (.cls ("Set" : Str))),
  (fun K => He.Fa.ok K (.meth ("Set" : Str) ("row" : Str))),
  (fun K => He.Fa.ok K (.cls ("Take" : Str))),
  (fun K => He.Fa.ok K (.meth ("Take" : Str) ("row" : Str))),
  (fun K => He.Fa.ok K (.glo ("_law_kinds" : Str))),
  (fun K => He.Fa.ok K (.glo ("_law_due" : Str))),
  (fun K => He.Fa.ok K (.free ("list" : Str))),
  (fun K => He.Fa.ok K (.glo ("_law_once" : Str))),
  (fun K => He.Fa.ok K (.glo ("_law_written" : Str))),
  (fun K => He.Fa.ok K (.glo ("_law_reads" : Str))),
  (fun K => He.Fa.ok K (.glo ("rows_of" : Str))),
  (fun K => He.Fa.ok K (.glo ("KINDS" : Str))),
  excM ("InvalidProgram" : Str),
  (fun K => He.Fa.ok K (.glo ("InvalidProgram" : Str))),
  (fun K => He.Fa.ok K (.glo ("SIZES" : Str))),
  (fun K => He.Fa.ok K (.glo ("Leave" : Str))),
  (fun K => He.Fa.ok K (.mkr ("Leave" : Str))),
  (fun K => He.Fa.ok K (.glo ("Call" : Str))),
  (fun K => He.Fa.ok K (.mkr ("Call" : Str))),
  (fun K => He.Fa.ok K (.glo ("build_body" : Str))),
  (fun K => He.Fa.ok K (.glo ("Guard" : Str))),
  (fun K => He.Fa.ok K (.mkr ("Guard" : Str))),
  (fun K => He.Fa.ok K (.glo ("check_number" : Str))),
  (fun K => He.Fa.ok K (.glo ("check_name" : Str))),
  (fun K => He.Fa.ok K (.glo ("Print" : Str))),
  (fun K => He.Fa.ok K (.mkr ("Print" : Str))),
  (fun K => He.Fa.ok K (.glo ("build_named" : Str))),
  (fun K => He.Fa.ok K (.glo ("_law_deep_row" : Str))),
  (fun K => He.Fa.ok K (.free ("bool" : Str))),
  (fun K => He.Fa.ok K (.free ("str" : Str))),
  (fun K => He.Fa.ok K (.free ("int" : Str))),
  (fun K => He.Fa.ok K (.glo ("Work" : Str))),
  (fun K => He.Fa.ok K (.glo ("Set" : Str))),
  (fun K => He.Fa.ok K (.glo ("Take" : Str))),
  (fun K => He.Fa.ok K (.glo ("Loop" : Str))),
  (fun K => He.Fa.ok K (.glo ("Test" : Str))),
  (fun K => He.Fa.ok K (.glo ("Step" : Str))),
  (fun K => He.Fa.ok K (.glo ("Holder" : Str))),
  (fun K => He.Fa.ok K (.glo ("Reader" : Str))),
  (fun K => He.Fa.ok K (.glo ("Writer" : Str))),
  (fun K => He.Fa.ok K (.glo ("Block" : Str))),
  supKB prog (dm .Print_init) ("Print" : Str) ("self" : Str),
  supCB ("Print" : Str) ("Print" : Str) ("__init__" : Str) (dm .Step_init).adr,
  (fun K => He.Fa.ok K (.free ("super" : Str))),
  supKB prog (dm .Guard_init) ("Guard" : Str) ("self" : Str),
  supCB ("Guard" : Str) ("Guard" : Str) ("__init__" : Str) (dm .Block_init).adr,
  supKB prog (dm .Call_init) ("Call" : Str) ("self" : Str),
  supCB ("Call" : Str) ("Call" : Str) ("__init__" : Str) (dm .Block_init).adr,
  supKB prog (dm .Leave_init) ("Leave" : Str) ("self" : Str),
  supCB ("Leave" : Str) ("Leave" : Str) ("__init__" : Str) (dm .Step_init).adr,
  (fun K => He.Fa.ok K (.str ("FIRST_SIGNS" : Str) ("abcdefghijklmnopqrstuvwxyz" : Str))),
  (fun K => He.Fa.ok K (.str ("SIGNS" : Str) ("abcdefghijklmnopqrstuvwxyz0123456789" : Str))),
  (fun K => He.Fa.ok K (.int ("DEEPEST" : Str) (40))),
  (fun K => He.Fa.ok K (.mkr ("Take" : Str))),
  (fun K => He.Fa.ok K (.mkr ("Set" : Str))),
  (fun K => He.Fa.ok K (.mkr ("Work" : Str))),
  (fun K => He.Fa.ok K (.mkr ("Loop" : Str))),
  (fun K => He.Fa.ok K (.mkr ("Test" : Str))),
  (fun K => He.Fa.ok K (.free ("max" : Str))),
  supKB prog (dm .Take_init) ("Take" : Str) ("self" : Str),
  supCB ("Take" : Str) ("Take" : Str) ("__init__" : Str) (dm .Step_init).adr,
  supKB prog (dm .Set_init) ("Set" : Str) ("self" : Str),
  supCB ("Set" : Str) ("Set" : Str) ("__init__" : Str) (dm .Step_init).adr,
  supKB prog (dm .Work_init) ("Work" : Str) ("self" : Str),
  supCB ("Work" : Str) ("Work" : Str) ("__init__" : Str) (dm .Step_init).adr,
  supKB prog (dm .Test_init) ("Test" : Str) ("self" : Str),
  supCB ("Test" : Str) ("Test" : Str) ("__init__" : Str) (dm .Step_init).adr,
  supKB prog (dm .Block_init) ("Block" : Str) ("self" : Str),
  supCB ("Call" : Str) ("Block" : Str) ("__init__" : Str) (dm .Step_init).adr,
  supCB ("Guard" : Str) ("Block" : Str) ("__init__" : Str) (dm .Step_init).adr,
  supCB ("Loop" : Str) ("Block" : Str) ("__init__" : Str) (dm .Step_init).adr,
  supCB ("Block" : Str) ("Block" : Str) ("__init__" : Str) (dm .Step_init).adr,
  supKB prog (dm .Loop_init) ("Loop" : Str) ("self" : Str),
  supCB ("Loop" : Str) ("Loop" : Str) ("__init__" : Str) (dm .Block_init).adr,
  wtSB_ ("KINDS" : Str) [("take" : Str), ("set" : Str), ("work" : Str), ("print" : Str), ("test" : Str), ("loop" : Str), ("guard" : Str), ("call" : Str), ("leave" : Str)],
  wtIB_ ("SIZES" : Str) [3, 3, 5, 3, 4, 4, 3, 2, 1],
  (fun K => He.Fa.ok K (.cls ("Step" : Str))),
  (fun K => He.Fa.ok K (.noat ("Step" : Str) ("writes" : Str))),
  (fun K => He.Fa.ok K (.noat ("Step" : Str) ("reads" : Str))),
  (fun K => He.Fa.ok K (.noat ("Step" : Str) ("parts" : Str))),
  (fun K => He.Fa.ok K (.noat ("Step" : Str) ("leaves" : Str))),
  (fun K => He.Fa.ok K (.noat ("Step" : Str) ("loops" : Str))),
  isiB ("Step" : Str),
  (fun K => He.Fa.ok K (.cls ("Writer" : Str))),
  (fun K => He.Fa.ok K (.noat ("Writer" : Str) ("writes" : Str))),
  (fun K => He.Fa.ok K (.noat ("Writer" : Str) ("reads" : Str))),
  (fun K => He.Fa.ok K (.noat ("Writer" : Str) ("parts" : Str))),
  (fun K => He.Fa.ok K (.noat ("Writer" : Str) ("leaves" : Str))),
  (fun K => He.Fa.ok K (.noat ("Writer" : Str) ("loops" : Str))),
  isiB ("Writer" : Str),
  (fun K => He.Fa.ok K (.cls ("Reader" : Str))),
  (fun K => He.Fa.ok K (.noat ("Reader" : Str) ("writes" : Str))),
  (fun K => He.Fa.ok K (.noat ("Reader" : Str) ("reads" : Str))),
  (fun K => He.Fa.ok K (.noat ("Reader" : Str) ("parts" : Str))),
  (fun K => He.Fa.ok K (.noat ("Reader" : Str) ("leaves" : Str))),
  (fun K => He.Fa.ok K (.noat ("Reader" : Str) ("loops" : Str))),
  isiB ("Reader" : Str),
  (fun K => He.Fa.ok K (.cls ("Holder" : Str))),
  (fun K => He.Fa.ok K (.noat ("Holder" : Str) ("writes" : Str))),
  (fun K => He.Fa.ok K (.noat ("Holder" : Str) ("reads" : Str))),
  (fun K => He.Fa.ok K (.noat ("Holder" : Str) ("parts" : Str))),
  (fun K => He.Fa.ok K (.noat ("Holder" : Str) ("leaves" : Str))),
  (fun K => He.Fa.ok K (.noat ("Holder" : Str) ("loops" : Str))),
  isiB ("Holder" : Str),
  (fun K => He.Fa.ok K (.noat ("Take" : Str) ("writes" : Str))),
  (fun K => He.Fa.ok K (.noat ("Take" : Str) ("reads" : Str))),
  (fun K => He.Fa.ok K (.noat ("Take" : Str) ("parts" : Str))),
  (fun K => He.Fa.ok K (.noat ("Take" : Str) ("leaves" : Str))),
  (fun K => He.Fa.ok K (.noat ("Take" : Str) ("loops" : Str))),
  (fun K => He.Fa.ok K (.noat ("Take" : Str) ("at" : Str))),
  isiB ("Take" : Str),
  (fun K => He.Fa.ok K (.noat ("Set" : Str) ("writes" : Str))),
  (fun K => He.Fa.ok K (.noat ("Set" : Str) ("reads" : Str))),
  (fun K => He.Fa.ok K (.noat ("Set" : Str) ("parts" : Str))),
  (fun K => He.Fa.ok K (.noat ("Set" : Str) ("leaves" : Str))),
  (fun K => He.Fa.ok K (.noat ("Set" : Str) ("loops" : Str))),
  (fun K => He.Fa.ok K (.noat ("Set" : Str) ("bit" : Str))),
  isiB ("Set" : Str),
  (fun K => He.Fa.ok K (.noat ("Work" : Str) ("writes" : Str))),
  (fun K => He.Fa.ok K (.noat ("Work" : Str) ("reads" : Str))),
  (fun K => He.Fa.ok K (.noat ("Work" : Str) ("parts" : Str))),
  (fun K => He.Fa.ok K (.noat ("Work" : Str) ("leaves" : Str))),
  (fun K => He.Fa.ok K (.noat ("Work" : Str) ("loops" : Str))),
  (fun K => He.Fa.ok K (.noat ("Work" : Str) ("table" : Str))),
  isiB ("Work" : Str),
  (fun K => He.Fa.ok K (.noat ("Print" : Str) ("writes" : Str))),
  (fun K => He.Fa.ok K (.noat ("Print" : Str) ("reads" : Str))),
  (fun K => He.Fa.ok K (.noat ("Print" : Str) ("parts" : Str))),
  (fun K => He.Fa.ok K (.noat ("Print" : Str) ("leaves" : Str))),
  (fun K => He.Fa.ok K (.noat ("Print" : Str) ("loops" : Str))),
  (fun K => He.Fa.ok K (.noat ("Print" : Str) ("channel" : Str))),
  isiB ("Print" : Str),
  (fun K => He.Fa.ok K (.noat ("Test" : Str) ("writes" : Str))),
  (fun K => He.Fa.ok K (.noat ("Test" : Str) ("reads" : Str))),
  (fun K => He.Fa.ok K (.noat ("Test" : Str) ("parts" : Str))),
  (fun K => He.Fa.ok K (.noat ("Test" : Str) ("leaves" : Str))),
  (fun K => He.Fa.ok K (.noat ("Test" : Str) ("loops" : Str))),
  isiB ("Test" : Str),
  (fun K => He.Fa.ok K (.cls ("Block" : Str))),
  (fun K => He.Fa.ok K (.noat ("Block" : Str) ("writes" : Str))),
  (fun K => He.Fa.ok K (.noat ("Block" : Str) ("reads" : Str))),
  (fun K => He.Fa.ok K (.noat ("Block" : Str) ("parts" : Str))),
  (fun K => He.Fa.ok K (.noat ("Block" : Str) ("leaves" : Str))),
  (fun K => He.Fa.ok K (.noat ("Block" : Str) ("loops" : Str))),
  (fun K => He.Fa.ok K (.noat ("Block" : Str) ("kind" : Str))),
  (fun K => He.Fa.ok K (.noat ("Block" : Str) ("opened" : Str))),
  isiB ("Block" : Str),
  (fun K => He.Fa.ok K (.noat ("Loop" : Str) ("writes" : Str))),
  (fun K => He.Fa.ok K (.noat ("Loop" : Str) ("reads" : Str))),
  (fun K => He.Fa.ok K (.noat ("Loop" : Str) ("parts" : Str))),
  (fun K => He.Fa.ok K (.noat ("Loop" : Str) ("leaves" : Str))),
  (fun K => He.Fa.ok K (.noat ("Loop" : Str) ("loops" : Str))),
  (fun K => He.Fa.ok K (.noat ("Loop" : Str) ("kind" : Str))),
  (fun K => He.Fa.ok K (.noat ("Loop" : Str) ("opened" : Str))),
  (fun K => He.Fa.ok K (.noat ("Loop" : Str) ("turns" : Str))),
  isiB ("Loop" : Str),
  (fun K => He.Fa.ok K (.noat ("Guard" : Str) ("writes" : Str))),
  (fun K => He.Fa.ok K (.noat ("Guard" : Str) ("reads" : Str))),
  (fun K => He.Fa.ok K (.noat ("Guard" : Str) ("parts" : Str))),
  (fun K => He.Fa.ok K (.noat ("Guard" : Str) ("leaves" : Str))),
  (fun K => He.Fa.ok K (.noat ("Guard" : Str) ("loops" : Str))),
  (fun K => He.Fa.ok K (.noat ("Guard" : Str) ("kind" : Str))),
  (fun K => He.Fa.ok K (.noat ("Guard" : Str) ("opened" : Str))),
  isiB ("Guard" : Str),
  (fun K => He.Fa.ok K (.noat ("Call" : Str) ("writes" : Str))),
  (fun K => He.Fa.ok K (.noat ("Call" : Str) ("reads" : Str))),
  (fun K => He.Fa.ok K (.noat ("Call" : Str) ("parts" : Str))),
  (fun K => He.Fa.ok K (.noat ("Call" : Str) ("leaves" : Str))),
  (fun K => He.Fa.ok K (.noat ("Call" : Str) ("loops" : Str))),
  (fun K => He.Fa.ok K (.noat ("Call" : Str) ("kind" : Str))),
  (fun K => He.Fa.ok K (.noat ("Call" : Str) ("opened" : Str))),
  isiB ("Call" : Str),
  (fun K => He.Fa.ok K (.noat ("Leave" : Str) ("writes" : Str))),
  (fun K => He.Fa.ok K (.noat ("Leave" : Str) ("reads" : Str))),
  (fun K => He.Fa.ok K (.noat ("Leave" : Str) ("parts" : Str))),
  (fun K => He.Fa.ok K (.noat ("Leave" : Str) ("leaves" : Str))),
  (fun K => He.Fa.ok K (.noat ("Leave" : Str) ("loops" : Str))),
  isiB ("Leave" : Str),
  (fun K => decide (PySem.W.kitOne K (.ref (He.ga K ("Block" : Str))) (.ref (He.ga K ("Block" : Str))) = some true)),
  (fun K => decide (PySem.W.kitOne K (.ref (He.ga K ("Block" : Str))) (.ref (He.ga K ("Call" : Str))) = some false)),
  (fun K => decide (PySem.W.kitOne K (.ref (He.ga K ("Block" : Str))) (.ref (He.ga K ("Guard" : Str))) = some false)),
  (fun K => decide (PySem.W.kitOne K (.ref (He.ga K ("Block" : Str))) (.ref (He.ga K ("Holder" : Str))) = some true)),
  (fun K => decide (PySem.W.kitOne K (.ref (He.ga K ("Block" : Str))) (.ref (He.ga K ("Leave" : Str))) = some false)),
  (fun K => decide (PySem.W.kitOne K (.ref (He.ga K ("Block" : Str))) (.ref (He.ga K ("Loop" : Str))) = some false)),
  (fun K => decide (PySem.W.kitOne K (.ref (He.ga K ("Block" : Str))) (.ref (He.ga K ("Print" : Str))) = some false)),
  (fun K => decide (PySem.W.kitOne K (.ref (He.ga K ("Block" : Str))) (.ref (He.ga K ("Reader" : Str))) = some false)),
  (fun K => decide (PySem.W.kitOne K (.ref (He.ga K ("Block" : Str))) (.ref (He.ga K ("Set" : Str))) = some false)),
  (fun K => decide (PySem.W.kitOne K (.ref (He.ga K ("Block" : Str))) (.ref (He.ga K ("Step" : Str))) = some true)),
  (fun K => decide (PySem.W.kitOne K (.ref (He.ga K ("Block" : Str))) (.ref (He.ga K ("Take" : Str))) = some false)),
  (fun K => decide (PySem.W.kitOne K (.ref (He.ga K ("Block" : Str))) (.ref (He.ga K ("Test" : Str))) = some false)),
  (fun K => decide (PySem.W.kitOne K (.ref (He.ga K ("Block" : Str))) (.ref (He.ga K ("Work" : Str))) = some false)),
  (fun K => decide (PySem.W.kitOne K (.ref (He.ga K ("Block" : Str))) (.ref (He.ga K ("Writer" : Str))) = some false)),
  (fun K => decide (PySem.W.kitOne K (.ref (He.ga K ("Call" : Str))) (.ref (He.ga K ("Block" : Str))) = some true)),
  (fun K => decide (PySem.W.kitOne K (.ref (He.ga K ("Call" : Str))) (.ref (He.ga K ("Call" : Str))) = some true)),
  (fun K => decide (PySem.W.kitOne K (.ref (He.ga K ("Call" : Str))) (.ref (He.ga K ("Guard" : Str))) = some false)),
  (fun K => decide (PySem.W.kitOne K (.ref (He.ga K ("Call" : Str))) (.ref (He.ga K ("Holder" : Str))) = some true)),
  (fun K => decide (PySem.W.kitOne K (.ref (He.ga K ("Call" : Str))) (.ref (He.ga K ("Leave" : Str))) = some false)),
  (fun K => decide (PySem.W.kitOne K (.ref (He.ga K ("Call" : Str))) (.ref (He.ga K ("Loop" : Str))) = some false)),
  (fun K => decide (PySem.W.kitOne K (.ref (He.ga K ("Call" : Str))) (.ref (He.ga K ("Print" : Str))) = some false)),
  (fun K => decide (PySem.W.kitOne K (.ref (He.ga K ("Call" : Str))) (.ref (He.ga K ("Reader" : Str))) = some false)),
  (fun K => decide (PySem.W.kitOne K (.ref (He.ga K ("Call" : Str))) (.ref (He.ga K ("Set" : Str))) = some false)),
  (fun K => decide (PySem.W.kitOne K (.ref (He.ga K ("Call" : Str))) (.ref (He.ga K ("Step" : Str))) = some true)),
  (fun K => decide (PySem.W.kitOne K (.ref (He.ga K ("Call" : Str))) (.ref (He.ga K ("Take" : Str))) = some false)),
  (fun K => decide (PySem.W.kitOne K (.ref (He.ga K ("Call" : Str))) (.ref (He.ga K ("Test" : Str))) = some false)),
  (fun K => decide (PySem.W.kitOne K (.ref (He.ga K ("Call" : Str))) (.ref (He.ga K ("Work" : Str))) = some false)),
  (fun K => decide (PySem.W.kitOne K (.ref (He.ga K ("Call" : Str))) (.ref (He.ga K ("Writer" : Str))) = some false)),
  (fun K => decide (PySem.W.kitOne K (.ref (He.ga K ("Guard" : Str))) (.ref (He.ga K ("Block" : Str))) = some true)),
  (fun K => decide (PySem.W.kitOne K (.ref (He.ga K ("Guard" : Str))) (.ref (He.ga K ("Call" : Str))) = some false)),
  (fun K => decide (PySem.W.kitOne K (.ref (He.ga K ("Guard" : Str))) (.ref (He.ga K ("Guard" : Str))) = some true)),
  (fun K => decide (PySem.W.kitOne K (.ref (He.ga K ("Guard" : Str))) (.ref (He.ga K ("Holder" : Str))) = some true)),
  (fun K => decide (PySem.W.kitOne K (.ref (He.ga K ("Guard" : Str))) (.ref (He.ga K ("Leave" : Str))) = some false)),
  (fun K => decide (PySem.W.kitOne K (.ref (He.ga K ("Guard" : Str))) (.ref (He.ga K ("Loop" : Str))) = some false)),
  (fun K => decide (PySem.W.kitOne K (.ref (He.ga K ("Guard" : Str))) (.ref (He.ga K ("Print" : Str))) = some false)),
  (fun K => decide (PySem.W.kitOne K (.ref (He.ga K ("Guard" : Str))) (.ref (He.ga K ("Reader" : Str))) = some false)),
  (fun K => decide (PySem.W.kitOne K (.ref (He.ga K ("Guard" : Str))) (.ref (He.ga K ("Set" : Str))) = some false)),
  (fun K => decide (PySem.W.kitOne K (.ref (He.ga K ("Guard" : Str))) (.ref (He.ga K ("Step" : Str))) = some true)),
  (fun K => decide (PySem.W.kitOne K (.ref (He.ga K ("Guard" : Str))) (.ref (He.ga K ("Take" : Str))) = some false)),
  (fun K => decide (PySem.W.kitOne K (.ref (He.ga K ("Guard" : Str))) (.ref (He.ga K ("Test" : Str))) = some false)),
  (fun K => decide (PySem.W.kitOne K (.ref (He.ga K ("Guard" : Str))) (.ref (He.ga K ("Work" : Str))) = some false)),
  (fun K => decide (PySem.W.kitOne K (.ref (He.ga K ("Guard" : Str))) (.ref (He.ga K ("Writer" : Str))) = some false)),
  (fun K => decide (PySem.W.kitOne K (.ref (He.ga K ("Holder" : Str))) (.ref (He.ga K ("Block" : Str))) = some false)),
  (fun K => decide (PySem.W.kitOne K (.ref (He.ga K ("Holder" : Str))) (.ref (He.ga K ("Call" : Str))) = some false)),
  (fun K => decide (PySem.W.kitOne K (.ref (He.ga K ("Holder" : Str))) (.ref (He.ga K ("Guard" : Str))) = some false)),
  (fun K => decide (PySem.W.kitOne K (.ref (He.ga K ("Holder" : Str))) (.ref (He.ga K ("Holder" : Str))) = some true)),
  (fun K => decide (PySem.W.kitOne K (.ref (He.ga K ("Holder" : Str))) (.ref (He.ga K ("Leave" : Str))) = some false)),
  (fun K => decide (PySem.W.kitOne K (.ref (He.ga K ("Holder" : Str))) (.ref (He.ga K ("Loop" : Str))) = some false)),
  (fun K => decide (PySem.W.kitOne K (.ref (He.ga K ("Holder" : Str))) (.ref (He.ga K ("Print" : Str))) = some false)),
  (fun K => decide (PySem.W.kitOne K (.ref (He.ga K ("Holder" : Str))) (.ref (He.ga K ("Reader" : Str))) = some false)),
  (fun K => decide (PySem.W.kitOne K (.ref (He.ga K ("Holder" : Str))) (.ref (He.ga K ("Set" : Str))) = some false)),
  (fun K => decide (PySem.W.kitOne K (.ref (He.ga K ("Holder" : Str))) (.ref (He.ga K ("Step" : Str))) = some true)),
  (fun K => decide (PySem.W.kitOne K (.ref (He.ga K ("Holder" : Str))) (.ref (He.ga K ("Take" : Str))) = some false)),
  (fun K => decide (PySem.W.kitOne K (.ref (He.ga K ("Holder" : Str))) (.ref (He.ga K ("Test" : Str))) = some false)),
  (fun K => decide (PySem.W.kitOne K (.ref (He.ga K ("Holder" : Str))) (.ref (He.ga K ("Work" : Str))) = some false)),
  (fun K => decide (PySem.W.kitOne K (.ref (He.ga K ("Holder" : Str))) (.ref (He.ga K ("Writer" : Str))) = some false)),
  (fun K => decide (PySem.W.kitOne K (.ref (He.ga K ("Leave" : Str))) (.ref (He.ga K ("Block" : Str))) = some false)),
  (fun K => decide (PySem.W.kitOne K (.ref (He.ga K ("Leave" : Str))) (.ref (He.ga K ("Call" : Str))) = some false)),
  (fun K => decide (PySem.W.kitOne K (.ref (He.ga K ("Leave" : Str))) (.ref (He.ga K ("Guard" : Str))) = some false)),
  (fun K => decide (PySem.W.kitOne K (.ref (He.ga K ("Leave" : Str))) (.ref (He.ga K ("Holder" : Str))) = some false)),
  (fun K => decide (PySem.W.kitOne K (.ref (He.ga K ("Leave" : Str))) (.ref (He.ga K ("Leave" : Str))) = some true)),
  (fun K => decide (PySem.W.kitOne K (.ref (He.ga K ("Leave" : Str))) (.ref (He.ga K ("Loop" : Str))) = some false)),
  (fun K => decide (PySem.W.kitOne K (.ref (He.ga K ("Leave" : Str))) (.ref (He.ga K ("Print" : Str))) = some false)),
  (fun K => decide (PySem.W.kitOne K (.ref (He.ga K ("Leave" : Str))) (.ref (He.ga K ("Reader" : Str))) = some false)),
  (fun K => decide (PySem.W.kitOne K (.ref (He.ga K ("Leave" : Str))) (.ref (He.ga K ("Set" : Str))) = some false)),
  (fun K => decide (PySem.W.kitOne K (.ref (He.ga K ("Leave" : Str))) (.ref (He.ga K ("Step" : Str))) = some true)),
  (fun K => decide (PySem.W.kitOne K (.ref (He.ga K ("Leave" : Str))) (.ref (He.ga K ("Take" : Str))) = some false)),
  (fun K => decide (PySem.W.kitOne K (.ref (He.ga K ("Leave" : Str))) (.ref (He.ga K ("Test" : Str))) = some false)),
  (fun K => decide (PySem.W.kitOne K (.ref (He.ga K ("Leave" : Str))) (.ref (He.ga K ("Work" : Str))) = some false)),
  (fun K => decide (PySem.W.kitOne K (.ref (He.ga K ("Leave" : Str))) (.ref (He.ga K ("Writer" : Str))) = some false)),
  (fun K => decide (PySem.W.kitOne K (.ref (He.ga K ("Loop" : Str))) (.ref (He.ga K ("Block" : Str))) = some true)),
  (fun K => decide (PySem.W.kitOne K (.ref (He.ga K ("Loop" : Str))) (.ref (He.ga K ("Call" : Str))) = some false)),
  (fun K => decide (PySem.W.kitOne K (.ref (He.ga K ("Loop" : Str))) (.ref (He.ga K ("Guard" : Str))) = some false)),
  (fun K => decide (PySem.W.kitOne K (.ref (He.ga K ("Loop" : Str))) (.ref (He.ga K ("Holder" : Str))) = some true)),
  (fun K => decide (PySem.W.kitOne K (.ref (He.ga K ("Loop" : Str))) (.ref (He.ga K ("Leave" : Str))) = some false)),
  (fun K => decide (PySem.W.kitOne K (.ref (He.ga K ("Loop" : Str))) (.ref (He.ga K ("Loop" : Str))) = some true)),
  (fun K => decide (PySem.W.kitOne K (.ref (He.ga K ("Loop" : Str))) (.ref (He.ga K ("Print" : Str))) = some false)),
  (fun K => decide (PySem.W.kitOne K (.ref (He.ga K ("Loop" : Str))) (.ref (He.ga K ("Reader" : Str))) = some true)),
  (fun K => decide (PySem.W.kitOne K (.ref (He.ga K ("Loop" : Str))) (.ref (He.ga K ("Set" : Str))) = some false)),
  (fun K => decide (PySem.W.kitOne K (.ref (He.ga K ("Loop" : Str))) (.ref (He.ga K ("Step" : Str))) = some true)),
  (fun K => decide (PySem.W.kitOne K (.ref (He.ga K ("Loop" : Str))) (.ref (He.ga K ("Take" : Str))) = some false)),
  (fun K => decide (PySem.W.kitOne K (.ref (He.ga K ("Loop" : Str))) (.ref (He.ga K ("Test" : Str))) = some false)),
  (fun K => decide (PySem.W.kitOne K (.ref (He.ga K ("Loop" : Str))) (.ref (He.ga K ("Work" : Str))) = some false)),
  (fun K => decide (PySem.W.kitOne K (.ref (He.ga K ("Loop" : Str))) (.ref (He.ga K ("Writer" : Str))) = some false)),
  (fun K => decide (PySem.W.kitOne K (.type "NoneType") (.ref (He.ga K ("Block" : Str))) = some false)),
  (fun K => decide (PySem.W.kitOne K (.type "NoneType") (.ref (He.ga K ("Call" : Str))) = some false)),
  (fun K => decide (PySem.W.kitOne K (.type "NoneType") (.ref (He.ga K ("Guard" : Str))) = some false)),
  (fun K => decide (PySem.W.kitOne K (.type "NoneType") (.ref (He.ga K ("Holder" : Str))) = some false)),
  (fun K => decide (PySem.W.kitOne K (.type "NoneType") (.ref (He.ga K ("Leave" : Str))) = some false)),
  (fun K => decide (PySem.W.kitOne K (.type "NoneType") (.ref (He.ga K ("Loop" : Str))) = some false)),
  (fun K => decide (PySem.W.kitOne K (.type "NoneType") (.ref (He.ga K ("Print" : Str))) = some false)),
  (fun K => decide (PySem.W.kitOne K (.type "NoneType") (.ref (He.ga K ("Reader" : Str))) = some false)),
  (fun K => decide (PySem.W.kitOne K (.type "NoneType") (.ref (He.ga K ("Set" : Str))) = some false)),
  (fun K => decide (PySem.W.kitOne K (.type "NoneType") (.ref (He.ga K ("Step" : Str))) = some false)),
  (fun K => decide (PySem.W.kitOne K (.type "NoneType") (.ref (He.ga K ("Take" : Str))) = some false)),
  (fun K => decide (PySem.W.kitOne K (.type "NoneType") (.ref (He.ga K ("Test" : Str))) = some false)),
  (fun K => decide (PySem.W.kitOne K (.type "NoneType") (.ref (He.ga K ("Work" : Str))) = some false)),
  (fun K => decide (PySem.W.kitOne K (.type "NoneType") (.ref (He.ga K ("Writer" : Str))) = some false)),
  (fun K => decide (PySem.W.kitOne K (.ref (He.ga K ("Print" : Str))) (.ref (He.ga K ("Block" : Str))) = some false)),
  (fun K => decide (PySem.W.kitOne K (.ref (He.ga K ("Print" : Str))) (.ref (He.ga K ("Call" : Str))) = some false)),
  (fun K => decide (PySem.W.kitOne K (.ref (He.ga K ("Print" : Str))) (.ref (He.ga K ("Guard" : Str))) = some false)),
  (fun K => decide (PySem.W.kitOne K (.ref (He.ga K ("Print" : Str))) (.ref (He.ga K ("Holder" : Str))) = some false)),
  (fun K => decide (PySem.W.kitOne K (.ref (He.ga K ("Print" : Str))) (.ref (He.ga K ("Leave" : Str))) = some false)),
  (fun K => decide (PySem.W.kitOne K (.ref (He.ga K ("Print" : Str))) (.ref (He.ga K ("Loop" : Str))) = some false)),
  (fun K => decide (PySem.W.kitOne K (.ref (He.ga K ("Print" : Str))) (.ref (He.ga K ("Print" : Str))) = some true)),
  (fun K => decide (PySem.W.kitOne K (.ref (He.ga K ("Print" : Str))) (.ref (He.ga K ("Reader" : Str))) = some true)),
  (fun K => decide (PySem.W.kitOne K (.ref (He.ga K ("Print" : Str))) (.ref (He.ga K ("Set" : Str))) = some false)),
  (fun K => decide (PySem.W.kitOne K (.ref (He.ga K ("Print" : Str))) (.ref (He.ga K ("Step" : Str))) = some true)),
  (fun K => decide (PySem.W.kitOne K (.ref (He.ga K ("Print" : Str))) (.ref (He.ga K ("Take" : Str))) = some false)),
  (fun K => decide (PySem.W.kitOne K (.ref (He.ga K ("Print" : Str))) (.ref (He.ga K ("Test" : Str))) = some false)),
  (fun K => decide (PySem.W.kitOne K (.ref (He.ga K ("Print" : Str))) (.ref (He.ga K ("Work" : Str))) = some false)),
  (fun K => decide (PySem.W.kitOne K (.ref (He.ga K ("Print" : Str))) (.ref (He.ga K ("Writer" : Str))) = some false)),
  (fun K => decide (PySem.W.kitOne K (.ref (He.ga K ("Reader" : Str))) (.ref (He.ga K ("Block" : Str))) = some false)),
  (fun K => decide (PySem.W.kitOne K (.ref (He.ga K ("Reader" : Str))) (.ref (He.ga K ("Call" : Str))) = some false)),
  (fun K => decide (PySem.W.kitOne K (.ref (He.ga K ("Reader" : Str))) (.ref (He.ga K ("Guard" : Str))) = some false)),
  (fun K => decide (PySem.W.kitOne K (.ref (He.ga K ("Reader" : Str))) (.ref (He.ga K ("Holder" : Str))) = some false)),
  (fun K => decide (PySem.W.kitOne K (.ref (He.ga K ("Reader" : Str))) (.ref (He.ga K ("Leave" : Str))) = some false)),
  (fun K => decide (PySem.W.kitOne K (.ref (He.ga K ("Reader" : Str))) (.ref (He.ga K ("Loop" : Str))) = some false)),
  (fun K => decide (PySem.W.kitOne K (.ref (He.ga K ("Reader" : Str))) (.ref (He.ga K ("Print" : Str))) = some false)),
  (fun K => decide (PySem.W.kitOne K (.ref (He.ga K ("Reader" : Str))) (.ref (He.ga K ("Reader" : Str))) = some true)),
  (fun K => decide (PySem.W.kitOne K (.ref (He.ga K ("Reader" : Str))) (.ref (He.ga K ("Set" : Str))) = some false)),
  (fun K => decide (PySem.W.kitOne K (.ref (He.ga K ("Reader" : Str))) (.ref (He.ga K ("Step" : Str))) = some true)),
  (fun K => decide (PySem.W.kitOne K (.ref (He.ga K ("Reader" : Str))) (.ref (He.ga K ("Take" : Str))) = some false)),
  (fun K => decide (PySem.W.kitOne K (.ref (He.ga K ("Reader" : Str))) (.ref (He.ga K ("Test" : Str))) = some false)),
  (fun K => decide (PySem.W.kitOne K (.ref (He.ga K ("Reader" : Str))) (.ref (He.ga K ("Work" : Str))) = some false)),
  (fun K => decide (PySem.W.kitOne K (.ref (He.ga K ("Reader" : Str))) (.ref (He.ga K ("Writer" : Str))) = some false)),
  (fun K => decide (PySem.W.kitOne K (.ref (He.ga K ("Set" : Str))) (.ref (He.ga K ("Block" : Str))) = some false)),
  (fun K => decide (PySem.W.kitOne K (.ref (He.ga K ("Set" : Str))) (.ref (He.ga K ("Call" : Str))) = some false)),
  (fun K => decide (PySem.W.kitOne K (.ref (He.ga K ("Set" : Str))) (.ref (He.ga K ("Guard" : Str))) = some false)),
  (fun K => decide (PySem.W.kitOne K (.ref (He.ga K ("Set" : Str))) (.ref (He.ga K ("Holder" : Str))) = some false)),
  (fun K => decide (PySem.W.kitOne K (.ref (He.ga K ("Set" : Str))) (.ref (He.ga K ("Leave" : Str))) = some false)),
  (fun K => decide (PySem.W.kitOne K (.ref (He.ga K ("Set" : Str))) (.ref (He.ga K ("Loop" : Str))) = some false)),
  (fun K => decide (PySem.W.kitOne K (.ref (He.ga K ("Set" : Str))) (.ref (He.ga K ("Print" : Str))) = some false)),
  (fun K => decide (PySem.W.kitOne K (.ref (He.ga K ("Set" : Str))) (.ref (He.ga K ("Reader" : Str))) = some false)),
  (fun K => decide (PySem.W.kitOne K (.ref (He.ga K ("Set" : Str))) (.ref (He.ga K ("Set" : Str))) = some true)),
  (fun K => decide (PySem.W.kitOne K (.ref (He.ga K ("Set" : Str))) (.ref (He.ga K ("Step" : Str))) = some true)),
  (fun K => decide (PySem.W.kitOne K (.ref (He.ga K ("Set" : Str))) (.ref (He.ga K ("Take" : Str))) = some false)),
  (fun K => decide (PySem.W.kitOne K (.ref (He.ga K ("Set" : Str))) (.ref (He.ga K ("Test" : Str))) = some false)),
  (fun K => decide (PySem.W.kitOne K (.ref (He.ga K ("Set" : Str))) (.ref (He.ga K ("Work" : Str))) = some false)),
  (fun K => decide (PySem.W.kitOne K (.ref (He.ga K ("Set" : Str))) (.ref (He.ga K ("Writer" : Str))) = some true)),
  (fun K => decide (PySem.W.kitOne K (.ref (He.ga K ("Step" : Str))) (.ref (He.ga K ("Block" : Str))) = some false)),
  (fun K => decide (PySem.W.kitOne K (.ref (He.ga K ("Step" : Str))) (.ref (He.ga K ("Call" : Str))) = some false)),
  (fun K => decide (PySem.W.kitOne K (.ref (He.ga K ("Step" : Str))) (.ref (He.ga K ("Guard" : Str))) = some false)),
  (fun K => decide (PySem.W.kitOne K (.ref (He.ga K ("Step" : Str))) (.ref (He.ga K ("Holder" : Str))) = some false)),
  (fun K => decide (PySem.W.kitOne K (.ref (He.ga K ("Step" : Str))) (.ref (He.ga K ("Leave" : Str))) = some false)),
  (fun K => decide (PySem.W.kitOne K (.ref (He.ga K ("Step" : Str))) (.ref (He.ga K ("Loop" : Str))) = some false)),
  (fun K => decide (PySem.W.kitOne K (.ref (He.ga K ("Step" : Str))) (.ref (He.ga K ("Print" : Str))) = some false)),
  (fun K => decide (PySem.W.kitOne K (.ref (He.ga K ("Step" : Str))) (.ref (He.ga K ("Reader" : Str))) = some false)),
  (fun K => decide (PySem.W.kitOne K (.ref (He.ga K ("Step" : Str))) (.ref (He.ga K ("Set" : Str))) = some false)),
  (fun K => decide (PySem.W.kitOne K (.ref (He.ga K ("Step" : Str))) (.ref (He.ga K ("Step" : Str))) = some true)),
  (fun K => decide (PySem.W.kitOne K (.ref (He.ga K ("Step" : Str))) (.ref (He.ga K ("Take" : Str))) = some false)),
  (fun K => decide (PySem.W.kitOne K (.ref (He.ga K ("Step" : Str))) (.ref (He.ga K ("Test" : Str))) = some false)),
  (fun K => decide (PySem.W.kitOne K (.ref (He.ga K ("Step" : Str))) (.ref (He.ga K ("Work" : Str))) = some false)),
  (fun K => decide (PySem.W.kitOne K (.ref (He.ga K ("Step" : Str))) (.ref (He.ga K ("Writer" : Str))) = some false)),
  (fun K => decide (PySem.W.kitOne K (.ref (He.ga K ("Take" : Str))) (.ref (He.ga K ("Block" : Str))) = some false)),
  (fun K => decide (PySem.W.kitOne K (.ref (He.ga K ("Take" : Str))) (.ref (He.ga K ("Call" : Str))) = some false)),
  (fun K => decide (PySem.W.kitOne K (.ref (He.ga K ("Take" : Str))) (.ref (He.ga K ("Guard" : Str))) = some false)),
  (fun K => decide (PySem.W.kitOne K (.ref (He.ga K ("Take" : Str))) (.ref (He.ga K ("Holder" : Str))) = some false)),
  (fun K => decide (PySem.W.kitOne K (.ref (He.ga K ("Take" : Str))) (.ref (He.ga K ("Leave" : Str))) = some false)),
  (fun K => decide (PySem.W.kitOne K (.ref (He.ga K ("Take" : Str))) (.ref (He.ga K ("Loop" : Str))) = some false)),
  (fun K => decide (PySem.W.kitOne K (.ref (He.ga K ("Take" : Str))) (.ref (He.ga K ("Print" : Str))) = some false)),
  (fun K => decide (PySem.W.kitOne K (.ref (He.ga K ("Take" : Str))) (.ref (He.ga K ("Reader" : Str))) = some false)),
  (fun K => decide (PySem.W.kitOne K (.ref (He.ga K ("Take" : Str))) (.ref (He.ga K ("Set" : Str))) = some false)),
  (fun K => decide (PySem.W.kitOne K (.ref (He.ga K ("Take" : Str))) (.ref (He.ga K ("Step" : Str))) = some true)),
  (fun K => decide (PySem.W.kitOne K (.ref (He.ga K ("Take" : Str))) (.ref (He.ga K ("Take" : Str))) = some true)),
  (fun K => decide (PySem.W.kitOne K (.ref (He.ga K ("Take" : Str))) (.ref (He.ga K ("Test" : Str))) = some false)),
  (fun K => decide (PySem.W.kitOne K (.ref (He.ga K ("Take" : Str))) (.ref (He.ga K ("Work" : Str))) = some false)),
  (fun K => decide (PySem.W.kitOne K (.ref (He.ga K ("Take" : Str))) (.ref (He.ga K ("Writer" : Str))) = some true)),
  (fun K => decide (PySem.W.kitOne K (.ref (He.ga K ("Test" : Str))) (.ref (He.ga K ("Block" : Str))) = some false)),
  (fun K => decide (PySem.W.kitOne K (.ref (He.ga K ("Test" : Str))) (.ref (He.ga K ("Call" : Str))) = some false)),
  (fun K => decide (PySem.W.kitOne K (.ref (He.ga K ("Test" : Str))) (.ref (He.ga K ("Guard" : Str))) = some false)),
  (fun K => decide (PySem.W.kitOne K (.ref (He.ga K ("Test" : Str))) (.ref (He.ga K ("Holder" : Str))) = some true)),
  (fun K => decide (PySem.W.kitOne K (.ref (He.ga K ("Test" : Str))) (.ref (He.ga K ("Leave" : Str))) = some false)),
  (fun K => decide (PySem.W.kitOne K (.ref (He.ga K ("Test" : Str))) (.ref (He.ga K ("Loop" : Str))) = some false)),
  (fun K => decide (PySem.W.kitOne K (.ref (He.ga K ("Test" : Str))) (.ref (He.ga K ("Print" : Str))) = some false)),
  (fun K => decide (PySem.W.kitOne K (.ref (He.ga K ("Test" : Str))) (.ref (He.ga K ("Reader" : Str))) = some true)),
  (fun K => decide (PySem.W.kitOne K (.ref (He.ga K ("Test" : Str))) (.ref (He.ga K ("Set" : Str))) = some false)),
  (fun K => decide (PySem.W.kitOne K (.ref (He.ga K ("Test" : Str))) (.ref (He.ga K ("Step" : Str))) = some true)),
  (fun K => decide (PySem.W.kitOne K (.ref (He.ga K ("Test" : Str))) (.ref (He.ga K ("Take" : Str))) = some false)),
  (fun K => decide (PySem.W.kitOne K (.ref (He.ga K ("Test" : Str))) (.ref (He.ga K ("Test" : Str))) = some true)),
  (fun K => decide (PySem.W.kitOne K (.ref (He.ga K ("Test" : Str))) (.ref (He.ga K ("Work" : Str))) = some false)),
  (fun K => decide (PySem.W.kitOne K (.ref (He.ga K ("Test" : Str))) (.ref (He.ga K ("Writer" : Str))) = some false)),
  (fun K => decide (PySem.W.kitOne K (.ref (He.ga K ("Work" : Str))) (.ref (He.ga K ("Block" : Str))) = some false)),
  (fun K => decide (PySem.W.kitOne K (.ref (He.ga K ("Work" : Str))) (.ref (He.ga K ("Call" : Str))) = some false)),
  (fun K => decide (PySem.W.kitOne K (.ref (He.ga K ("Work" : Str))) (.ref (He.ga K ("Guard" : Str))) = some false)),
  (fun K => decide (PySem.W.kitOne K (.ref (He.ga K ("Work" : Str))) (.ref (He.ga K ("Holder" : Str))) = some false)),
  (fun K => decide (PySem.W.kitOne K (.ref (He.ga K ("Work" : Str))) (.ref (He.ga K ("Leave" : Str))) = some false)),
  (fun K => decide (PySem.W.kitOne K (.ref (He.ga K ("Work" : Str))) (.ref (He.ga K ("Loop" : Str))) = some false)),
  (fun K => decide (PySem.W.kitOne K (.ref (He.ga K ("Work" : Str))) (.ref (He.ga K ("Print" : Str))) = some false)),
  (fun K => decide (PySem.W.kitOne K (.ref (He.ga K ("Work" : Str))) (.ref (He.ga K ("Reader" : Str))) = some true)),
  (fun K => decide (PySem.W.kitOne K (.ref (He.ga K ("Work" : Str))) (.ref (He.ga K ("Set" : Str))) = some false)),
  (fun K => decide (PySem.W.kitOne K (.ref (He.ga K ("Work" : Str))) (.ref (He.ga K ("Step" : Str))) = some true)),
  (fun K => decide (PySem.W.kitOne K (.ref (He.ga K ("Work" : Str))) (.ref (He.ga K ("Take" : Str))) = some false)),
  (fun K => decide (PySem.W.kitOne K (.ref (He.ga K ("Work" : Str))) (.ref (He.ga K ("Test" : Str))) = some false)),
  (fun K => decide (PySem.W.kitOne K (.ref (He.ga K ("Work" : Str))) (.ref (He.ga K ("Work" : Str))) = some true)),
  (fun K => decide (PySem.W.kitOne K (.ref (He.ga K ("Work" : Str))) (.ref (He.ga K ("Writer" : Str))) = some true)),
  (fun K => decide (PySem.W.kitOne K (.ref (He.ga K ("Writer" : Str))) (.ref (He.ga K ("Block" : Str))) = some false)),
  (fun K => decide (PySem.W.kitOne K (.ref (He.ga K ("Writer" : Str))) (.ref (He.ga K ("Call" : Str))) = some false)),
  (fun K => decide (PySem.W.kitOne K (.ref (He.ga K ("Writer" : Str))) (.ref (He.ga K ("Guard" : Str))) = some false)),
  (fun K => decide (PySem.W.kitOne K (.ref (He.ga K ("Writer" : Str))) (.ref (He.ga K ("Holder" : Str))) = some false)),
  (fun K => decide (PySem.W.kitOne K (.ref (He.ga K ("Writer" : Str))) (.ref (He.ga K ("Leave" : Str))) = some false)),
  (fun K => decide (PySem.W.kitOne K (.ref (He.ga K ("Writer" : Str))) (.ref (He.ga K ("Loop" : Str))) = some false)),
  (fun K => decide (PySem.W.kitOne K (.ref (He.ga K ("Writer" : Str))) (.ref (He.ga K ("Print" : Str))) = some false)),
  (fun K => decide (PySem.W.kitOne K (.ref (He.ga K ("Writer" : Str))) (.ref (He.ga K ("Reader" : Str))) = some false)),
  (fun K => decide (PySem.W.kitOne K (.ref (He.ga K ("Writer" : Str))) (.ref (He.ga K ("Set" : Str))) = some false)),
  (fun K => decide (PySem.W.kitOne K (.ref (He.ga K ("Writer" : Str))) (.ref (He.ga K ("Step" : Str))) = some true)),
  (fun K => decide (PySem.W.kitOne K (.ref (He.ga K ("Writer" : Str))) (.ref (He.ga K ("Take" : Str))) = some false)),
  (fun K => decide (PySem.W.kitOne K (.ref (He.ga K ("Writer" : Str))) (.ref (He.ga K ("Test" : Str))) = some false)),
  (fun K => decide (PySem.W.kitOne K (.ref (He.ga K ("Writer" : Str))) (.ref (He.ga K ("Work" : Str))) = some false)),
  (fun K => decide (PySem.W.kitOne K (.ref (He.ga K ("Writer" : Str))) (.ref (He.ga K ("Writer" : Str))) = some true)),
  (fun K => decide (PySem.W.kitOne K (.type "int") (.ref (He.ga K ("Block" : Str))) = some false)),
  (fun K => decide (PySem.W.kitOne K (.type "int") (.ref (He.ga K ("Call" : Str))) = some false)),
  (fun K => decide (PySem.W.kitOne K (.type "int") (.ref (He.ga K ("Guard" : Str))) = some false)),
  (fun K => decide (PySem.W.kitOne K (.type "int") (.ref (He.ga K ("Holder" : Str))) = some false)),
  (fun K => decide (PySem.W.kitOne K (.type "int") (.ref (He.ga K ("Leave" : Str))) = some false)),
  (fun K => decide (PySem.W.kitOne K (.type "int") (.ref (He.ga K ("Loop" : Str))) = some false)),
  (fun K => decide (PySem.W.kitOne K (.type "int") (.ref (He.ga K ("Print" : Str))) = some false)),
  (fun K => decide (PySem.W.kitOne K (.type "int") (.ref (He.ga K ("Reader" : Str))) = some false)),
  (fun K => decide (PySem.W.kitOne K (.type "int") (.ref (He.ga K ("Set" : Str))) = some false)),
  (fun K => decide (PySem.W.kitOne K (.type "int") (.ref (He.ga K ("Step" : Str))) = some false)),
  (fun K => decide (PySem.W.kitOne K (.type "int") (.ref (He.ga K ("Take" : Str))) = some false)),
  (fun K => decide (PySem.W.kitOne K (.type "int") (.ref (He.ga K ("Test" : Str))) = some false)),
  (fun K => decide (PySem.W.kitOne K (.type "int") (.ref (He.ga K ("Work" : Str))) = some false)),
  (fun K => decide (PySem.W.kitOne K (.type "int") (.ref (He.ga K ("Writer" : Str))) = some false))]
def fnl : List DefM := [dm .Step_init, dm .Take_init, dm .Take_row, dm .Set_init, dm .Set_row, dm .Work_init, dm .Work_row, dm .Print_init, dm .Print_row, dm .Test_init, dm .Test_row, dm .Block_init, dm .Loop_init, dm .Loop_row, dm .Guard_init, dm .Guard_row, dm .Call_init, dm .Call_row, dm .Leave_init, dm .Leave_row, dm .rows_of, dm .check_name, dm .check_number, dm .build_body, dm .build_step, dm .build_named, dm .law_cell, dm .law_draws, dm .law_names, dm .law_rows, dm .law_row, dm .law_deep_row, dm .law_written, dm .law_once, dm .law_same, dm .law_lists, dm .law_kinds, dm .law_due, dm .law_reads, dm .law_fits, dm .law]
def tbs : List He.Tab := []
abbrev exb (K : PySem.W.Frag) : Bool := exl.all fun f => f K
def loose0 : List PySem.Str := ["_wall", "MarkError", "InvalidProgram", "Step", "Writer", "Reader", "Holder", "Take", "Set", "Work", "Print", "Test", "Block", "Loop", "Guard", "Call", "Leave", "rows_of", "KINDS", "SIZES", "FIRST_SIGNS", "SIGNS", "DEEPEST", "check_name", "check_number", "build_body", "build_step", "build_named", "_law_cell", "_law_draws"]
def loose1 : List PySem.Str := ["_law_names", "_law_rows", "_law_row", "_law_deep_row", "_law_written", "_law_leaves", "_law_once", "_law_same", "_law_lists", "_law_kinds", "_law_due", "_law_reads", "_law_fits"]
abbrev looseN : List PySem.Str := loose0 ++ loose1
abbrev RR : PySem.W.OpenRow := PySem.W.OpenLaw.row PySem.Challenge.rw_stickymarks_k15_build_step
abbrev hkM : PySem.W.Hook := hookMS 6 fnl exb tbs
set_option maxHeartbeats 0 in
theorem run_top (w : World) : HandSHeadRun.RunEq RR (PySem.W.view RR.prog [47]) hkM (obsMSG 6 fnl exb tbs) 20000 looseN w := by
  intro os
  kernel_rfl
def ixOf : Fn → Nat
  | .Step_init => 0
  | .Take_init => 1
  | .Take_row => 2
  | .Set_init => 3
  | .Set_row => 4
  | .Work_init => 5
  | .Work_row => 6
  | .Print_init => 7
  | .Print_row => 8
  | .Test_init => 9
  | .Test_row => 10
  | .Block_init => 11
  | .Loop_init => 12
  | .Loop_row => 13
  | .Guard_init => 14
  | .Guard_row => 15
  | .Call_init => 16
  | .Call_row => 17
  | .Leave_init => 18
  | .Leave_row => 19
  | .rows_of => 20
  | .check_name => 21
  | .check_number => 22
  | .build_body => 23
  | .build_step => 24
  | .build_named => 25
  | .law_cell => 26
  | .law_draws => 27
  | .law_names => 28
  | .law_rows => 29
  | .law_row => 30
  | .law_deep_row => 31
  | .law_written => 32
  | .law_once => 33
  | .law_same => 34
  | .law_lists => 35
  | .law_kinds => 36
  | .law_due => 37
  | .law_reads => 38
  | .law_fits => 39
  | .law => 40
theorem fun_of {w : World} {K : PySem.W.Frag} (c : SaysM fnl exb tbs w K) (f : Fn) (hfr : (dm f).fr = []) : FunM K (dm f) := c.fun (ixOf f) hfr (by cases f <;> rfl)
theorem fun_ofC {w : World} {K : PySem.W.Frag} (c : SaysM fnl exb tbs w K) (f : Fn) (hfr : (dm f).fr = [("__class__" : Str)]) (hdf : (dm f).dfl = []) : FunMC K (dm f) := c.funC (ixOf f) hfr hdf (by cases f <;> rfl)
theorem txtK_of {w : World} {K : PySem.W.Frag} (c : SaysM fnl exb tbs w K) : TxtK K := by
  have F := fun_of c
  have FC := fun_ofC c
  have m := c.more
  exact {
    f_Step_init := F .Step_init rfl,
    f_Take_init := FC .Take_init rfl rfl,
    f_Take_row := F .Take_row rfl,
    f_Set_init := FC .Set_init rfl rfl,
    f_Set_row := F .Set_row rfl,
    f_Work_init := FC .Work_init rfl rfl,
    f_Work_row := F .Work_row rfl,
    f_Print_init := FC .Print_init rfl rfl,
    f_Print_row := F .Print_row rfl,
    f_Test_init := FC .Test_init rfl rfl,
    f_Test_row := F .Test_row rfl,
    f_Block_init := FC .Block_init rfl rfl,
    f_Loop_init := FC .Loop_init rfl rfl,
    f_Loop_row := F .Loop_row rfl,
    f_Guard_init := FC .Guard_init rfl rfl,
    f_Guard_row := F .Guard_row rfl,
    f_Call_init := FC .Call_init rfl rfl,
    f_Call_row := F .Call_row rfl,
    f_Leave_init := FC .Leave_init rfl rfl,
    f_Leave_row := F .Leave_row rfl,
    f_rows_of := F .rows_of rfl,
    f_check_name := F .check_name rfl,
    f_check_number := F .check_number rfl,
    f_build_body := F .build_body rfl,
    f_build_step := F .build_step rfl,
    f_build_named := F .build_named rfl,
    f_law_cell := F .law_cell rfl,
    f_law_draws := F .law_draws rfl,
    f_law_names := F .law_names rfl,
    f_law_rows := F .law_rows rfl,
    f_law_row := F .law_row rfl,
    f_law_deep_row := F .law_deep_row rfl,
    f_law_written := F .law_written rfl,
    f_law_once := F .law_once rfl,
    f_law_same := F .law_same rfl,
    f_law_lists := F .law_lists rfl,
    f_law_kinds := F .law_kinds rfl,
    f_law_due := F .law_due rfl,
    f_law_reads := F .law_reads rfl,
    f_law_fits := F .law_fits rfl,
    f_law := F .law rfl,
    b_Block_init_4 := FunC.bindsN (FC .Block_init rfl rfl) fun _ _ _ _ _ us hl => match us, hl with | [_, _, _, _], _ => rfl,
    b_Call_init_2 := FunC.bindsN (FC .Call_init rfl rfl) fun _ _ _ _ _ us hl => match us, hl with | [_, _], _ => rfl,
    b_Call_row_1 := FunD.bindsN (F .Call_row rfl) fun _ _ _ _ _ _ us hl => match us, hl with | [_], _ => rfl,
    b_Guard_init_3 := FunC.bindsN (FC .Guard_init rfl rfl) fun _ _ _ _ _ us hl => match us, hl with | [_, _, _], _ => rfl,
    b_Guard_row_1 := FunD.bindsN (F .Guard_row rfl) fun _ _ _ _ _ _ us hl => match us, hl with | [_], _ => rfl,
    b_Leave_init_1 := FunC.bindsN (FC .Leave_init rfl rfl) fun _ _ _ _ _ us hl => match us, hl with | [_], _ => rfl,
    b_Leave_row_1 := FunD.bindsN (F .Leave_row rfl) fun _ _ _ _ _ _ us hl => match us, hl with | [_], _ => rfl,
    b_Loop_init_4 := FunC.bindsN (FC .Loop_init rfl rfl) fun _ _ _ _ _ us hl => match us, hl with | [_, _, _, _], _ => rfl,
    b_Loop_row_1 := FunD.bindsN (F .Loop_row rfl) fun _ _ _ _ _ _ us hl => match us, hl with | [_], _ => rfl,
    b_Print_init_3 := FunC.bindsN (FC .Print_init rfl rfl) fun _ _ _ _ _ us hl => match us, hl with | [_, _, _], _ => rfl,
    b_Print_row_1 := FunD.bindsN (F .Print_row rfl) fun _ _ _ _ _ _ us hl => match us, hl with | [_], _ => rfl,
    b_Set_init_3 := FunC.bindsN (FC .Set_init rfl rfl) fun _ _ _ _ _ us hl => match us, hl with | [_, _, _], _ => rfl,
    b_Set_row_1 := FunD.bindsN (F .Set_row rfl) fun _ _ _ _ _ _ us hl => match us, hl with | [_], _ => rfl,
    b_Step_init_4 := FunD.bindsN (F .Step_init rfl) fun _ _ _ _ _ _ us hl => match us, hl with | [_, _, _, _], _ => rfl,
    b_Take_init_3 := FunC.bindsN (FC .Take_init rfl rfl) fun _ _ _ _ _ us hl => match us, hl with | [_, _, _], _ => rfl,
    b_Take_row_1 := FunD.bindsN (F .Take_row rfl) fun _ _ _ _ _ _ us hl => match us, hl with | [_], _ => rfl,
    b_Test_init_4 := FunC.bindsN (FC .Test_init rfl rfl) fun _ _ _ _ _ us hl => match us, hl with | [_, _, _, _], _ => rfl,
    b_Test_row_1 := FunD.bindsN (F .Test_row rfl) fun _ _ _ _ _ _ us hl => match us, hl with | [_], _ => rfl,
    b_Work_init_5 := FunC.bindsN (FC .Work_init rfl rfl) fun _ _ _ _ _ us hl => match us, hl with | [_, _, _, _, _], _ => rfl,
    b_Work_row_1 := FunD.bindsN (F .Work_row rfl) fun _ _ _ _ _ _ us hl => match us, hl with | [_], _ => rfl,
    b_build_body_2 := FunD.bindsN (F .build_body rfl) fun _ _ _ _ _ _ us hl => match us, hl with | [_, _], _ => rfl,
    b_build_named_2 := FunD.bindsN (F .build_named rfl) fun _ _ _ _ _ _ us hl => match us, hl with | [_, _], _ => rfl,
    b_build_step_1 := FunD.binds1 (F .build_step rfl) 1 0 (fun z => by cases z) rfl (fun _ _ _ _ _ _ _ us its hl hl2 => match us, its, hl, hl2 with | [_], [_], _, _ => ⟨_, rfl, rfl⟩),
    b_build_step_2 := FunD.binds1 (F .build_step rfl) 2 1 (fun z => by cases z) rfl (fun _ _ _ _ _ _ _ us its hl hl2 => match us, its, hl, hl2 with | [_, _], [_], _, _ => ⟨_, rfl, rfl⟩),
    b_check_name_1 := FunD.bindsN (F .check_name rfl) fun _ _ _ _ _ _ us hl => match us, hl with | [_], _ => rfl,
    b_check_number_3 := FunD.bindsN (F .check_number rfl) fun _ _ _ _ _ _ us hl => match us, hl with | [_, _, _], _ => rfl,
    b_law_cell_2 := FunD.bindsN (F .law_cell rfl) fun _ _ _ _ _ _ us hl => match us, hl with | [_, _], _ => rfl,
    b_law_deep_row_5 := FunD.bindsN (F .law_deep_row rfl) fun _ _ _ _ _ _ us hl => match us, hl with | [_, _, _, _, _], _ => rfl,
    b_law_draws_3 := FunD.bindsN (F .law_draws rfl) fun _ _ _ _ _ _ us hl => match us, hl with | [_, _, _], _ => rfl,
    b_law_due_1 := FunD.bindsN (F .law_due rfl) fun _ _ _ _ _ _ us hl => match us, hl with | [_], _ => rfl,
    b_law_fits_2 := FunD.bindsN (F .law_fits rfl) fun _ _ _ _ _ _ us hl => match us, hl with | [_, _], _ => rfl,
    b_law_kinds_1 := FunD.bindsN (F .law_kinds rfl) fun _ _ _ _ _ _ us hl => match us, hl with | [_], _ => rfl,
    b_law_lists_1 := FunD.bindsN (F .law_lists rfl) fun _ _ _ _ _ _ us hl => match us, hl with | [_], _ => rfl,
    b_law_names_1 := FunD.bindsN (F .law_names rfl) fun _ _ _ _ _ _ us hl => match us, hl with | [_], _ => rfl,
    b_law_once_1 := FunD.bindsN (F .law_once rfl) fun _ _ _ _ _ _ us hl => match us, hl with | [_], _ => rfl,
    b_law_reads_1 := FunD.bindsN (F .law_reads rfl) fun _ _ _ _ _ _ us hl => match us, hl with | [_], _ => rfl,
    b_law_row_5 := FunD.bindsN (F .law_row rfl) fun _ _ _ _ _ _ us hl => match us, hl with | [_, _, _, _, _], _ => rfl,
    b_law_rows_6 := FunD.bindsN (F .law_rows rfl) fun _ _ _ _ _ _ us hl => match us, hl with | [_, _, _, _, _, _], _ => rfl,
    b_law_same_2 := FunD.bindsN (F .law_same rfl) fun _ _ _ _ _ _ us hl => match us, hl with | [_, _], _ => rfl,
    b_law_written_1 := FunD.bindsN (F .law_written rfl) fun _ _ _ _ _ _ us hl => match us, hl with | [_], _ => rfl,
    b_rows_of_1 := FunD.bindsN (F .rows_of rfl) fun _ _ _ _ _ _ us hl => match us, hl with | [_], _ => rfl,
    c_Leave := He.cls_ok (fact_of m 15),
    me_Leave_row := He.meth_ok (fact_of m 16),
    c_Call := He.cls_ok (fact_of m 17),
    me_Call_row := He.meth_ok (fact_of m 18),
    c_Guard := He.cls_ok (fact_of m 19),
    me_Guard_row := He.meth_ok (fact_of m 20),
    c_Loop := He.cls_ok (fact_of m 21),
    me_Loop_row := He.meth_ok (fact_of m 22),
    c_Test := He.cls_ok (fact_of m 23),
    me_Test_row := He.meth_ok (fact_of m 24),
    c_Print := He.cls_ok (fact_of m 25),
    me_Print_row := He.meth_ok (fact_of m 26),
    c_Work := He.cls_ok (fact_of m 27),
    me_Work_row := He.meth_ok (fact_of m 28),
    c_Set := He.cls_ok (fact_of m 29),
    me_Set_row := He.meth_ok (fact_of m 30),
    c_Take := He.cls_ok (fact_of m 31),
    me_Take_row := He.meth_ok (fact_of m 32),
    x_InvalidProgram := excM_ok (fact_of m 41),
    mk_Leave := He.mkr_ok (fact_of m 45),
    mk_Call := He.mkr_ok (fact_of m 47),
    mk_Guard := He.mkr_ok (fact_of m 50),
    mk_Print := He.mkr_ok (fact_of m 54),
    su_Print_init := supKB_ok (fact_of m 70),
    sc_Print_Print_init := supCB_ok (f2 := (dm .Step_init).adr) (fact_of m 71),
    su_Guard_init := supKB_ok (fact_of m 73),
    sc_Guard_Guard_init := supCB_ok (f2 := (dm .Block_init).adr) (fact_of m 74),
    su_Call_init := supKB_ok (fact_of m 75),
    sc_Call_Call_init := supCB_ok (f2 := (dm .Block_init).adr) (fact_of m 76),
    su_Leave_init := supKB_ok (fact_of m 77),
    sc_Leave_Leave_init := supCB_ok (f2 := (dm .Step_init).adr) (fact_of m 78),
    mk_Take := He.mkr_ok (fact_of m 82),
    mk_Set := He.mkr_ok (fact_of m 83),
    mk_Work := He.mkr_ok (fact_of m 84),
    mk_Loop := He.mkr_ok (fact_of m 85),
    mk_Test := He.mkr_ok (fact_of m 86),
    su_Take_init := supKB_ok (fact_of m 88),
    sc_Take_Take_init := supCB_ok (f2 := (dm .Step_init).adr) (fact_of m 89),
    su_Set_init := supKB_ok (fact_of m 90),
    sc_Set_Set_init := supCB_ok (f2 := (dm .Step_init).adr) (fact_of m 91),
    su_Work_init := supKB_ok (fact_of m 92),
    sc_Work_Work_init := supCB_ok (f2 := (dm .Step_init).adr) (fact_of m 93),
    su_Test_init := supKB_ok (fact_of m 94),
    sc_Test_Test_init := supCB_ok (f2 := (dm .Step_init).adr) (fact_of m 95),
    su_Block_init := supKB_ok (fact_of m 96),
    sc_Call_Block_init := supCB_ok (f2 := (dm .Step_init).adr) (fact_of m 97),
    sc_Guard_Block_init := supCB_ok (f2 := (dm .Step_init).adr) (fact_of m 98),
    sc_Loop_Block_init := supCB_ok (f2 := (dm .Step_init).adr) (fact_of m 99),
    sc_Block_Block_init := supCB_ok (f2 := (dm .Step_init).adr) (fact_of m 100),
    su_Loop_init := supKB_ok (fact_of m 101),
    sc_Loop_Loop_init := supCB_ok (f2 := (dm .Block_init).adr) (fact_of m 102),
    wt_KINDS := (fact_of m 103),
    wt_SIZES := (fact_of m 104),
    c_Step := He.cls_ok (fact_of m 105),
    na_Step_writes := He.noat_ok (fact_of m 106),
    na_Step_reads := He.noat_ok (fact_of m 107),
    na_Step_parts := He.noat_ok (fact_of m 108),
    na_Step_leaves := He.noat_ok (fact_of m 109),
    na_Step_loops := He.noat_ok (fact_of m 110),
    is_Step := isiB_ok (He.cls_ok (fact_of m 105)) (fact_of m 111),
    c_Writer := He.cls_ok (fact_of m 112),
    na_Writer_writes := He.noat_ok (fact_of m 113),
    na_Writer_reads := He.noat_ok (fact_of m 114),
    na_Writer_parts := He.noat_ok (fact_of m 115),
    na_Writer_leaves := He.noat_ok (fact_of m 116),
    na_Writer_loops := He.noat_ok (fact_of m 117),
    is_Writer := isiB_ok (He.cls_ok (fact_of m 112)) (fact_of m 118),
    c_Reader := He.cls_ok (fact_of m 119),
    na_Reader_writes := He.noat_ok (fact_of m 120),
    na_Reader_reads := He.noat_ok (fact_of m 121),
    na_Reader_parts := He.noat_ok (fact_of m 122),
    na_Reader_leaves := He.noat_ok (fact_of m 123),
    na_Reader_loops := He.noat_ok (fact_of m 124),
    is_Reader := isiB_ok (He.cls_ok (fact_of m 119)) (fact_of m 125),
    c_Holder := He.cls_ok (fact_of m 126),
    na_Holder_writes := He.noat_ok (fact_of m 127),
    na_Holder_reads := He.noat_ok (fact_of m 128),
    na_Holder_parts := He.noat_ok (fact_of m 129),
    na_Holder_leaves := He.noat_ok (fact_of m 130),
    na_Holder_loops := He.noat_ok (fact_of m 131),
    is_Holder := isiB_ok (He.cls_ok (fact_of m 126)) (fact_of m 132),
    na_Take_writes := He.noat_ok (fact_of m 133),
    na_Take_reads := He.noat_ok (fact_of m 134),
    na_Take_parts := He.noat_ok (fact_of m 135),
    na_Take_leaves := He.noat_ok (fact_of m 136),
    na_Take_loops := He.noat_ok (fact_of m 137),
    na_Take_at := He.noat_ok (fact_of m 138),
    is_Take := isiB_ok (He.cls_ok (fact_of m 31)) (fact_of m 139),
    na_Set_writes := He.noat_ok (fact_of m 140),
    na_Set_reads := He.noat_ok (fact_of m 141),
    na_Set_parts := He.noat_ok (fact_of m 142),
    na_Set_leaves := He.noat_ok (fact_of m 143),
    na_Set_loops := He.noat_ok (fact_of m 144),
    na_Set_bit := He.noat_ok (fact_of m 145),
    is_Set := isiB_ok (He.cls_ok (fact_of m 29)) (fact_of m 146),
    na_Work_writes := He.noat_ok (fact_of m 147),
    na_Work_reads := He.noat_ok (fact_of m 148),
    na_Work_parts := He.noat_ok (fact_of m 149),
    na_Work_leaves := He.noat_ok (fact_of m 150),
    na_Work_loops := He.noat_ok (fact_of m 151),
    na_Work_table := He.noat_ok (fact_of m 152),
    is_Work := isiB_ok (He.cls_ok (fact_of m 27)) (fact_of m 153),
    na_Print_writes := He.noat_ok (fact_of m 154),
    na_Print_reads := He.noat_ok (fact_of m 155),
    na_Print_parts := He.noat_ok (fact_of m 156),
    na_Print_leaves := He.noat_ok (fact_of m 157),
    na_Print_loops := He.noat_ok (fact_of m 158),
    na_Print_channel := He.noat_ok (fact_of m 159),
    is_Print := isiB_ok (He.cls_ok (fact_of m 25)) (fact_of m 160),
    na_Test_writes := He.noat_ok (fact_of m 161),
    na_Test_reads := He.noat_ok (fact_of m 162),
    na_Test_parts := He.noat_ok (fact_of m 163),
    na_Test_leaves := He.noat_ok (fact_of m 164),
    na_Test_loops := He.noat_ok (fact_of m 165),
    is_Test := isiB_ok (He.cls_ok (fact_of m 23)) (fact_of m 166),
    c_Block := He.cls_ok (fact_of m 167),
    na_Block_writes := He.noat_ok (fact_of m 168),
    na_Block_reads := He.noat_ok (fact_of m 169),
    na_Block_parts := He.noat_ok (fact_of m 170),
    na_Block_leaves := He.noat_ok (fact_of m 171),
    na_Block_loops := He.noat_ok (fact_of m 172),
    na_Block_kind := He.noat_ok (fact_of m 173),
    na_Block_opened := He.noat_ok (fact_of m 174),
    is_Block := isiB_ok (He.cls_ok (fact_of m 167)) (fact_of m 175),
    na_Loop_writes := He.noat_ok (fact_of m 176),
    na_Loop_reads := He.noat_ok (fact_of m 177),
    na_Loop_parts := He.noat_ok (fact_of m 178),
    na_Loop_leaves := He.noat_ok (fact_of m 179),
    na_Loop_loops := He.noat_ok (fact_of m 180),
    na_Loop_kind := He.noat_ok (fact_of m 181),
    na_Loop_opened := He.noat_ok (fact_of m 182),
    na_Loop_turns := He.noat_ok (fact_of m 183),
    is_Loop := isiB_ok (He.cls_ok (fact_of m 21)) (fact_of m 184),
    na_Guard_writes := He.noat_ok (fact_of m 185),
    na_Guard_reads := He.noat_ok (fact_of m 186),
    na_Guard_parts := He.noat_ok (fact_of m 187),
    na_Guard_leaves := He.noat_ok (fact_of m 188),
    na_Guard_loops := He.noat_ok (fact_of m 189),
    na_Guard_kind := He.noat_ok (fact_of m 190),
    na_Guard_opened := He.noat_ok (fact_of m 191),
    is_Guard := isiB_ok (He.cls_ok (fact_of m 19)) (fact_of m 192),
    na_Call_writes := He.noat_ok (fact_of m 193),
    na_Call_reads := He.noat_ok (fact_of m 194),
    na_Call_parts := He.noat_ok (fact_of m 195),
    na_Call_leaves := He.noat_ok (fact_of m 196),
    na_Call_loops := He.noat_ok (fact_of m 197),
    na_Call_kind := He.noat_ok (fact_of m 198),
    na_Call_opened := He.noat_ok (fact_of m 199),
    is_Call := isiB_ok (He.cls_ok (fact_of m 17)) (fact_of m 200),
    na_Leave_writes := He.noat_ok (fact_of m 201),
    na_Leave_reads := He.noat_ok (fact_of m 202),
    na_Leave_parts := He.noat_ok (fact_of m 203),
    na_Leave_leaves := He.noat_ok (fact_of m 204),
    na_Leave_loops := He.noat_ok (fact_of m 205),
    is_Leave := isiB_ok (He.cls_ok (fact_of m 15)) (fact_of m 206),
    kit_Block_Block := of_decide_eq_true (fact_of m 207),
    kit_Block_Call := of_decide_eq_true (fact_of m 208),
    kit_Block_Guard := of_decide_eq_true (fact_of m 209),
    kit_Block_Holder := of_decide_eq_true (fact_of m 210),
    kit_Block_Leave := of_decide_eq_true (fact_of m 211),
    kit_Block_Loop := of_decide_eq_true (fact_of m 212),
    kit_Block_Print := of_decide_eq_true (fact_of m 213),
    kit_Block_Reader := of_decide_eq_true (fact_of m 214),
    kit_Block_Set := of_decide_eq_true (fact_of m 215),
    kit_Block_Step := of_decide_eq_true (fact_of m 216),
    kit_Block_Take := of_decide_eq_true (fact_of m 217),
    kit_Block_Test := of_decide_eq_true (fact_of m 218),
    kit_Block_Work := of_decide_eq_true (fact_of m 219),
    kit_Block_Writer := of_decide_eq_true (fact_of m 220),
    kit_Call_Block := of_decide_eq_true (fact_of m 221),
    kit_Call_Call := of_decide_eq_true (fact_of m 222),
    kit_Call_Guard := of_decide_eq_true (fact_of m 223),
    kit_Call_Holder := of_decide_eq_true (fact_of m 224),
    kit_Call_Leave := of_decide_eq_true (fact_of m 225),
    kit_Call_Loop := of_decide_eq_true (fact_of m 226),
    kit_Call_Print := of_decide_eq_true (fact_of m 227),
    kit_Call_Reader := of_decide_eq_true (fact_of m 228),
    kit_Call_Set := of_decide_eq_true (fact_of m 229),
    kit_Call_Step := of_decide_eq_true (fact_of m 230),
    kit_Call_Take := of_decide_eq_true (fact_of m 231),
    kit_Call_Test := of_decide_eq_true (fact_of m 232),
    kit_Call_Work := of_decide_eq_true (fact_of m 233),
    kit_Call_Writer := of_decide_eq_true (fact_of m 234),
    kit_Guard_Block := of_decide_eq_true (fact_of m 235),
    kit_Guard_Call := of_decide_eq_true (fact_of m 236),
    kit_Guard_Guard := of_decide_eq_true (fact_of m 237),
    kit_Guard_Holder := of_decide_eq_true (fact_of m 238),
    kit_Guard_Leave := of_decide_eq_true (fact_of m 239),
    kit_Guard_Loop := of_decide_eq_true (fact_of m 240),
    kit_Guard_Print := of_decide_eq_true (fact_of m 241),
    kit_Guard_Reader := of_decide_eq_true (fact_of m 242),
    kit_Guard_Set := of_decide_eq_true (fact_of m 243),
    kit_Guard_Step := of_decide_eq_true (fact_of m 244),
    kit_Guard_Take := of_decide_eq_true (fact_of m 245),
    kit_Guard_Test := of_decide_eq_true (fact_of m 246),
    kit_Guard_Work := of_decide_eq_true (fact_of m 247),
    kit_Guard_Writer := of_decide_eq_true (fact_of m 248),
    kit_Holder_Block := of_decide_eq_true (fact_of m 249),
    kit_Holder_Call := of_decide_eq_true (fact_of m 250),
    kit_Holder_Guard := of_decide_eq_true (fact_of m 251),
    kit_Holder_Holder := of_decide_eq_true (fact_of m 252),
    kit_Holder_Leave := of_decide_eq_true (fact_of m 253),
    kit_Holder_Loop := of_decide_eq_true (fact_of m 254),
    kit_Holder_Print := of_decide_eq_true (fact_of m 255),
    kit_Holder_Reader := of_decide_eq_true (fact_of m 256),
    kit_Holder_Set := of_decide_eq_true (fact_of m 257),
    kit_Holder_Step := of_decide_eq_true (fact_of m 258),
    kit_Holder_Take := of_decide_eq_true (fact_of m 259),
    kit_Holder_Test := of_decide_eq_true (fact_of m 260),
    kit_Holder_Work := of_decide_eq_true (fact_of m 261),
    kit_Holder_Writer := of_decide_eq_true (fact_of m 262),
    kit_Leave_Block := of_decide_eq_true (fact_of m 263),
    kit_Leave_Call := of_decide_eq_true (fact_of m 264),
    kit_Leave_Guard := of_decide_eq_true (fact_of m 265),
    kit_Leave_Holder := of_decide_eq_true (fact_of m 266),
    kit_Leave_Leave := of_decide_eq_true (fact_of m 267),
    kit_Leave_Loop := of_decide_eq_true (fact_of m 268),
    kit_Leave_Print := of_decide_eq_true (fact_of m 269),
    kit_Leave_Reader := of_decide_eq_true (fact_of m 270),
    kit_Leave_Set := of_decide_eq_true (fact_of m 271),
    kit_Leave_Step := of_decide_eq_true (fact_of m 272),
    kit_Leave_Take := of_decide_eq_true (fact_of m 273),
    kit_Leave_Test := of_decide_eq_true (fact_of m 274),
    kit_Leave_Work := of_decide_eq_true (fact_of m 275),
    kit_Leave_Writer := of_decide_eq_true (fact_of m 276),
    kit_Loop_Block := of_decide_eq_true (fact_of m 277),
    kit_Loop_Call := of_decide_eq_true (fact_of m 278),
    kit_Loop_Guard := of_decide_eq_true (fact_of m 279),
    kit_Loop_Holder := of_decide_eq_true (fact_of m 280),
    kit_Loop_Leave := of_decide_eq_true (fact_of m 281),
    kit_Loop_Loop := of_decide_eq_true (fact_of m 282),
    kit_Loop_Print := of_decide_eq_true (fact_of m 283),
    kit_Loop_Reader := of_decide_eq_true (fact_of m 284),
    kit_Loop_Set := of_decide_eq_true (fact_of m 285),
    kit_Loop_Step := of_decide_eq_true (fact_of m 286),
    kit_Loop_Take := of_decide_eq_true (fact_of m 287),
    kit_Loop_Test := of_decide_eq_true (fact_of m 288),
    kit_Loop_Work := of_decide_eq_true (fact_of m 289),
    kit_Loop_Writer := of_decide_eq_true (fact_of m 290),
    kit_NoneType_Block := of_decide_eq_true (fact_of m 291),
    kit_NoneType_Call := of_decide_eq_true (fact_of m 292),
    kit_NoneType_Guard := of_decide_eq_true (fact_of m 293),
    kit_NoneType_Holder := of_decide_eq_true (fact_of m 294),
    kit_NoneType_Leave := of_decide_eq_true (fact_of m 295),
    kit_NoneType_Loop := of_decide_eq_true (fact_of m 296),
    kit_NoneType_Print := of_decide_eq_true (fact_of m 297),
    kit_NoneType_Reader := of_decide_eq_true (fact_of m 298),
    kit_NoneType_Set := of_decide_eq_true (fact_of m 299),
    kit_NoneType_Step := of_decide_eq_true (fact_of m 300),
    kit_NoneType_Take := of_decide_eq_true (fact_of m 301),
    kit_NoneType_Test := of_decide_eq_true (fact_of m 302),
    kit_NoneType_Work := of_decide_eq_true (fact_of m 303),
    kit_NoneType_Writer := of_decide_eq_true (fact_of m 304),
    kit_Print_Block := of_decide_eq_true (fact_of m 305),
    kit_Print_Call := of_decide_eq_true (fact_of m 306),
    kit_Print_Guard := of_decide_eq_true (fact_of m 307),
    kit_Print_Holder := of_decide_eq_true (fact_of m 308),
    kit_Print_Leave := of_decide_eq_true (fact_of m 309),
    kit_Print_Loop := of_decide_eq_true (fact_of m 310),
    kit_Print_Print := of_decide_eq_true (fact_of m 311),
    kit_Print_Reader := of_decide_eq_true (fact_of m 312),
    kit_Print_Set := of_decide_eq_true (fact_of m 313),
    kit_Print_Step := of_decide_eq_true (fact_of m 314),
    kit_Print_Take := of_decide_eq_true (fact_of m 315),
    kit_Print_Test := of_decide_eq_true (fact_of m 316),
    kit_Print_Work := of_decide_eq_true (fact_of m 317),
    kit_Print_Writer := of_decide_eq_true (fact_of m 318),
    kit_Reader_Block := of_decide_eq_true (fact_of m 319),
    kit_Reader_Call := of_decide_eq_true (fact_of m 320),
    kit_Reader_Guard := of_decide_eq_true (fact_of m 321),
    kit_Reader_Holder := of_decide_eq_true (fact_of m 322),
    kit_Reader_Leave := of_decide_eq_true (fact_of m 323),
    kit_Reader_Loop := of_decide_eq_true (fact_of m 324),
    kit_Reader_Print := of_decide_eq_true (fact_of m 325),
    kit_Reader_Reader := of_decide_eq_true (fact_of m 326),
    kit_Reader_Set := of_decide_eq_true (fact_of m 327),
    kit_Reader_Step := of_decide_eq_true (fact_of m 328),
    kit_Reader_Take := of_decide_eq_true (fact_of m 329),
    kit_Reader_Test := of_decide_eq_true (fact_of m 330),
    kit_Reader_Work := of_decide_eq_true (fact_of m 331),
    kit_Reader_Writer := of_decide_eq_true (fact_of m 332),
    kit_Set_Block := of_decide_eq_true (fact_of m 333),
    kit_Set_Call := of_decide_eq_true (fact_of m 334),
    kit_Set_Guard := of_decide_eq_true (fact_of m 335),
    kit_Set_Holder := of_decide_eq_true (fact_of m 336),
    kit_Set_Leave := of_decide_eq_true (fact_of m 337),
    kit_Set_Loop := of_decide_eq_true (fact_of m 338),
    kit_Set_Print := of_decide_eq_true (fact_of m 339),
    kit_Set_Reader := of_decide_eq_true (fact_of m 340),
    kit_Set_Set := of_decide_eq_true (fact_of m 341),
    kit_Set_Step := of_decide_eq_true (fact_of m 342),
    kit_Set_Take := of_decide_eq_true (fact_of m 343),
    kit_Set_Test := of_decide_eq_true (fact_of m 344),
    kit_Set_Work := of_decide_eq_true (fact_of m 345),
    kit_Set_Writer := of_decide_eq_true (fact_of m 346),
    kit_Step_Block := of_decide_eq_true (fact_of m 347),
    kit_Step_Call := of_decide_eq_true (fact_of m 348),
    kit_Step_Guard := of_decide_eq_true (fact_of m 349),
    kit_Step_Holder := of_decide_eq_true (fact_of m 350),
    kit_Step_Leave := of_decide_eq_true (fact_of m 351),
    kit_Step_Loop := of_decide_eq_true (fact_of m 352),
    kit_Step_Print := of_decide_eq_true (fact_of m 353),
    kit_Step_Reader := of_decide_eq_true (fact_of m 354),
    kit_Step_Set := of_decide_eq_true (fact_of m 355),
    kit_Step_Step := of_decide_eq_true (fact_of m 356),
    kit_Step_Take := of_decide_eq_true (fact_of m 357),
    kit_Step_Test := of_decide_eq_true (fact_of m 358),
    kit_Step_Work := of_decide_eq_true (fact_of m 359),
    kit_Step_Writer := of_decide_eq_true (fact_of m 360),
    kit_Take_Block := of_decide_eq_true (fact_of m 361),
    kit_Take_Call := of_decide_eq_true (fact_of m 362),
    kit_Take_Guard := of_decide_eq_true (fact_of m 363),
    kit_Take_Holder := of_decide_eq_true (fact_of m 364),
    kit_Take_Leave := of_decide_eq_true (fact_of m 365),
    kit_Take_Loop := of_decide_eq_true (fact_of m 366),
    kit_Take_Print := of_decide_eq_true (fact_of m 367),
    kit_Take_Reader := of_decide_eq_true (fact_of m 368),
    kit_Take_Set := of_decide_eq_true (fact_of m 369),
    kit_Take_Step := of_decide_eq_true (fact_of m 370),
    kit_Take_Take := of_decide_eq_true (fact_of m 371),
    kit_Take_Test := of_decide_eq_true (fact_of m 372),
    kit_Take_Work := of_decide_eq_true (fact_of m 373),
    kit_Take_Writer := of_decide_eq_true (fact_of m 374),
    kit_Test_Block := of_decide_eq_true (fact_of m 375),
    kit_Test_Call := of_decide_eq_true (fact_of m 376),
    kit_Test_Guard := of_decide_eq_true (fact_of m 377),
    kit_Test_Holder := of_decide_eq_true (fact_of m 378),
    kit_Test_Leave := of_decide_eq_true (fact_of m 379),
    kit_Test_Loop := of_decide_eq_true (fact_of m 380),
    kit_Test_Print := of_decide_eq_true (fact_of m 381),
    kit_Test_Reader := of_decide_eq_true (fact_of m 382),
    kit_Test_Set := of_decide_eq_true (fact_of m 383),
    kit_Test_Step := of_decide_eq_true (fact_of m 384),
    kit_Test_Take := of_decide_eq_true (fact_of m 385),
    kit_Test_Test := of_decide_eq_true (fact_of m 386),
    kit_Test_Work := of_decide_eq_true (fact_of m 387),
    kit_Test_Writer := of_decide_eq_true (fact_of m 388),
    kit_Work_Block := of_decide_eq_true (fact_of m 389),
    kit_Work_Call := of_decide_eq_true (fact_of m 390),
    kit_Work_Guard := of_decide_eq_true (fact_of m 391),
    kit_Work_Holder := of_decide_eq_true (fact_of m 392),
    kit_Work_Leave := of_decide_eq_true (fact_of m 393),
    kit_Work_Loop := of_decide_eq_true (fact_of m 394),
    kit_Work_Print := of_decide_eq_true (fact_of m 395),
    kit_Work_Reader := of_decide_eq_true (fact_of m 396),
    kit_Work_Set := of_decide_eq_true (fact_of m 397),
    kit_Work_Step := of_decide_eq_true (fact_of m 398),
    kit_Work_Take := of_decide_eq_true (fact_of m 399),
    kit_Work_Test := of_decide_eq_true (fact_of m 400),
    kit_Work_Work := of_decide_eq_true (fact_of m 401),
    kit_Work_Writer := of_decide_eq_true (fact_of m 402),
    kit_Writer_Block := of_decide_eq_true (fact_of m 403),
    kit_Writer_Call := of_decide_eq_true (fact_of m 404),
    kit_Writer_Guard := of_decide_eq_true (fact_of m 405),
    kit_Writer_Holder := of_decide_eq_true (fact_of m 406),
    kit_Writer_Leave := of_decide_eq_true (fact_of m 407),
    kit_Writer_Loop := of_decide_eq_true (fact_of m 408),
    kit_Writer_Print := of_decide_eq_true (fact_of m 409),
    kit_Writer_Reader := of_decide_eq_true (fact_of m 410),
    kit_Writer_Set := of_decide_eq_true (fact_of m 411),
    kit_Writer_Step := of_decide_eq_true (fact_of m 412),
    kit_Writer_Take := of_decide_eq_true (fact_of m 413),
    kit_Writer_Test := of_decide_eq_true (fact_of m 414),
    kit_Writer_Work := of_decide_eq_true (fact_of m 415),
    kit_Writer_Writer := of_decide_eq_true (fact_of m 416),
    kit_int_Block := of_decide_eq_true (fact_of m 417),
    kit_int_Call := of_decide_eq_true (fact_of m 418),
    kit_int_Guard := of_decide_eq_true (fact_of m 419),
    kit_int_Holder := of_decide_eq_true (fact_of m 420),
    kit_int_Leave := of_decide_eq_true (fact_of m 421),
    kit_int_Loop := of_decide_eq_true (fact_of m 422),
    kit_int_Print := of_decide_eq_true (fact_of m 423),
    kit_int_Reader := of_decide_eq_true (fact_of m 424),
    kit_int_Set := of_decide_eq_true (fact_of m 425),
    kit_int_Step := of_decide_eq_true (fact_of m 426),
    kit_int_Take := of_decide_eq_true (fact_of m 427),
    kit_int_Test := of_decide_eq_true (fact_of m 428),
    kit_int_Work := of_decide_eq_true (fact_of m 429),
    kit_int_Writer := of_decide_eq_true (fact_of m 430)
  }
theorem txt_of {w : World} {K : PySem.W.Frag} {h : Heap} {mg : Str → Option Value} (X : K.In h) (Gn : h.Ns mainGlobals mg) (c : SaysM fnl exb tbs w K) : Txt K w mg := by
  have m := c.more
  exact {
    k := txtK_of c,
    g_law := He.glo_ok X Gn (fact_of m 0),
    g_law_names := He.glo_ok X Gn (fact_of m 1),
    g_law_draws := He.glo_ok X Gn (fact_of m 2),
    g_law_cell := He.glo_ok X Gn (fact_of m 3),
    g_law_rows := He.glo_ok X Gn (fact_of m 4),
    g_law_lists := He.glo_ok X Gn (fact_of m 5),
    z_len := He.free_ok X Gn (fact_of m 6),
    z_range := He.free_ok X Gn (fact_of m 7),
    g_law_fits := He.glo_ok X Gn (fact_of m 8),
    z_abs := He.free_ok X Gn (fact_of m 9),
    g_law_row := He.glo_ok X Gn (fact_of m 10),
    z_tuple := He.free_ok X Gn (fact_of m 11),
    z_isinstance := He.free_ok X Gn (fact_of m 12),
    g_build_step := He.glo_ok X Gn (fact_of m 13),
    g_law_same := He.glo_ok X Gn (fact_of m 14),
    g_law_kinds := He.glo_ok X Gn (fact_of m 33),
    g_law_due := He.glo_ok X Gn (fact_of m 34),
    z_list := He.free_ok X Gn (fact_of m 35),
    g_law_once := He.glo_ok X Gn (fact_of m 36),
    g_law_written := He.glo_ok X Gn (fact_of m 37),
    g_law_reads := He.glo_ok X Gn (fact_of m 38),
    g_rows_of := He.glo_ok X Gn (fact_of m 39),
    g_KINDS := He.glo_ok X Gn (fact_of m 40),
    g_InvalidProgram := He.glo_ok X Gn (fact_of m 42),
    g_SIZES := He.glo_ok X Gn (fact_of m 43),
    g_Leave := He.glo_ok X Gn (fact_of m 44),
    g_Call := He.glo_ok X Gn (fact_of m 46),
    g_build_body := He.glo_ok X Gn (fact_of m 48),
    g_Guard := He.glo_ok X Gn (fact_of m 49),
    g_check_number := He.glo_ok X Gn (fact_of m 51),
    g_check_name := He.glo_ok X Gn (fact_of m 52),
    g_Print := He.glo_ok X Gn (fact_of m 53),
    g_build_named := He.glo_ok X Gn (fact_of m 55),
    g_law_deep_row := He.glo_ok X Gn (fact_of m 56),
    z_bool := He.free_ok X Gn (fact_of m 57),
    z_str := He.free_ok X Gn (fact_of m 58),
    z_int := He.free_ok X Gn (fact_of m 59),
    g_Work := He.glo_ok X Gn (fact_of m 60),
    g_Set := He.glo_ok X Gn (fact_of m 61),
    g_Take := He.glo_ok X Gn (fact_of m 62),
    g_Loop := He.glo_ok X Gn (fact_of m 63),
    g_Test := He.glo_ok X Gn (fact_of m 64),
    g_Step := He.glo_ok X Gn (fact_of m 65),
    g_Holder := He.glo_ok X Gn (fact_of m 66),
    g_Reader := He.glo_ok X Gn (fact_of m 67),
    g_Writer := He.glo_ok X Gn (fact_of m 68),
    g_Block := He.glo_ok X Gn (fact_of m 69),
    z_super := He.free_ok X Gn (fact_of m 72),
    s_FIRST_SIGNS := He.str_ok X Gn (fact_of m 79),
    s_SIGNS := He.str_ok X Gn (fact_of m 80),
    n_DEEPEST := He.int_ok X Gn (fact_of m 81),
    z_max := He.free_ok X Gn (fact_of m 87)
  }
/-! ### instances: attributes, isinstance -/
section
variable {K : PySem.W.Frag} [TxtK K]
instance : WtS K (He.ga K ("KINDS" : Str)) [("take" : Str), ("set" : Str), ("work" : Str), ("print" : Str), ("test" : Str), ("loop" : Str), ("guard" : Str), ("call" : Str), ("leave" : Str)] := ⟨TxtK.wt_KINDS⟩
instance : WtI K (He.ga K ("SIZES" : Str)) [3, 3, 5, 3, 4, 4, 3, 2, 1] := ⟨TxtK.wt_SIZES⟩
instance : IxC [("take" : Str), ("set" : Str), ("work" : Str), ("print" : Str), ("test" : Str), ("loop" : Str), ("guard" : Str), ("call" : Str), ("leave" : Str)] ("take" : Str) 0 := ixC rfl (by decide +kernel)
instance : IxC [("take" : Str), ("set" : Str), ("work" : Str), ("print" : Str), ("test" : Str), ("loop" : Str), ("guard" : Str), ("call" : Str), ("leave" : Str)] ("set" : Str) 1 := ixC rfl (by decide +kernel)
instance : IxC [("take" : Str), ("set" : Str), ("work" : Str), ("print" : Str), ("test" : Str), ("loop" : Str), ("guard" : Str), ("call" : Str), ("leave" : Str)] ("work" : Str) 2 := ixC rfl (by decide +kernel)
instance : IxC [("take" : Str), ("set" : Str), ("work" : Str), ("print" : Str), ("test" : Str), ("loop" : Str), ("guard" : Str), ("call" : Str), ("leave" : Str)] ("print" : Str) 3 := ixC rfl (by decide +kernel)
instance : IxC [("take" : Str), ("set" : Str), ("work" : Str), ("print" : Str), ("test" : Str), ("loop" : Str), ("guard" : Str), ("call" : Str), ("leave" : Str)] ("test" : Str) 4 := ixC rfl (by decide +kernel)
instance : IxC [("take" : Str), ("set" : Str), ("work" : Str), ("print" : Str), ("test" : Str), ("loop" : Str), ("guard" : Str), ("call" : Str), ("leave" : Str)] ("loop" : Str) 5 := ixC rfl (by decide +kernel)
instance : IxC [("take" : Str), ("set" : Str), ("work" : Str), ("print" : Str), ("test" : Str), ("loop" : Str), ("guard" : Str), ("call" : Str), ("leave" : Str)] ("guard" : Str) 6 := ixC rfl (by decide +kernel)
instance : IxC [("take" : Str), ("set" : Str), ("work" : Str), ("print" : Str), ("test" : Str), ("loop" : Str), ("guard" : Str), ("call" : Str), ("leave" : Str)] ("call" : Str) 7 := ixC rfl (by decide +kernel)
instance : IxC [("take" : Str), ("set" : Str), ("work" : Str), ("print" : Str), ("test" : Str), ("loop" : Str), ("guard" : Str), ("call" : Str), ("leave" : Str)] ("leave" : Str) 8 := ixC rfl (by decide +kernel)
instance : HasF K (He.ga K ("Step" : Str)) ("writes" : Str) := ⟨TxtK.c_Step, TxtK.na_Step_writes⟩
instance : HasF K (He.ga K ("Step" : Str)) ("reads" : Str) := ⟨TxtK.c_Step, TxtK.na_Step_reads⟩
instance : HasF K (He.ga K ("Step" : Str)) ("parts" : Str) := ⟨TxtK.c_Step, TxtK.na_Step_parts⟩
instance : HasF K (He.ga K ("Step" : Str)) ("leaves" : Str) := ⟨TxtK.c_Step, TxtK.na_Step_leaves⟩
instance : HasF K (He.ga K ("Step" : Str)) ("loops" : Str) := ⟨TxtK.c_Step, TxtK.na_Step_loops⟩
instance : IsiC K (He.ga K ("Step" : Str)) := TxtK.is_Step
instance : HasF K (He.ga K ("Writer" : Str)) ("writes" : Str) := ⟨TxtK.c_Writer, TxtK.na_Writer_writes⟩
instance : HasF K (He.ga K ("Writer" : Str)) ("reads" : Str) := ⟨TxtK.c_Writer, TxtK.na_Writer_reads⟩
instance : HasF K (He.ga K ("Writer" : Str)) ("parts" : Str) := ⟨TxtK.c_Writer, TxtK.na_Writer_parts⟩
instance : HasF K (He.ga K ("Writer" : Str)) ("leaves" : Str) := ⟨TxtK.c_Writer, TxtK.na_Writer_leaves⟩
instance : HasF K (He.ga K ("Writer" : Str)) ("loops" : Str) := ⟨TxtK.c_Writer, TxtK.na_Writer_loops⟩
instance : IsiC K (He.ga K ("Writer" : Str)) := TxtK.is_Writer
instance : HasF K (He.ga K ("Reader" : Str)) ("writes" : Str) := ⟨TxtK.c_Reader, TxtK.na_Reader_writes⟩
instance : HasF K (He.ga K ("Reader" : Str)) ("reads" : Str) := ⟨TxtK.c_Reader, TxtK.na_Reader_reads⟩
instance : HasF K (He.ga K ("Reader" : Str)) ("parts" : Str) := ⟨TxtK.c_Reader, TxtK.na_Reader_parts⟩
instance : HasF K (He.ga K ("Reader" : Str)) ("leaves" : Str) := ⟨TxtK.c_Reader, TxtK.na_Reader_leaves⟩
instance : HasF K (He.ga K ("Reader" : Str)) ("loops" : Str) := ⟨TxtK.c_Reader, TxtK.na_Reader_loops⟩
instance : IsiC K (He.ga K ("Reader" : Str)) := TxtK.is_Reader
instance : HasF K (He.ga K ("Holder" : Str)) ("writes" : Str) := ⟨TxtK.c_Holder, TxtK.na_Holder_writes⟩
instance : HasF K (He.ga K ("Holder" : Str)) ("reads" : Str) := ⟨TxtK.c_Holder, TxtK.na_Holder_reads⟩
instance : HasF K (He.ga K ("Holder" : Str)) ("parts" : Str) := ⟨TxtK.c_Holder, TxtK.na_Holder_parts⟩
instance : HasF K (He.ga K ("Holder" : Str)) ("leaves" : Str) := ⟨TxtK.c_Holder, TxtK.na_Holder_leaves⟩
instance : HasF K (He.ga K ("Holder" : Str)) ("loops" : Str) := ⟨TxtK.c_Holder, TxtK.na_Holder_loops⟩
instance : IsiC K (He.ga K ("Holder" : Str)) := TxtK.is_Holder
instance : HasF K (He.ga K ("Take" : Str)) ("writes" : Str) := ⟨TxtK.c_Take, TxtK.na_Take_writes⟩
instance : HasF K (He.ga K ("Take" : Str)) ("reads" : Str) := ⟨TxtK.c_Take, TxtK.na_Take_reads⟩
instance : HasF K (He.ga K ("Take" : Str)) ("parts" : Str) := ⟨TxtK.c_Take, TxtK.na_Take_parts⟩
instance : HasF K (He.ga K ("Take" : Str)) ("leaves" : Str) := ⟨TxtK.c_Take, TxtK.na_Take_leaves⟩
instance : HasF K (He.ga K ("Take" : Str)) ("loops" : Str) := ⟨TxtK.c_Take, TxtK.na_Take_loops⟩
instance : HasF K (He.ga K ("Take" : Str)) ("at" : Str) := ⟨TxtK.c_Take, TxtK.na_Take_at⟩
instance : IsiC K (He.ga K ("Take" : Str)) := TxtK.is_Take
instance : HasF K (He.ga K ("Set" : Str)) ("writes" : Str) := ⟨TxtK.c_Set, TxtK.na_Set_writes⟩
instance : HasF K (He.ga K ("Set" : Str)) ("reads" : Str) := ⟨TxtK.c_Set, TxtK.na_Set_reads⟩
instance : HasF K (He.ga K ("Set" : Str)) ("parts" : Str) := ⟨TxtK.c_Set, TxtK.na_Set_parts⟩
instance : HasF K (He.ga K ("Set" : Str)) ("leaves" : Str) := ⟨TxtK.c_Set, TxtK.na_Set_leaves⟩
instance : HasF K (He.ga K ("Set" : Str)) ("loops" : Str) := ⟨TxtK.c_Set, TxtK.na_Set_loops⟩
instance : HasF K (He.ga K ("Set" : Str)) ("bit" : Str) := ⟨TxtK.c_Set, TxtK.na_Set_bit⟩
instance : IsiC K (He.ga K ("Set" : Str)) := TxtK.is_Set
instance : HasF K (He.ga K ("Work" : Str)) ("writes" : Str) := ⟨TxtK.c_Work, TxtK.na_Work_writes⟩
instance : HasF K (He.ga K ("Work" : Str)) ("reads" : Str) := ⟨TxtK.c_Work, TxtK.na_Work_reads⟩
instance : HasF K (He.ga K ("Work" : Str)) ("parts" : Str) := ⟨TxtK.c_Work, TxtK.na_Work_parts⟩
instance : HasF K (He.ga K ("Work" : Str)) ("leaves" : Str) := ⟨TxtK.c_Work, TxtK.na_Work_leaves⟩
instance : HasF K (He.ga K ("Work" : Str)) ("loops" : Str) := ⟨TxtK.c_Work, TxtK.na_Work_loops⟩
instance : HasF K (He.ga K ("Work" : Str)) ("table" : Str) := ⟨TxtK.c_Work, TxtK.na_Work_table⟩
instance : IsiC K (He.ga K ("Work" : Str)) := TxtK.is_Work
instance : HasF K (He.ga K ("Print" : Str)) ("writes" : Str) := ⟨TxtK.c_Print, TxtK.na_Print_writes⟩
instance : HasF K (He.ga K ("Print" : Str)) ("reads" : Str) := ⟨TxtK.c_Print, TxtK.na_Print_reads⟩
instance : HasF K (He.ga K ("Print" : Str)) ("parts" : Str) := ⟨TxtK.c_Print, TxtK.na_Print_parts⟩
instance : HasF K (He.ga K ("Print" : Str)) ("leaves" : Str) := ⟨TxtK.c_Print, TxtK.na_Print_leaves⟩
instance : HasF K (He.ga K ("Print" : Str)) ("loops" : Str) := ⟨TxtK.c_Print, TxtK.na_Print_loops⟩
instance : HasF K (He.ga K ("Print" : Str)) ("channel" : Str) := ⟨TxtK.c_Print, TxtK.na_Print_channel⟩
instance : IsiC K (He.ga K ("Print" : Str)) := TxtK.is_Print
instance : HasF K (He.ga K ("Test" : Str)) ("writes" : Str) := ⟨TxtK.c_Test, TxtK.na_Test_writes⟩
instance : HasF K (He.ga K ("Test" : Str)) ("reads" : Str) := ⟨TxtK.c_Test, TxtK.na_Test_reads⟩
instance : HasF K (He.ga K ("Test" : Str)) ("parts" : Str) := ⟨TxtK.c_Test, TxtK.na_Test_parts⟩
instance : HasF K (He.ga K ("Test" : Str)) ("leaves" : Str) := ⟨TxtK.c_Test, TxtK.na_Test_leaves⟩
instance : HasF K (He.ga K ("Test" : Str)) ("loops" : Str) := ⟨TxtK.c_Test, TxtK.na_Test_loops⟩
instance : IsiC K (He.ga K ("Test" : Str)) := TxtK.is_Test
instance : HasF K (He.ga K ("Block" : Str)) ("writes" : Str) := ⟨TxtK.c_Block, TxtK.na_Block_writes⟩
instance : HasF K (He.ga K ("Block" : Str)) ("reads" : Str) := ⟨TxtK.c_Block, TxtK.na_Block_reads⟩
instance : HasF K (He.ga K ("Block" : Str)) ("parts" : Str) := ⟨TxtK.c_Block, TxtK.na_Block_parts⟩
instance : HasF K (He.ga K ("Block" : Str)) ("leaves" : Str) := ⟨TxtK.c_Block, TxtK.na_Block_leaves⟩
instance : HasF K (He.ga K ("Block" : Str)) ("loops" : Str) := ⟨TxtK.c_Block, TxtK.na_Block_loops⟩
instance : HasF K (He.ga K ("Block" : Str)) ("kind" : Str) := ⟨TxtK.c_Block, TxtK.na_Block_kind⟩
instance : HasF K (He.ga K ("Block" : Str)) ("opened" : Str) := ⟨TxtK.c_Block, TxtK.na_Block_opened⟩
instance : IsiC K (He.ga K ("Block" : Str)) := TxtK.is_Block
instance : HasF K (He.ga K ("Loop" : Str)) ("writes" : Str) := ⟨TxtK.c_Loop, TxtK.na_Loop_writes⟩
instance : HasF K (He.ga K ("Loop" : Str)) ("reads" : Str) := ⟨TxtK.c_Loop, TxtK.na_Loop_reads⟩
instance : HasF K (He.ga K ("Loop" : Str)) ("parts" : Str) := ⟨TxtK.c_Loop, TxtK.na_Loop_parts⟩
instance : HasF K (He.ga K ("Loop" : Str)) ("leaves" : Str) := ⟨TxtK.c_Loop, TxtK.na_Loop_leaves⟩
instance : HasF K (He.ga K ("Loop" : Str)) ("loops" : Str) := ⟨TxtK.c_Loop, TxtK.na_Loop_loops⟩
instance : HasF K (He.ga K ("Loop" : Str)) ("kind" : Str) := ⟨TxtK.c_Loop, TxtK.na_Loop_kind⟩
instance : HasF K (He.ga K ("Loop" : Str)) ("opened" : Str) := ⟨TxtK.c_Loop, TxtK.na_Loop_opened⟩
instance : HasF K (He.ga K ("Loop" : Str)) ("turns" : Str) := ⟨TxtK.c_Loop, TxtK.na_Loop_turns⟩
instance : IsiC K (He.ga K ("Loop" : Str)) := TxtK.is_Loop
instance : HasF K (He.ga K ("Guard" : Str)) ("writes" : Str) := ⟨TxtK.c_Guard, TxtK.na_Guard_writes⟩
instance : HasF K (He.ga K ("Guard" : Str)) ("reads" : Str) := ⟨TxtK.c_Guard, TxtK.na_Guard_reads⟩
instance : HasF K (He.ga K ("Guard" : Str)) ("parts" : Str) := ⟨TxtK.c_Guard, TxtK.na_Guard_parts⟩
instance : HasF K (He.ga K ("Guard" : Str)) ("leaves" : Str) := ⟨TxtK.c_Guard, TxtK.na_Guard_leaves⟩
instance : HasF K (He.ga K ("Guard" : Str)) ("loops" : Str) := ⟨TxtK.c_Guard, TxtK.na_Guard_loops⟩
instance : HasF K (He.ga K ("Guard" : Str)) ("kind" : Str) := ⟨TxtK.c_Guard, TxtK.na_Guard_kind⟩
instance : HasF K (He.ga K ("Guard" : Str)) ("opened" : Str) := ⟨TxtK.c_Guard, TxtK.na_Guard_opened⟩
instance : IsiC K (He.ga K ("Guard" : Str)) := TxtK.is_Guard
instance : HasF K (He.ga K ("Call" : Str)) ("writes" : Str) := ⟨TxtK.c_Call, TxtK.na_Call_writes⟩
instance : HasF K (He.ga K ("Call" : Str)) ("reads" : Str) := ⟨TxtK.c_Call, TxtK.na_Call_reads⟩
instance : HasF K (He.ga K ("Call" : Str)) ("parts" : Str) := ⟨TxtK.c_Call, TxtK.na_Call_parts⟩
instance : HasF K (He.ga K ("Call" : Str)) ("leaves" : Str) := ⟨TxtK.c_Call, TxtK.na_Call_leaves⟩
instance : HasF K (He.ga K ("Call" : Str)) ("loops" : Str) := ⟨TxtK.c_Call, TxtK.na_Call_loops⟩
instance : HasF K (He.ga K ("Call" : Str)) ("kind" : Str) := ⟨TxtK.c_Call, TxtK.na_Call_kind⟩
instance : HasF K (He.ga K ("Call" : Str)) ("opened" : Str) := ⟨TxtK.c_Call, TxtK.na_Call_opened⟩
instance : IsiC K (He.ga K ("Call" : Str)) := TxtK.is_Call
instance : HasF K (He.ga K ("Leave" : Str)) ("writes" : Str) := ⟨TxtK.c_Leave, TxtK.na_Leave_writes⟩
instance : HasF K (He.ga K ("Leave" : Str)) ("reads" : Str) := ⟨TxtK.c_Leave, TxtK.na_Leave_reads⟩
instance : HasF K (He.ga K ("Leave" : Str)) ("parts" : Str) := ⟨TxtK.c_Leave, TxtK.na_Leave_parts⟩
instance : HasF K (He.ga K ("Leave" : Str)) ("leaves" : Str) := ⟨TxtK.c_Leave, TxtK.na_Leave_leaves⟩
instance : HasF K (He.ga K ("Leave" : Str)) ("loops" : Str) := ⟨TxtK.c_Leave, TxtK.na_Leave_loops⟩
instance : IsiC K (He.ga K ("Leave" : Str)) := TxtK.is_Leave
instance : LkN [] ("row" : Str) := ⟨lkN0⟩
def fs_Step_1 (v0 : V) : List (Str × V) := [(("writes" : Str), v0)]
instance {v0 : V} : Lk (fs_Step_1 v0) ("writes" : Str) v0 := ⟨lk0⟩
instance {v0 : V} : LkN (fs_Step_1 v0) ("row" : Str) := ⟨(lkNS (by decide +kernel) lkN0)⟩
instance {u : V} {v0 : V} : Pf ("writes" : Str) u (fs_Step_1 v0) (fs_Step_1 u) := ⟨pfE, by show 1 < 1000; decide⟩
instance {u : V}  : Pf ("writes" : Str) u [] (fs_Step_1 u) := ⟨pf0, by show 0 < 1000; decide⟩
def fs_Step_2 (v0 v1 : V) : List (Str × V) := [(("writes" : Str), v0), (("reads" : Str), v1)]
instance {v0 v1 : V} : Lk (fs_Step_2 v0 v1) ("writes" : Str) v0 := ⟨lk0⟩
instance {v0 v1 : V} : Lk (fs_Step_2 v0 v1) ("reads" : Str) v1 := ⟨(lkS (by decide +kernel) lk0)⟩
instance {v0 v1 : V} : LkN (fs_Step_2 v0 v1) ("row" : Str) := ⟨(lkNS (by decide +kernel) (lkNS (by decide +kernel) lkN0))⟩
instance {u : V} {v0 v1 : V} : Pf ("writes" : Str) u (fs_Step_2 v0 v1) (fs_Step_2 u v1) := ⟨pfE, by show 2 < 1000; decide⟩
instance {u : V} {v0 v1 : V} : Pf ("reads" : Str) u (fs_Step_2 v0 v1) (fs_Step_2 v0 u) := ⟨(pfS (by decide +kernel) pfE), by show 2 < 1000; decide⟩
instance {u : V} {v0 : V} : Pf ("reads" : Str) u (fs_Step_1 v0) (fs_Step_2 v0 u) := ⟨(pfS (by decide +kernel) pf0), by show 1 < 1000; decide⟩
def fs_Step_3 (v0 v1 v2 : V) : List (Str × V) := [(("writes" : Str), v0), (("reads" : Str), v1), (("parts" : Str), v2)]
instance {v0 v1 v2 : V} : Lk (fs_Step_3 v0 v1 v2) ("writes" : Str) v0 := ⟨lk0⟩
instance {v0 v1 v2 : V} : Lk (fs_Step_3 v0 v1 v2) ("reads" : Str) v1 := ⟨(lkS (by decide +kernel) lk0)⟩
instance {v0 v1 v2 : V} : Lk (fs_Step_3 v0 v1 v2) ("parts" : Str) v2 := ⟨(lkS (by decide +kernel) (lkS (by decide +kernel) lk0))⟩
instance {v0 v1 v2 : V} : LkN (fs_Step_3 v0 v1 v2) ("row" : Str) := ⟨(lkNS (by decide +kernel) (lkNS (by decide +kernel) (lkNS (by decide +kernel) lkN0)))⟩
instance {u : V} {v0 v1 v2 : V} : Pf ("writes" : Str) u (fs_Step_3 v0 v1 v2) (fs_Step_3 u v1 v2) := ⟨pfE, by show 3 < 1000; decide⟩
instance {u : V} {v0 v1 v2 : V} : Pf ("reads" : Str) u (fs_Step_3 v0 v1 v2) (fs_Step_3 v0 u v2) := ⟨(pfS (by decide +kernel) pfE), by show 3 < 1000; decide⟩
instance {u : V} {v0 v1 v2 : V} : Pf ("parts" : Str) u (fs_Step_3 v0 v1 v2) (fs_Step_3 v0 v1 u) := ⟨(pfS (by decide +kernel) (pfS (by decide +kernel) pfE)), by show 3 < 1000; decide⟩
instance {u : V} {v0 v1 : V} : Pf ("parts" : Str) u (fs_Step_2 v0 v1) (fs_Step_3 v0 v1 u) := ⟨(pfS (by decide +kernel) (pfS (by decide +kernel) pf0)), by show 2 < 1000; decide⟩
def fs_Step_4 (v0 v1 v2 v3 : V) : List (Str × V) := [(("writes" : Str), v0), (("reads" : Str), v1), (("parts" : Str), v2), (("leaves" : Str), v3)]
instance {v0 v1 v2 v3 : V} : Lk (fs_Step_4 v0 v1 v2 v3) ("writes" : Str) v0 := ⟨lk0⟩
instance {v0 v1 v2 v3 : V} : Lk (fs_Step_4 v0 v1 v2 v3) ("reads" : Str) v1 := ⟨(lkS (by decide +kernel) lk0)⟩
instance {v0 v1 v2 v3 : V} : Lk (fs_Step_4 v0 v1 v2 v3) ("parts" : Str) v2 := ⟨(lkS (by decide +kernel) (lkS (by decide +kernel) lk0))⟩
instance {v0 v1 v2 v3 : V} : Lk (fs_Step_4 v0 v1 v2 v3) ("leaves" : Str) v3 := ⟨(lkS (by decide +kernel) (lkS (by decide +kernel) (lkS (by decide +kernel) lk0)))⟩
instance {v0 v1 v2 v3 : V} : LkN (fs_Step_4 v0 v1 v2 v3) ("row" : Str) := ⟨(lkNS (by decide +kernel) (lkNS (by decide +kernel) (lkNS (by decide +kernel) (lkNS (by decide +kernel) lkN0))))⟩
instance {u : V} {v0 v1 v2 v3 : V} : Pf ("writes" : Str) u (fs_Step_4 v0 v1 v2 v3) (fs_Step_4 u v1 v2 v3) := ⟨pfE, by show 4 < 1000; decide⟩
instance {u : V} {v0 v1 v2 v3 : V} : Pf ("reads" : Str) u (fs_Step_4 v0 v1 v2 v3) (fs_Step_4 v0 u v2 v3) := ⟨(pfS (by decide +kernel) pfE), by show 4 < 1000; decide⟩
instance {u : V} {v0 v1 v2 v3 : V} : Pf ("parts" : Str) u (fs_Step_4 v0 v1 v2 v3) (fs_Step_4 v0 v1 u v3) := ⟨(pfS (by decide +kernel) (pfS (by decide +kernel) pfE)), by show 4 < 1000; decide⟩
instance {u : V} {v0 v1 v2 v3 : V} : Pf ("leaves" : Str) u (fs_Step_4 v0 v1 v2 v3) (fs_Step_4 v0 v1 v2 u) := ⟨(pfS (by decide +kernel) (pfS (by decide +kernel) (pfS (by decide +kernel) pfE))), by show 4 < 1000; decide⟩
instance {u : V} {v0 v1 v2 : V} : Pf ("leaves" : Str) u (fs_Step_3 v0 v1 v2) (fs_Step_4 v0 v1 v2 u) := ⟨(pfS (by decide +kernel) (pfS (by decide +kernel) (pfS (by decide +kernel) pf0))), by show 3 < 1000; decide⟩
def fs_Step (v0 v1 v2 v3 v4 : V) : List (Str × V) := [(("writes" : Str), v0), (("reads" : Str), v1), (("parts" : Str), v2), (("leaves" : Str), v3), (("loops" : Str), v4)]
instance {v0 v1 v2 v3 v4 : V} : Lk (fs_Step v0 v1 v2 v3 v4) ("writes" : Str) v0 := ⟨lk0⟩
instance {v0 v1 v2 v3 v4 : V} : Lk (fs_Step v0 v1 v2 v3 v4) ("reads" : Str) v1 := ⟨(lkS (by decide +kernel) lk0)⟩
instance {v0 v1 v2 v3 v4 : V} : Lk (fs_Step v0 v1 v2 v3 v4) ("parts" : Str) v2 := ⟨(lkS (by decide +kernel) (lkS (by decide +kernel) lk0))⟩
instance {v0 v1 v2 v3 v4 : V} : Lk (fs_Step v0 v1 v2 v3 v4) ("leaves" : Str) v3 := ⟨(lkS (by decide +kernel) (lkS (by decide +kernel) (lkS (by decide +kernel) lk0)))⟩
instance {v0 v1 v2 v3 v4 : V} : Lk (fs_Step v0 v1 v2 v3 v4) ("loops" : Str) v4 := ⟨(lkS (by decide +kernel) (lkS (by decide +kernel) (lkS (by decide +kernel) (lkS (by decide +kernel) lk0))))⟩
instance {v0 v1 v2 v3 v4 : V} : LkN (fs_Step v0 v1 v2 v3 v4) ("row" : Str) := ⟨(lkNS (by decide +kernel) (lkNS (by decide +kernel) (lkNS (by decide +kernel) (lkNS (by decide +kernel) (lkNS (by decide +kernel) lkN0)))))⟩
instance {u : V} {v0 v1 v2 v3 v4 : V} : Pf ("writes" : Str) u (fs_Step v0 v1 v2 v3 v4) (fs_Step u v1 v2 v3 v4) := ⟨pfE, by show 5 < 1000; decide⟩
instance {u : V} {v0 v1 v2 v3 v4 : V} : Pf ("reads" : Str) u (fs_Step v0 v1 v2 v3 v4) (fs_Step v0 u v2 v3 v4) := ⟨(pfS (by decide +kernel) pfE), by show 5 < 1000; decide⟩
instance {u : V} {v0 v1 v2 v3 v4 : V} : Pf ("parts" : Str) u (fs_Step v0 v1 v2 v3 v4) (fs_Step v0 v1 u v3 v4) := ⟨(pfS (by decide +kernel) (pfS (by decide +kernel) pfE)), by show 5 < 1000; decide⟩
instance {u : V} {v0 v1 v2 v3 v4 : V} : Pf ("leaves" : Str) u (fs_Step v0 v1 v2 v3 v4) (fs_Step v0 v1 v2 u v4) := ⟨(pfS (by decide +kernel) (pfS (by decide +kernel) (pfS (by decide +kernel) pfE))), by show 5 < 1000; decide⟩
instance {u : V} {v0 v1 v2 v3 v4 : V} : Pf ("loops" : Str) u (fs_Step v0 v1 v2 v3 v4) (fs_Step v0 v1 v2 v3 u) := ⟨(pfS (by decide +kernel) (pfS (by decide +kernel) (pfS (by decide +kernel) (pfS (by decide +kernel) pfE)))), by show 5 < 1000; decide⟩
instance {u : V} {v0 v1 v2 v3 : V} : Pf ("loops" : Str) u (fs_Step_4 v0 v1 v2 v3) (fs_Step v0 v1 v2 v3 u) := ⟨(pfS (by decide +kernel) (pfS (by decide +kernel) (pfS (by decide +kernel) (pfS (by decide +kernel) pf0)))), by show 4 < 1000; decide⟩
def fs_Take (v0 v1 v2 v3 v4 v5 : V) : List (Str × V) := [(("writes" : Str), v0), (("reads" : Str), v1), (("parts" : Str), v2), (("leaves" : Str), v3), (("loops" : Str), v4), (("at" : Str), v5)]
instance {v0 v1 v2 v3 v4 v5 : V} : Lk (fs_Take v0 v1 v2 v3 v4 v5) ("writes" : Str) v0 := ⟨lk0⟩
instance {v0 v1 v2 v3 v4 v5 : V} : Lk (fs_Take v0 v1 v2 v3 v4 v5) ("reads" : Str) v1 := ⟨(lkS (by decide +kernel) lk0)⟩
instance {v0 v1 v2 v3 v4 v5 : V} : Lk (fs_Take v0 v1 v2 v3 v4 v5) ("parts" : Str) v2 := ⟨(lkS (by decide +kernel) (lkS (by decide +kernel) lk0))⟩
instance {v0 v1 v2 v3 v4 v5 : V} : Lk (fs_Take v0 v1 v2 v3 v4 v5) ("leaves" : Str) v3 := ⟨(lkS (by decide +kernel) (lkS (by decide +kernel) (lkS (by decide +kernel) lk0)))⟩
instance {v0 v1 v2 v3 v4 v5 : V} : Lk (fs_Take v0 v1 v2 v3 v4 v5) ("loops" : Str) v4 := ⟨(lkS (by decide +kernel) (lkS (by decide +kernel) (lkS (by decide +kernel) (lkS (by decide +kernel) lk0))))⟩
instance {v0 v1 v2 v3 v4 v5 : V} : Lk (fs_Take v0 v1 v2 v3 v4 v5) ("at" : Str) v5 := ⟨(lkS (by decide +kernel) (lkS (by decide +kernel) (lkS (by decide +kernel) (lkS (by decide +kernel) (lkS (by decide +kernel) lk0)))))⟩
instance {v0 v1 v2 v3 v4 v5 : V} : LkN (fs_Take v0 v1 v2 v3 v4 v5) ("row" : Str) := ⟨(lkNS (by decide +kernel) (lkNS (by decide +kernel) (lkNS (by decide +kernel) (lkNS (by decide +kernel) (lkNS (by decide +kernel) (lkNS (by decide +kernel) lkN0))))))⟩
instance {u : V} {v0 v1 v2 v3 v4 v5 : V} : Pf ("writes" : Str) u (fs_Take v0 v1 v2 v3 v4 v5) (fs_Take u v1 v2 v3 v4 v5) := ⟨pfE, by show 6 < 1000; decide⟩
instance {u : V} {v0 v1 v2 v3 v4 v5 : V} : Pf ("reads" : Str) u (fs_Take v0 v1 v2 v3 v4 v5) (fs_Take v0 u v2 v3 v4 v5) := ⟨(pfS (by decide +kernel) pfE), by show 6 < 1000; decide⟩
instance {u : V} {v0 v1 v2 v3 v4 v5 : V} : Pf ("parts" : Str) u (fs_Take v0 v1 v2 v3 v4 v5) (fs_Take v0 v1 u v3 v4 v5) := ⟨(pfS (by decide +kernel) (pfS (by decide +kernel) pfE)), by show 6 < 1000; decide⟩
instance {u : V} {v0 v1 v2 v3 v4 v5 : V} : Pf ("leaves" : Str) u (fs_Take v0 v1 v2 v3 v4 v5) (fs_Take v0 v1 v2 u v4 v5) := ⟨(pfS (by decide +kernel) (pfS (by decide +kernel) (pfS (by decide +kernel) pfE))), by show 6 < 1000; decide⟩
instance {u : V} {v0 v1 v2 v3 v4 v5 : V} : Pf ("loops" : Str) u (fs_Take v0 v1 v2 v3 v4 v5) (fs_Take v0 v1 v2 v3 u v5) := ⟨(pfS (by decide +kernel) (pfS (by decide +kernel) (pfS (by decide +kernel) (pfS (by decide +kernel) pfE)))), by show 6 < 1000; decide⟩
instance {u : V} {v0 v1 v2 v3 v4 v5 : V} : Pf ("at" : Str) u (fs_Take v0 v1 v2 v3 v4 v5) (fs_Take v0 v1 v2 v3 v4 u) := ⟨(pfS (by decide +kernel) (pfS (by decide +kernel) (pfS (by decide +kernel) (pfS (by decide +kernel) (pfS (by decide +kernel) pfE))))), by show 6 < 1000; decide⟩
instance {u : V} {v0 v1 v2 v3 v4 : V} : Pf ("at" : Str) u (fs_Step v0 v1 v2 v3 v4) (fs_Take v0 v1 v2 v3 v4 u) := ⟨(pfS (by decide +kernel) (pfS (by decide +kernel) (pfS (by decide +kernel) (pfS (by decide +kernel) (pfS (by decide +kernel) pf0))))), by show 5 < 1000; decide⟩
def fs_Set (v0 v1 v2 v3 v4 v5 : V) : List (Str × V) := [(("writes" : Str), v0), (("reads" : Str), v1), (("parts" : Str), v2), (("leaves" : Str), v3), (("loops" : Str), v4), (("bit" : Str), v5)]
instance {v0 v1 v2 v3 v4 v5 : V} : Lk (fs_Set v0 v1 v2 v3 v4 v5) ("writes" : Str) v0 := ⟨lk0⟩
instance {v0 v1 v2 v3 v4 v5 : V} : Lk (fs_Set v0 v1 v2 v3 v4 v5) ("reads" : Str) v1 := ⟨(lkS (by decide +kernel) lk0)⟩
instance {v0 v1 v2 v3 v4 v5 : V} : Lk (fs_Set v0 v1 v2 v3 v4 v5) ("parts" : Str) v2 := ⟨(lkS (by decide +kernel) (lkS (by decide +kernel) lk0))⟩
instance {v0 v1 v2 v3 v4 v5 : V} : Lk (fs_Set v0 v1 v2 v3 v4 v5) ("leaves" : Str) v3 := ⟨(lkS (by decide +kernel) (lkS (by decide +kernel) (lkS (by decide +kernel) lk0)))⟩
instance {v0 v1 v2 v3 v4 v5 : V} : Lk (fs_Set v0 v1 v2 v3 v4 v5) ("loops" : Str) v4 := ⟨(lkS (by decide +kernel) (lkS (by decide +kernel) (lkS (by decide +kernel) (lkS (by decide +kernel) lk0))))⟩
instance {v0 v1 v2 v3 v4 v5 : V} : Lk (fs_Set v0 v1 v2 v3 v4 v5) ("bit" : Str) v5 := ⟨(lkS (by decide +kernel) (lkS (by decide +kernel) (lkS (by decide +kernel) (lkS (by decide +kernel) (lkS (by decide +kernel) lk0)))))⟩
instance {v0 v1 v2 v3 v4 v5 : V} : LkN (fs_Set v0 v1 v2 v3 v4 v5) ("row" : Str) := ⟨(lkNS (by decide +kernel) (lkNS (by decide +kernel) (lkNS (by decide +kernel) (lkNS (by decide +kernel) (lkNS (by decide +kernel) (lkNS (by decide +kernel) lkN0))))))⟩
instance {u : V} {v0 v1 v2 v3 v4 v5 : V} : Pf ("writes" : Str) u (fs_Set v0 v1 v2 v3 v4 v5) (fs_Set u v1 v2 v3 v4 v5) := ⟨pfE, by show 6 < 1000; decide⟩
instance {u : V} {v0 v1 v2 v3 v4 v5 : V} : Pf ("reads" : Str) u (fs_Set v0 v1 v2 v3 v4 v5) (fs_Set v0 u v2 v3 v4 v5) := ⟨(pfS (by decide +kernel) pfE), by show 6 < 1000; decide⟩
instance {u : V} {v0 v1 v2 v3 v4 v5 : V} : Pf ("parts" : Str) u (fs_Set v0 v1 v2 v3 v4 v5) (fs_Set v0 v1 u v3 v4 v5) := ⟨(pfS (by decide +kernel) (pfS (by decide +kernel) pfE)), by show 6 < 1000; decide⟩
instance {u : V} {v0 v1 v2 v3 v4 v5 : V} : Pf ("leaves" : Str) u (fs_Set v0 v1 v2 v3 v4 v5) (fs_Set v0 v1 v2 u v4 v5) := ⟨(pfS (by decide +kernel) (pfS (by decide +kernel) (pfS (by decide +kernel) pfE))), by show 6 < 1000; decide⟩
instance {u : V} {v0 v1 v2 v3 v4 v5 : V} : Pf ("loops" : Str) u (fs_Set v0 v1 v2 v3 v4 v5) (fs_Set v0 v1 v2 v3 u v5) := ⟨(pfS (by decide +kernel) (pfS (by decide +kernel) (pfS (by decide +kernel) (pfS (by decide +kernel) pfE)))), by show 6 < 1000; decide⟩
instance {u : V} {v0 v1 v2 v3 v4 v5 : V} : Pf ("bit" : Str) u (fs_Set v0 v1 v2 v3 v4 v5) (fs_Set v0 v1 v2 v3 v4 u) := ⟨(pfS (by decide +kernel) (pfS (by decide +kernel) (pfS (by decide +kernel) (pfS (by decide +kernel) (pfS (by decide +kernel) pfE))))), by show 6 < 1000; decide⟩
instance {u : V} {v0 v1 v2 v3 v4 : V} : Pf ("bit" : Str) u (fs_Step v0 v1 v2 v3 v4) (fs_Set v0 v1 v2 v3 v4 u) := ⟨(pfS (by decide +kernel) (pfS (by decide +kernel) (pfS (by decide +kernel) (pfS (by decide +kernel) (pfS (by decide +kernel) pf0))))), by show 5 < 1000; decide⟩
def fs_Work (v0 v1 v2 v3 v4 v5 : V) : List (Str × V) := [(("writes" : Str), v0), (("reads" : Str), v1), (("parts" : Str), v2), (("leaves" : Str), v3), (("loops" : Str), v4), (("table" : Str), v5)]
instance {v0 v1 v2 v3 v4 v5 : V} : Lk (fs_Work v0 v1 v2 v3 v4 v5) ("writes" : Str) v0 := ⟨lk0⟩
instance {v0 v1 v2 v3 v4 v5 : V} : Lk (fs_Work v0 v1 v2 v3 v4 v5) ("reads" : Str) v1 := ⟨(lkS (by decide +kernel) lk0)⟩
instance {v0 v1 v2 v3 v4 v5 : V} : Lk (fs_Work v0 v1 v2 v3 v4 v5) ("parts" : Str) v2 := ⟨(lkS (by decide +kernel) (lkS (by decide +kernel) lk0))⟩
instance {v0 v1 v2 v3 v4 v5 : V} : Lk (fs_Work v0 v1 v2 v3 v4 v5) ("leaves" : Str) v3 := ⟨(lkS (by decide +kernel) (lkS (by decide +kernel) (lkS (by decide +kernel) lk0)))⟩
instance {v0 v1 v2 v3 v4 v5 : V} : Lk (fs_Work v0 v1 v2 v3 v4 v5) ("loops" : Str) v4 := ⟨(lkS (by decide +kernel) (lkS (by decide +kernel) (lkS (by decide +kernel) (lkS (by decide +kernel) lk0))))⟩
instance {v0 v1 v2 v3 v4 v5 : V} : Lk (fs_Work v0 v1 v2 v3 v4 v5) ("table" : Str) v5 := ⟨(lkS (by decide +kernel) (lkS (by decide +kernel) (lkS (by decide +kernel) (lkS (by decide +kernel) (lkS (by decide +kernel) lk0)))))⟩
instance {v0 v1 v2 v3 v4 v5 : V} : LkN (fs_Work v0 v1 v2 v3 v4 v5) ("row" : Str) := ⟨(lkNS (by decide +kernel) (lkNS (by decide +kernel) (lkNS (by decide +kernel) (lkNS (by decide +kernel) (lkNS (by decide +kernel) (lkNS (by decide +kernel) lkN0))))))⟩
instance {u : V} {v0 v1 v2 v3 v4 v5 : V} : Pf ("writes" : Str) u (fs_Work v0 v1 v2 v3 v4 v5) (fs_Work u v1 v2 v3 v4 v5) := ⟨pfE, by show 6 < 1000; decide⟩
instance {u : V} {v0 v1 v2 v3 v4 v5 : V} : Pf ("reads" : Str) u (fs_Work v0 v1 v2 v3 v4 v5) (fs_Work v0 u v2 v3 v4 v5) := ⟨(pfS (by decide +kernel) pfE), by show 6 < 1000; decide⟩
instance {u : V} {v0 v1 v2 v3 v4 v5 : V} : Pf ("parts" : Str) u (fs_Work v0 v1 v2 v3 v4 v5) (fs_Work v0 v1 u v3 v4 v5) := ⟨(pfS (by decide +kernel) (pfS (by decide +kernel) pfE)), by show 6 < 1000; decide⟩
instance {u : V} {v0 v1 v2 v3 v4 v5 : V} : Pf ("leaves" : Str) u (fs_Work v0 v1 v2 v3 v4 v5) (fs_Work v0 v1 v2 u v4 v5) := ⟨(pfS (by decide +kernel) (pfS (by decide +kernel) (pfS (by decide +kernel) pfE))), by show 6 < 1000; decide⟩
instance {u : V} {v0 v1 v2 v3 v4 v5 : V} : Pf ("loops" : Str) u (fs_Work v0 v1 v2 v3 v4 v5) (fs_Work v0 v1 v2 v3 u v5) := ⟨(pfS (by decide +kernel) (pfS (by decide +kernel) (pfS (by decide +kernel) (pfS (by decide +kernel) pfE)))), by show 6 < 1000; decide⟩
instance {u : V} {v0 v1 v2 v3 v4 v5 : V} : Pf ("table" : Str) u (fs_Work v0 v1 v2 v3 v4 v5) (fs_Work v0 v1 v2 v3 v4 u) := ⟨(pfS (by decide +kernel) (pfS (by decide +kernel) (pfS (by decide +kernel) (pfS (by decide +kernel) (pfS (by decide +kernel) pfE))))), by show 6 < 1000; decide⟩
instance {u : V} {v0 v1 v2 v3 v4 : V} : Pf ("table" : Str) u (fs_Step v0 v1 v2 v3 v4) (fs_Work v0 v1 v2 v3 v4 u) := ⟨(pfS (by decide +kernel) (pfS (by decide +kernel) (pfS (by decide +kernel) (pfS (by decide +kernel) (pfS (by decide +kernel) pf0))))), by show 5 < 1000; decide⟩
def fs_Print (v0 v1 v2 v3 v4 v5 : V) : List (Str × V) := [(("writes" : Str), v0), (("reads" : Str), v1), (("parts" : Str), v2), (("leaves" : Str), v3), (("loops" : Str), v4), (("channel" : Str), v5)]
instance {v0 v1 v2 v3 v4 v5 : V} : Lk (fs_Print v0 v1 v2 v3 v4 v5) ("writes" : Str) v0 := ⟨lk0⟩
instance {v0 v1 v2 v3 v4 v5 : V} : Lk (fs_Print v0 v1 v2 v3 v4 v5) ("reads" : Str) v1 := ⟨(lkS (by decide +kernel) lk0)⟩
instance {v0 v1 v2 v3 v4 v5 : V} : Lk (fs_Print v0 v1 v2 v3 v4 v5) ("parts" : Str) v2 := ⟨(lkS (by decide +kernel) (lkS (by decide +kernel) lk0))⟩
instance {v0 v1 v2 v3 v4 v5 : V} : Lk (fs_Print v0 v1 v2 v3 v4 v5) ("leaves" : Str) v3 := ⟨(lkS (by decide +kernel) (lkS (by decide +kernel) (lkS (by decide +kernel) lk0)))⟩
instance {v0 v1 v2 v3 v4 v5 : V} : Lk (fs_Print v0 v1 v2 v3 v4 v5) ("loops" : Str) v4 := ⟨(lkS (by decide +kernel) (lkS (by decide +kernel) (lkS (by decide +kernel) (lkS (by decide +kernel) lk0))))⟩
instance {v0 v1 v2 v3 v4 v5 : V} : Lk (fs_Print v0 v1 v2 v3 v4 v5) ("channel" : Str) v5 := ⟨(lkS (by decide +kernel) (lkS (by decide +kernel) (lkS (by decide +kernel) (lkS (by decide +kernel) (lkS (by decide +kernel) lk0)))))⟩
instance {v0 v1 v2 v3 v4 v5 : V} : LkN (fs_Print v0 v1 v2 v3 v4 v5) ("row" : Str) := ⟨(lkNS (by decide +kernel) (lkNS (by decide +kernel) (lkNS (by decide +kernel) (lkNS (by decide +kernel) (lkNS (by decide +kernel) (lkNS (by decide +kernel) lkN0))))))⟩
instance {u : V} {v0 v1 v2 v3 v4 v5 : V} : Pf ("writes" : Str) u (fs_Print v0 v1 v2 v3 v4 v5) (fs_Print u v1 v2 v3 v4 v5) := ⟨pfE, by show 6 < 1000; decide⟩
instance {u : V} {v0 v1 v2 v3 v4 v5 : V} : Pf ("reads" : Str) u (fs_Print v0 v1 v2 v3 v4 v5) (fs_Print v0 u v2 v3 v4 v5) := ⟨(pfS (by decide +kernel) pfE), by show 6 < 1000; decide⟩
instance {u : V} {v0 v1 v2 v3 v4 v5 : V} : Pf ("parts" : Str) u (fs_Print v0 v1 v2 v3 v4 v5) (fs_Print v0 v1 u v3 v4 v5) := ⟨(pfS (by decide +kernel) (pfS (by decide +kernel) pfE)), by show 6 < 1000; decide⟩
instance {u : V} {v0 v1 v2 v3 v4 v5 : V} : Pf ("leaves" : Str) u (fs_Print v0 v1 v2 v3 v4 v5) (fs_Print v0 v1 v2 u v4 v5) := ⟨(pfS (by decide +kernel) (pfS (by decide +kernel) (pfS (by decide +kernel) pfE))), by show 6 < 1000; decide⟩
instance {u : V} {v0 v1 v2 v3 v4 v5 : V} : Pf ("loops" : Str) u (fs_Print v0 v1 v2 v3 v4 v5) (fs_Print v0 v1 v2 v3 u v5) := ⟨(pfS (by decide +kernel) (pfS (by decide +kernel) (pfS (by decide +kernel) (pfS (by decide +kernel) pfE)))), by show 6 < 1000; decide⟩
instance {u : V} {v0 v1 v2 v3 v4 v5 : V} : Pf ("channel" : Str) u (fs_Print v0 v1 v2 v3 v4 v5) (fs_Print v0 v1 v2 v3 v4 u) := ⟨(pfS (by decide +kernel) (pfS (by decide +kernel) (pfS (by decide +kernel) (pfS (by decide +kernel) (pfS (by decide +kernel) pfE))))), by show 6 < 1000; decide⟩
instance {u : V} {v0 v1 v2 v3 v4 : V} : Pf ("channel" : Str) u (fs_Step v0 v1 v2 v3 v4) (fs_Print v0 v1 v2 v3 v4 u) := ⟨(pfS (by decide +kernel) (pfS (by decide +kernel) (pfS (by decide +kernel) (pfS (by decide +kernel) (pfS (by decide +kernel) pf0))))), by show 5 < 1000; decide⟩
def fs_Block_6 (v0 v1 v2 v3 v4 v5 : V) : List (Str × V) := [(("writes" : Str), v0), (("reads" : Str), v1), (("parts" : Str), v2), (("leaves" : Str), v3), (("loops" : Str), v4), (("kind" : Str), v5)]
instance {v0 v1 v2 v3 v4 v5 : V} : Lk (fs_Block_6 v0 v1 v2 v3 v4 v5) ("writes" : Str) v0 := ⟨lk0⟩
instance {v0 v1 v2 v3 v4 v5 : V} : Lk (fs_Block_6 v0 v1 v2 v3 v4 v5) ("reads" : Str) v1 := ⟨(lkS (by decide +kernel) lk0)⟩
instance {v0 v1 v2 v3 v4 v5 : V} : Lk (fs_Block_6 v0 v1 v2 v3 v4 v5) ("parts" : Str) v2 := ⟨(lkS (by decide +kernel) (lkS (by decide +kernel) lk0))⟩
instance {v0 v1 v2 v3 v4 v5 : V} : Lk (fs_Block_6 v0 v1 v2 v3 v4 v5) ("leaves" : Str) v3 := ⟨(lkS (by decide +kernel) (lkS (by decide +kernel) (lkS (by decide +kernel) lk0)))⟩
instance {v0 v1 v2 v3 v4 v5 : V} : Lk (fs_Block_6 v0 v1 v2 v3 v4 v5) ("loops" : Str) v4 := ⟨(lkS (by decide +kernel) (lkS (by decide +kernel) (lkS (by decide +kernel) (lkS (by decide +kernel) lk0))))⟩
instance {v0 v1 v2 v3 v4 v5 : V} : Lk (fs_Block_6 v0 v1 v2 v3 v4 v5) ("kind" : Str) v5 := ⟨(lkS (by decide +kernel) (lkS (by decide +kernel) (lkS (by decide +kernel) (lkS (by decide +kernel) (lkS (by decide +kernel) lk0)))))⟩
instance {v0 v1 v2 v3 v4 v5 : V} : LkN (fs_Block_6 v0 v1 v2 v3 v4 v5) ("row" : Str) := ⟨(lkNS (by decide +kernel) (lkNS (by decide +kernel) (lkNS (by decide +kernel) (lkNS (by decide +kernel) (lkNS (by decide +kernel) (lkNS (by decide +kernel) lkN0))))))⟩
instance {u : V} {v0 v1 v2 v3 v4 v5 : V} : Pf ("writes" : Str) u (fs_Block_6 v0 v1 v2 v3 v4 v5) (fs_Block_6 u v1 v2 v3 v4 v5) := ⟨pfE, by show 6 < 1000; decide⟩
instance {u : V} {v0 v1 v2 v3 v4 v5 : V} : Pf ("reads" : Str) u (fs_Block_6 v0 v1 v2 v3 v4 v5) (fs_Block_6 v0 u v2 v3 v4 v5) := ⟨(pfS (by decide +kernel) pfE), by show 6 < 1000; decide⟩
instance {u : V} {v0 v1 v2 v3 v4 v5 : V} : Pf ("parts" : Str) u (fs_Block_6 v0 v1 v2 v3 v4 v5) (fs_Block_6 v0 v1 u v3 v4 v5) := ⟨(pfS (by decide +kernel) (pfS (by decide +kernel) pfE)), by show 6 < 1000; decide⟩
instance {u : V} {v0 v1 v2 v3 v4 v5 : V} : Pf ("leaves" : Str) u (fs_Block_6 v0 v1 v2 v3 v4 v5) (fs_Block_6 v0 v1 v2 u v4 v5) := ⟨(pfS (by decide +kernel) (pfS (by decide +kernel) (pfS (by decide +kernel) pfE))), by show 6 < 1000; decide⟩
instance {u : V} {v0 v1 v2 v3 v4 v5 : V} : Pf ("loops" : Str) u (fs_Block_6 v0 v1 v2 v3 v4 v5) (fs_Block_6 v0 v1 v2 v3 u v5) := ⟨(pfS (by decide +kernel) (pfS (by decide +kernel) (pfS (by decide +kernel) (pfS (by decide +kernel) pfE)))), by show 6 < 1000; decide⟩
instance {u : V} {v0 v1 v2 v3 v4 v5 : V} : Pf ("kind" : Str) u (fs_Block_6 v0 v1 v2 v3 v4 v5) (fs_Block_6 v0 v1 v2 v3 v4 u) := ⟨(pfS (by decide +kernel) (pfS (by decide +kernel) (pfS (by decide +kernel) (pfS (by decide +kernel) (pfS (by decide +kernel) pfE))))), by show 6 < 1000; decide⟩
instance {u : V} {v0 v1 v2 v3 v4 : V} : Pf ("kind" : Str) u (fs_Step v0 v1 v2 v3 v4) (fs_Block_6 v0 v1 v2 v3 v4 u) := ⟨(pfS (by decide +kernel) (pfS (by decide +kernel) (pfS (by decide +kernel) (pfS (by decide +kernel) (pfS (by decide +kernel) pf0))))), by show 5 < 1000; decide⟩
def fs_Block (v0 v1 v2 v3 v4 v5 v6 : V) : List (Str × V) := [(("writes" : Str), v0), (("reads" : Str), v1), (("parts" : Str), v2), (("leaves" : Str), v3), (("loops" : Str), v4), (("kind" : Str), v5), (("opened" : Str), v6)]
instance {v0 v1 v2 v3 v4 v5 v6 : V} : Lk (fs_Block v0 v1 v2 v3 v4 v5 v6) ("writes" : Str) v0 := ⟨lk0⟩
instance {v0 v1 v2 v3 v4 v5 v6 : V} : Lk (fs_Block v0 v1 v2 v3 v4 v5 v6) ("reads" : Str) v1 := ⟨(lkS (by decide +kernel) lk0)⟩
instance {v0 v1 v2 v3 v4 v5 v6 : V} : Lk (fs_Block v0 v1 v2 v3 v4 v5 v6) ("parts" : Str) v2 := ⟨(lkS (by decide +kernel) (lkS (by decide +kernel) lk0))⟩
instance {v0 v1 v2 v3 v4 v5 v6 : V} : Lk (fs_Block v0 v1 v2 v3 v4 v5 v6) ("leaves" : Str) v3 := ⟨(lkS (by decide +kernel) (lkS (by decide +kernel) (lkS (by decide +kernel) lk0)))⟩
instance {v0 v1 v2 v3 v4 v5 v6 : V} : Lk (fs_Block v0 v1 v2 v3 v4 v5 v6) ("loops" : Str) v4 := ⟨(lkS (by decide +kernel) (lkS (by decide +kernel) (lkS (by decide +kernel) (lkS (by decide +kernel) lk0))))⟩
instance {v0 v1 v2 v3 v4 v5 v6 : V} : Lk (fs_Block v0 v1 v2 v3 v4 v5 v6) ("kind" : Str) v5 := ⟨(lkS (by decide +kernel) (lkS (by decide +kernel) (lkS (by decide +kernel) (lkS (by decide +kernel) (lkS (by decide +kernel) lk0)))))⟩
instance {v0 v1 v2 v3 v4 v5 v6 : V} : Lk (fs_Block v0 v1 v2 v3 v4 v5 v6) ("opened" : Str) v6 := ⟨(lkS (by decide +kernel) (lkS (by decide +kernel) (lkS (by decide +kernel) (lkS (by decide +kernel) (lkS (by decide +kernel) (lkS (by decide +kernel) lk0))))))⟩
instance {v0 v1 v2 v3 v4 v5 v6 : V} : LkN (fs_Block v0 v1 v2 v3 v4 v5 v6) ("row" : Str) := ⟨(lkNS (by decide +kernel) (lkNS (by decide +kernel) (lkNS (by decide +kernel) (lkNS (by decide +kernel) (lkNS (by decide +kernel) (lkNS (by decide +kernel) (lkNS (by decide +kernel) lkN0)))))))⟩
instance {u : V} {v0 v1 v2 v3 v4 v5 v6 : V} : Pf ("writes" : Str) u (fs_Block v0 v1 v2 v3 v4 v5 v6) (fs_Block u v1 v2 v3 v4 v5 v6) := ⟨pfE, by show 7 < 1000; decide⟩
instance {u : V} {v0 v1 v2 v3 v4 v5 v6 : V} : Pf ("reads" : Str) u (fs_Block v0 v1 v2 v3 v4 v5 v6) (fs_Block v0 u v2 v3 v4 v5 v6) := ⟨(pfS (by decide +kernel) pfE), by show 7 < 1000; decide⟩
instance {u : V} {v0 v1 v2 v3 v4 v5 v6 : V} : Pf ("parts" : Str) u (fs_Block v0 v1 v2 v3 v4 v5 v6) (fs_Block v0 v1 u v3 v4 v5 v6) := ⟨(pfS (by decide +kernel) (pfS (by decide +kernel) pfE)), by show 7 < 1000; decide⟩
instance {u : V} {v0 v1 v2 v3 v4 v5 v6 : V} : Pf ("leaves" : Str) u (fs_Block v0 v1 v2 v3 v4 v5 v6) (fs_Block v0 v1 v2 u v4 v5 v6) := ⟨(pfS (by decide +kernel) (pfS (by decide +kernel) (pfS (by decide +kernel) pfE))), by show 7 < 1000; decide⟩
instance {u : V} {v0 v1 v2 v3 v4 v5 v6 : V} : Pf ("loops" : Str) u (fs_Block v0 v1 v2 v3 v4 v5 v6) (fs_Block v0 v1 v2 v3 u v5 v6) := ⟨(pfS (by decide +kernel) (pfS (by decide +kernel) (pfS (by decide +kernel) (pfS (by decide +kernel) pfE)))), by show 7 < 1000; decide⟩
instance {u : V} {v0 v1 v2 v3 v4 v5 v6 : V} : Pf ("kind" : Str) u (fs_Block v0 v1 v2 v3 v4 v5 v6) (fs_Block v0 v1 v2 v3 v4 u v6) := ⟨(pfS (by decide +kernel) (pfS (by decide +kernel) (pfS (by decide +kernel) (pfS (by decide +kernel) (pfS (by decide +kernel) pfE))))), by show 7 < 1000; decide⟩
instance {u : V} {v0 v1 v2 v3 v4 v5 v6 : V} : Pf ("opened" : Str) u (fs_Block v0 v1 v2 v3 v4 v5 v6) (fs_Block v0 v1 v2 v3 v4 v5 u) := ⟨(pfS (by decide +kernel) (pfS (by decide +kernel) (pfS (by decide +kernel) (pfS (by decide +kernel) (pfS (by decide +kernel) (pfS (by decide +kernel) pfE)))))), by show 7 < 1000; decide⟩
instance {u : V} {v0 v1 v2 v3 v4 v5 : V} : Pf ("opened" : Str) u (fs_Block_6 v0 v1 v2 v3 v4 v5) (fs_Block v0 v1 v2 v3 v4 v5 u) := ⟨(pfS (by decide +kernel) (pfS (by decide +kernel) (pfS (by decide +kernel) (pfS (by decide +kernel) (pfS (by decide +kernel) (pfS (by decide +kernel) pf0)))))), by show 6 < 1000; decide⟩
def fs_Loop (v0 v1 v2 v3 v4 v5 v6 v7 : V) : List (Str × V) := [(("writes" : Str), v0), (("reads" : Str), v1), (("parts" : Str), v2), (("leaves" : Str), v3), (("loops" : Str), v4), (("kind" : Str), v5), (("opened" : Str), v6), (("turns" : Str), v7)]
instance {v0 v1 v2 v3 v4 v5 v6 v7 : V} : Lk (fs_Loop v0 v1 v2 v3 v4 v5 v6 v7) ("writes" : Str) v0 := ⟨lk0⟩
instance {v0 v1 v2 v3 v4 v5 v6 v7 : V} : Lk (fs_Loop v0 v1 v2 v3 v4 v5 v6 v7) ("reads" : Str) v1 := ⟨(lkS (by decide +kernel) lk0)⟩
instance {v0 v1 v2 v3 v4 v5 v6 v7 : V} : Lk (fs_Loop v0 v1 v2 v3 v4 v5 v6 v7) ("parts" : Str) v2 := ⟨(lkS (by decide +kernel) (lkS (by decide +kernel) lk0))⟩
instance {v0 v1 v2 v3 v4 v5 v6 v7 : V} : Lk (fs_Loop v0 v1 v2 v3 v4 v5 v6 v7) ("leaves" : Str) v3 := ⟨(lkS (by decide +kernel) (lkS (by decide +kernel) (lkS (by decide +kernel) lk0)))⟩
instance {v0 v1 v2 v3 v4 v5 v6 v7 : V} : Lk (fs_Loop v0 v1 v2 v3 v4 v5 v6 v7) ("loops" : Str) v4 := ⟨(lkS (by decide +kernel) (lkS (by decide +kernel) (lkS (by decide +kernel) (lkS (by decide +kernel) lk0))))⟩
instance {v0 v1 v2 v3 v4 v5 v6 v7 : V} : Lk (fs_Loop v0 v1 v2 v3 v4 v5 v6 v7) ("kind" : Str) v5 := ⟨(lkS (by decide +kernel) (lkS (by decide +kernel) (lkS (by decide +kernel) (lkS (by decide +kernel) (lkS (by decide +kernel) lk0)))))⟩
instance {v0 v1 v2 v3 v4 v5 v6 v7 : V} : Lk (fs_Loop v0 v1 v2 v3 v4 v5 v6 v7) ("opened" : Str) v6 := ⟨(lkS (by decide +kernel) (lkS (by decide +kernel) (lkS (by decide +kernel) (lkS (by decide +kernel) (lkS (by decide +kernel) (lkS (by decide +kernel) lk0))))))⟩
instance {v0 v1 v2 v3 v4 v5 v6 v7 : V} : Lk (fs_Loop v0 v1 v2 v3 v4 v5 v6 v7) ("turns" : Str) v7 := ⟨(lkS (by decide +kernel) (lkS (by decide +kernel) (lkS (by decide +kernel) (lkS (by decide +kernel) (lkS (by decide +kernel) (lkS (by decide +kernel) (lkS (by decide +kernel) lk0)))))))⟩
instance {v0 v1 v2 v3 v4 v5 v6 v7 : V} : LkN (fs_Loop v0 v1 v2 v3 v4 v5 v6 v7) ("row" : Str) := ⟨(lkNS (by decide +kernel) (lkNS (by decide +kernel) (lkNS (by decide +kernel) (lkNS (by decide +kernel) (lkNS (by decide +kernel) (lkNS (by decide +kernel) (lkNS (by decide +kernel) (lkNS (by decide +kernel) lkN0))))))))⟩
instance {u : V} {v0 v1 v2 v3 v4 v5 v6 v7 : V} : Pf ("writes" : Str) u (fs_Loop v0 v1 v2 v3 v4 v5 v6 v7) (fs_Loop u v1 v2 v3 v4 v5 v6 v7) := ⟨pfE, by show 8 < 1000; decide⟩
instance {u : V} {v0 v1 v2 v3 v4 v5 v6 v7 : V} : Pf ("reads" : Str) u (fs_Loop v0 v1 v2 v3 v4 v5 v6 v7) (fs_Loop v0 u v2 v3 v4 v5 v6 v7) := ⟨(pfS (by decide +kernel) pfE), by show 8 < 1000; decide⟩
instance {u : V} {v0 v1 v2 v3 v4 v5 v6 v7 : V} : Pf ("parts" : Str) u (fs_Loop v0 v1 v2 v3 v4 v5 v6 v7) (fs_Loop v0 v1 u v3 v4 v5 v6 v7) := ⟨(pfS (by decide +kernel) (pfS (by decide +kernel) pfE)), by show 8 < 1000; decide⟩
instance {u : V} {v0 v1 v2 v3 v4 v5 v6 v7 : V} : Pf ("leaves" : Str) u (fs_Loop v0 v1 v2 v3 v4 v5 v6 v7) (fs_Loop v0 v1 v2 u v4 v5 v6 v7) := ⟨(pfS (by decide +kernel) (pfS (by decide +kernel) (pfS (by decide +kernel) pfE))), by show 8 < 1000; decide⟩
instance {u : V} {v0 v1 v2 v3 v4 v5 v6 v7 : V} : Pf ("loops" : Str) u (fs_Loop v0 v1 v2 v3 v4 v5 v6 v7) (fs_Loop v0 v1 v2 v3 u v5 v6 v7) := ⟨(pfS (by decide +kernel) (pfS (by decide +kernel) (pfS (by decide +kernel) (pfS (by decide +kernel) pfE)))), by show 8 < 1000; decide⟩
instance {u : V} {v0 v1 v2 v3 v4 v5 v6 v7 : V} : Pf ("kind" : Str) u (fs_Loop v0 v1 v2 v3 v4 v5 v6 v7) (fs_Loop v0 v1 v2 v3 v4 u v6 v7) := ⟨(pfS (by decide +kernel) (pfS (by decide +kernel) (pfS (by decide +kernel) (pfS (by decide +kernel) (pfS (by decide +kernel) pfE))))), by show 8 < 1000; decide⟩
instance {u : V} {v0 v1 v2 v3 v4 v5 v6 v7 : V} : Pf ("opened" : Str) u (fs_Loop v0 v1 v2 v3 v4 v5 v6 v7) (fs_Loop v0 v1 v2 v3 v4 v5 u v7) := ⟨(pfS (by decide +kernel) (pfS (by decide +kernel) (pfS (by decide +kernel) (pfS (by decide +kernel) (pfS (by decide +kernel) (pfS (by decide +kernel) pfE)))))), by show 8 < 1000; decide⟩
instance {u : V} {v0 v1 v2 v3 v4 v5 v6 v7 : V} : Pf ("turns" : Str) u (fs_Loop v0 v1 v2 v3 v4 v5 v6 v7) (fs_Loop v0 v1 v2 v3 v4 v5 v6 u) := ⟨(pfS (by decide +kernel) (pfS (by decide +kernel) (pfS (by decide +kernel) (pfS (by decide +kernel) (pfS (by decide +kernel) (pfS (by decide +kernel) (pfS (by decide +kernel) pfE))))))), by show 8 < 1000; decide⟩
instance {u : V} {v0 v1 v2 v3 v4 v5 v6 : V} : Pf ("turns" : Str) u (fs_Block v0 v1 v2 v3 v4 v5 v6) (fs_Loop v0 v1 v2 v3 v4 v5 v6 u) := ⟨(pfS (by decide +kernel) (pfS (by decide +kernel) (pfS (by decide +kernel) (pfS (by decide +kernel) (pfS (by decide +kernel) (pfS (by decide +kernel) (pfS (by decide +kernel) pf0))))))), by show 7 < 1000; decide⟩
instance : Kit K (.ref (He.ga K ("Block" : Str))) (.ref (He.ga K ("Block" : Str))) true := ⟨TxtK.kit_Block_Block⟩
instance : Kit K (.ref (He.ga K ("Block" : Str))) (.ref (He.ga K ("Call" : Str))) false := ⟨TxtK.kit_Block_Call⟩
instance : Kit K (.ref (He.ga K ("Block" : Str))) (.ref (He.ga K ("Guard" : Str))) false := ⟨TxtK.kit_Block_Guard⟩
instance : Kit K (.ref (He.ga K ("Block" : Str))) (.ref (He.ga K ("Holder" : Str))) true := ⟨TxtK.kit_Block_Holder⟩
instance : Kit K (.ref (He.ga K ("Block" : Str))) (.ref (He.ga K ("Leave" : Str))) false := ⟨TxtK.kit_Block_Leave⟩
instance : Kit K (.ref (He.ga K ("Block" : Str))) (.ref (He.ga K ("Loop" : Str))) false := ⟨TxtK.kit_Block_Loop⟩
instance : Kit K (.ref (He.ga K ("Block" : Str))) (.ref (He.ga K ("Print" : Str))) false := ⟨TxtK.kit_Block_Print⟩
instance : Kit K (.ref (He.ga K ("Block" : Str))) (.ref (He.ga K ("Reader" : Str))) false := ⟨TxtK.kit_Block_Reader⟩
instance : Kit K (.ref (He.ga K ("Block" : Str))) (.ref (He.ga K ("Set" : Str))) false := ⟨TxtK.kit_Block_Set⟩
instance : Kit K (.ref (He.ga K ("Block" : Str))) (.ref (He.ga K ("Step" : Str))) true := ⟨TxtK.kit_Block_Step⟩
instance : Kit K (.ref (He.ga K ("Block" : Str))) (.ref (He.ga K ("Take" : Str))) false := ⟨TxtK.kit_Block_Take⟩
instance : Kit K (.ref (He.ga K ("Block" : Str))) (.ref (He.ga K ("Test" : Str))) false := ⟨TxtK.kit_Block_Test⟩
instance : Kit K (.ref (He.ga K ("Block" : Str))) (.ref (He.ga K ("Work" : Str))) false := ⟨TxtK.kit_Block_Work⟩
instance : Kit K (.ref (He.ga K ("Block" : Str))) (.ref (He.ga K ("Writer" : Str))) false := ⟨TxtK.kit_Block_Writer⟩
instance : Kit K (.ref (He.ga K ("Call" : Str))) (.ref (He.ga K ("Block" : Str))) true := ⟨TxtK.kit_Call_Block⟩
instance : Kit K (.ref (He.ga K ("Call" : Str))) (.ref (He.ga K ("Call" : Str))) true := ⟨TxtK.kit_Call_Call⟩
instance : Kit K (.ref (He.ga K ("Call" : Str))) (.ref (He.ga K ("Guard" : Str))) false := ⟨TxtK.kit_Call_Guard⟩
instance : Kit K (.ref (He.ga K ("Call" : Str))) (.ref (He.ga K ("Holder" : Str))) true := ⟨TxtK.kit_Call_Holder⟩
instance : Kit K (.ref (He.ga K ("Call" : Str))) (.ref (He.ga K ("Leave" : Str))) false := ⟨TxtK.kit_Call_Leave⟩
instance : Kit K (.ref (He.ga K ("Call" : Str))) (.ref (He.ga K ("Loop" : Str))) false := ⟨TxtK.kit_Call_Loop⟩
instance : Kit K (.ref (He.ga K ("Call" : Str))) (.ref (He.ga K ("Print" : Str))) false := ⟨TxtK.kit_Call_Print⟩
instance : Kit K (.ref (He.ga K ("Call" : Str))) (.ref (He.ga K ("Reader" : Str))) false := ⟨TxtK.kit_Call_Reader⟩
instance : Kit K (.ref (He.ga K ("Call" : Str))) (.ref (He.ga K ("Set" : Str))) false := ⟨TxtK.kit_Call_Set⟩
instance : Kit K (.ref (He.ga K ("Call" : Str))) (.ref (He.ga K ("Step" : Str))) true := ⟨TxtK.kit_Call_Step⟩
instance : Kit K (.ref (He.ga K ("Call" : Str))) (.ref (He.ga K ("Take" : Str))) false := ⟨TxtK.kit_Call_Take⟩
instance : Kit K (.ref (He.ga K ("Call" : Str))) (.ref (He.ga K ("Test" : Str))) false := ⟨TxtK.kit_Call_Test⟩
instance : Kit K (.ref (He.ga K ("Call" : Str))) (.ref (He.ga K ("Work" : Str))) false := ⟨TxtK.kit_Call_Work⟩
instance : Kit K (.ref (He.ga K ("Call" : Str))) (.ref (He.ga K ("Writer" : Str))) false := ⟨TxtK.kit_Call_Writer⟩
instance : Kit K (.ref (He.ga K ("Guard" : Str))) (.ref (He.ga K ("Block" : Str))) true := ⟨TxtK.kit_Guard_Block⟩
instance : Kit K (.ref (He.ga K ("Guard" : Str))) (.ref (He.ga K ("Call" : Str))) false := ⟨TxtK.kit_Guard_Call⟩
instance : Kit K (.ref (He.ga K ("Guard" : Str))) (.ref (He.ga K ("Guard" : Str))) true := ⟨TxtK.kit_Guard_Guard⟩
instance : Kit K (.ref (He.ga K ("Guard" : Str))) (.ref (He.ga K ("Holder" : Str))) true := ⟨TxtK.kit_Guard_Holder⟩
instance : Kit K (.ref (He.ga K ("Guard" : Str))) (.ref (He.ga K ("Leave" : Str))) false := ⟨TxtK.kit_Guard_Leave⟩
instance : Kit K (.ref (He.ga K ("Guard" : Str))) (.ref (He.ga K ("Loop" : Str))) false := ⟨TxtK.kit_Guard_Loop⟩
instance : Kit K (.ref (He.ga K ("Guard" : Str))) (.ref (He.ga K ("Print" : Str))) false := ⟨TxtK.kit_Guard_Print⟩
instance : Kit K (.ref (He.ga K ("Guard" : Str))) (.ref (He.ga K ("Reader" : Str))) false := ⟨TxtK.kit_Guard_Reader⟩
instance : Kit K (.ref (He.ga K ("Guard" : Str))) (.ref (He.ga K ("Set" : Str))) false := ⟨TxtK.kit_Guard_Set⟩
instance : Kit K (.ref (He.ga K ("Guard" : Str))) (.ref (He.ga K ("Step" : Str))) true := ⟨TxtK.kit_Guard_Step⟩
instance : Kit K (.ref (He.ga K ("Guard" : Str))) (.ref (He.ga K ("Take" : Str))) false := ⟨TxtK.kit_Guard_Take⟩
instance : Kit K (.ref (He.ga K ("Guard" : Str))) (.ref (He.ga K ("Test" : Str))) false := ⟨TxtK.kit_Guard_Test⟩
instance : Kit K (.ref (He.ga K ("Guard" : Str))) (.ref (He.ga K ("Work" : Str))) false := ⟨TxtK.kit_Guard_Work⟩
instance : Kit K (.ref (He.ga K ("Guard" : Str))) (.ref (He.ga K ("Writer" : Str))) false := ⟨TxtK.kit_Guard_Writer⟩
instance : Kit K (.ref (He.ga K ("Holder" : Str))) (.ref (He.ga K ("Block" : Str))) false := ⟨TxtK.kit_Holder_Block⟩
instance : Kit K (.ref (He.ga K ("Holder" : Str))) (.ref (He.ga K ("Call" : Str))) false := ⟨TxtK.kit_Holder_Call⟩
instance : Kit K (.ref (He.ga K ("Holder" : Str))) (.ref (He.ga K ("Guard" : Str))) false := ⟨TxtK.kit_Holder_Guard⟩
instance : Kit K (.ref (He.ga K ("Holder" : Str))) (.ref (He.ga K ("Holder" : Str))) true := ⟨TxtK.kit_Holder_Holder⟩
instance : Kit K (.ref (He.ga K ("Holder" : Str))) (.ref (He.ga K ("Leave" : Str))) false := ⟨TxtK.kit_Holder_Leave⟩
instance : Kit K (.ref (He.ga K ("Holder" : Str))) (.ref (He.ga K ("Loop" : Str))) false := ⟨TxtK.kit_Holder_Loop⟩
instance : Kit K (.ref (He.ga K ("Holder" : Str))) (.ref (He.ga K ("Print" : Str))) false := ⟨TxtK.kit_Holder_Print⟩
instance : Kit K (.ref (He.ga K ("Holder" : Str))) (.ref (He.ga K ("Reader" : Str))) false := ⟨TxtK.kit_Holder_Reader⟩
instance : Kit K (.ref (He.ga K ("Holder" : Str))) (.ref (He.ga K ("Set" : Str))) false := ⟨TxtK.kit_Holder_Set⟩
instance : Kit K (.ref (He.ga K ("Holder" : Str))) (.ref (He.ga K ("Step" : Str))) true := ⟨TxtK.kit_Holder_Step⟩
instance : Kit K (.ref (He.ga K ("Holder" : Str))) (.ref (He.ga K ("Take" : Str))) false := ⟨TxtK.kit_Holder_Take⟩
instance : Kit K (.ref (He.ga K ("Holder" : Str))) (.ref (He.ga K ("Test" : Str))) false := ⟨TxtK.kit_Holder_Test⟩
instance : Kit K (.ref (He.ga K ("Holder" : Str))) (.ref (He.ga K ("Work" : Str))) false := ⟨TxtK.kit_Holder_Work⟩
instance : Kit K (.ref (He.ga K ("Holder" : Str))) (.ref (He.ga K ("Writer" : Str))) false := ⟨TxtK.kit_Holder_Writer⟩
instance : Kit K (.ref (He.ga K ("Leave" : Str))) (.ref (He.ga K ("Block" : Str))) false := ⟨TxtK.kit_Leave_Block⟩
instance : Kit K (.ref (He.ga K ("Leave" : Str))) (.ref (He.ga K ("Call" : Str))) false := ⟨TxtK.kit_Leave_Call⟩
instance : Kit K (.ref (He.ga K ("Leave" : Str))) (.ref (He.ga K ("Guard" : Str))) false := ⟨TxtK.kit_Leave_Guard⟩
instance : Kit K (.ref (He.ga K ("Leave" : Str))) (.ref (He.ga K ("Holder" : Str))) false := ⟨TxtK.kit_Leave_Holder⟩
instance : Kit K (.ref (He.ga K ("Leave" : Str))) (.ref (He.ga K ("Leave" : Str))) true := ⟨TxtK.kit_Leave_Leave⟩
instance : Kit K (.ref (He.ga K ("Leave" : Str))) (.ref (He.ga K ("Loop" : Str))) false := ⟨TxtK.kit_Leave_Loop⟩
instance : Kit K (.ref (He.ga K ("Leave" : Str))) (.ref (He.ga K ("Print" : Str))) false := ⟨TxtK.kit_Leave_Print⟩
instance : Kit K (.ref (He.ga K ("Leave" : Str))) (.ref (He.ga K ("Reader" : Str))) false := ⟨TxtK.kit_Leave_Reader⟩
instance : Kit K (.ref (He.ga K ("Leave" : Str))) (.ref (He.ga K ("Set" : Str))) false := ⟨TxtK.kit_Leave_Set⟩
instance : Kit K (.ref (He.ga K ("Leave" : Str))) (.ref (He.ga K ("Step" : Str))) true := ⟨TxtK.kit_Leave_Step⟩
instance : Kit K (.ref (He.ga K ("Leave" : Str))) (.ref (He.ga K ("Take" : Str))) false := ⟨TxtK.kit_Leave_Take⟩
instance : Kit K (.ref (He.ga K ("Leave" : Str))) (.ref (He.ga K ("Test" : Str))) false := ⟨TxtK.kit_Leave_Test⟩
instance : Kit K (.ref (He.ga K ("Leave" : Str))) (.ref (He.ga K ("Work" : Str))) false := ⟨TxtK.kit_Leave_Work⟩
instance : Kit K (.ref (He.ga K ("Leave" : Str))) (.ref (He.ga K ("Writer" : Str))) false := ⟨TxtK.kit_Leave_Writer⟩
instance : Kit K (.ref (He.ga K ("Loop" : Str))) (.ref (He.ga K ("Block" : Str))) true := ⟨TxtK.kit_Loop_Block⟩
instance : Kit K (.ref (He.ga K ("Loop" : Str))) (.ref (He.ga K ("Call" : Str))) false := ⟨TxtK.kit_Loop_Call⟩
instance : Kit K (.ref (He.ga K ("Loop" : Str))) (.ref (He.ga K ("Guard" : Str))) false := ⟨TxtK.kit_Loop_Guard⟩
instance : Kit K (.ref (He.ga K ("Loop" : Str))) (.ref (He.ga K ("Holder" : Str))) true := ⟨TxtK.kit_Loop_Holder⟩
instance : Kit K (.ref (He.ga K ("Loop" : Str))) (.ref (He.ga K ("Leave" : Str))) false := ⟨TxtK.kit_Loop_Leave⟩
instance : Kit K (.ref (He.ga K ("Loop" : Str))) (.ref (He.ga K ("Loop" : Str))) true := ⟨TxtK.kit_Loop_Loop⟩
instance : Kit K (.ref (He.ga K ("Loop" : Str))) (.ref (He.ga K ("Print" : Str))) false := ⟨TxtK.kit_Loop_Print⟩
instance : Kit K (.ref (He.ga K ("Loop" : Str))) (.ref (He.ga K ("Reader" : Str))) true := ⟨TxtK.kit_Loop_Reader⟩
instance : Kit K (.ref (He.ga K ("Loop" : Str))) (.ref (He.ga K ("Set" : Str))) false := ⟨TxtK.kit_Loop_Set⟩
instance : Kit K (.ref (He.ga K ("Loop" : Str))) (.ref (He.ga K ("Step" : Str))) true := ⟨TxtK.kit_Loop_Step⟩
instance : Kit K (.ref (He.ga K ("Loop" : Str))) (.ref (He.ga K ("Take" : Str))) false := ⟨TxtK.kit_Loop_Take⟩
instance : Kit K (.ref (He.ga K ("Loop" : Str))) (.ref (He.ga K ("Test" : Str))) false := ⟨TxtK.kit_Loop_Test⟩
instance : Kit K (.ref (He.ga K ("Loop" : Str))) (.ref (He.ga K ("Work" : Str))) false := ⟨TxtK.kit_Loop_Work⟩
instance : Kit K (.ref (He.ga K ("Loop" : Str))) (.ref (He.ga K ("Writer" : Str))) false := ⟨TxtK.kit_Loop_Writer⟩
instance : Kit K (.type "NoneType") (.ref (He.ga K ("Block" : Str))) false := ⟨TxtK.kit_NoneType_Block⟩
instance : Kit K (.type "NoneType") (.ref (He.ga K ("Call" : Str))) false := ⟨TxtK.kit_NoneType_Call⟩
instance : Kit K (.type "NoneType") (.ref (He.ga K ("Guard" : Str))) false := ⟨TxtK.kit_NoneType_Guard⟩
instance : Kit K (.type "NoneType") (.ref (He.ga K ("Holder" : Str))) false := ⟨TxtK.kit_NoneType_Holder⟩
instance : Kit K (.type "NoneType") (.ref (He.ga K ("Leave" : Str))) false := ⟨TxtK.kit_NoneType_Leave⟩
instance : Kit K (.type "NoneType") (.ref (He.ga K ("Loop" : Str))) false := ⟨TxtK.kit_NoneType_Loop⟩
instance : Kit K (.type "NoneType") (.ref (He.ga K ("Print" : Str))) false := ⟨TxtK.kit_NoneType_Print⟩
instance : Kit K (.type "NoneType") (.ref (He.ga K ("Reader" : Str))) false := ⟨TxtK.kit_NoneType_Reader⟩
instance : Kit K (.type "NoneType") (.ref (He.ga K ("Set" : Str))) false := ⟨TxtK.kit_NoneType_Set⟩
instance : Kit K (.type "NoneType") (.ref (He.ga K ("Step" : Str))) false := ⟨TxtK.kit_NoneType_Step⟩
instance : Kit K (.type "NoneType") (.ref (He.ga K ("Take" : Str))) false := ⟨TxtK.kit_NoneType_Take⟩
instance : Kit K (.type "NoneType") (.ref (He.ga K ("Test" : Str))) false := ⟨TxtK.kit_NoneType_Test⟩
instance : Kit K (.type "NoneType") (.ref (He.ga K ("Work" : Str))) false := ⟨TxtK.kit_NoneType_Work⟩
instance : Kit K (.type "NoneType") (.ref (He.ga K ("Writer" : Str))) false := ⟨TxtK.kit_NoneType_Writer⟩
instance : Kit K (.ref (He.ga K ("Print" : Str))) (.ref (He.ga K ("Block" : Str))) false := ⟨TxtK.kit_Print_Block⟩
instance : Kit K (.ref (He.ga K ("Print" : Str))) (.ref (He.ga K ("Call" : Str))) false := ⟨TxtK.kit_Print_Call⟩
instance : Kit K (.ref (He.ga K ("Print" : Str))) (.ref (He.ga K ("Guard" : Str))) false := ⟨TxtK.kit_Print_Guard⟩
instance : Kit K (.ref (He.ga K ("Print" : Str))) (.ref (He.ga K ("Holder" : Str))) false := ⟨TxtK.kit_Print_Holder⟩
instance : Kit K (.ref (He.ga K ("Print" : Str))) (.ref (He.ga K ("Leave" : Str))) false := ⟨TxtK.kit_Print_Leave⟩
instance : Kit K (.ref (He.ga K ("Print" : Str))) (.ref (He.ga K ("Loop" : Str))) false := ⟨TxtK.kit_Print_Loop⟩
instance : Kit K (.ref (He.ga K ("Print" : Str))) (.ref (He.ga K ("Print" : Str))) true := ⟨TxtK.kit_Print_Print⟩
instance : Kit K (.ref (He.ga K ("Print" : Str))) (.ref (He.ga K ("Reader" : Str))) true := ⟨TxtK.kit_Print_Reader⟩
instance : Kit K (.ref (He.ga K ("Print" : Str))) (.ref (He.ga K ("Set" : Str))) false := ⟨TxtK.kit_Print_Set⟩
instance : Kit K (.ref (He.ga K ("Print" : Str))) (.ref (He.ga K ("Step" : Str))) true := ⟨TxtK.kit_Print_Step⟩
instance : Kit K (.ref (He.ga K ("Print" : Str))) (.ref (He.ga K ("Take" : Str))) false := ⟨TxtK.kit_Print_Take⟩
instance : Kit K (.ref (He.ga K ("Print" : Str))) (.ref (He.ga K ("Test" : Str))) false := ⟨TxtK.kit_Print_Test⟩
instance : Kit K (.ref (He.ga K ("Print" : Str))) (.ref (He.ga K ("Work" : Str))) false := ⟨TxtK.kit_Print_Work⟩
instance : Kit K (.ref (He.ga K ("Print" : Str))) (.ref (He.ga K ("Writer" : Str))) false := ⟨TxtK.kit_Print_Writer⟩
instance : Kit K (.ref (He.ga K ("Reader" : Str))) (.ref (He.ga K ("Block" : Str))) false := ⟨TxtK.kit_Reader_Block⟩
instance : Kit K (.ref (He.ga K ("Reader" : Str))) (.ref (He.ga K ("Call" : Str))) false := ⟨TxtK.kit_Reader_Call⟩
instance : Kit K (.ref (He.ga K ("Reader" : Str))) (.ref (He.ga K ("Guard" : Str))) false := ⟨TxtK.kit_Reader_Guard⟩
instance : Kit K (.ref (He.ga K ("Reader" : Str))) (.ref (He.ga K ("Holder" : Str))) false := ⟨TxtK.kit_Reader_Holder⟩
instance : Kit K (.ref (He.ga K ("Reader" : Str))) (.ref (He.ga K ("Leave" : Str))) false := ⟨TxtK.kit_Reader_Leave⟩
instance : Kit K (.ref (He.ga K ("Reader" : Str))) (.ref (He.ga K ("Loop" : Str))) false := ⟨TxtK.kit_Reader_Loop⟩
instance : Kit K (.ref (He.ga K ("Reader" : Str))) (.ref (He.ga K ("Print" : Str))) false := ⟨TxtK.kit_Reader_Print⟩
instance : Kit K (.ref (He.ga K ("Reader" : Str))) (.ref (He.ga K ("Reader" : Str))) true := ⟨TxtK.kit_Reader_Reader⟩
instance : Kit K (.ref (He.ga K ("Reader" : Str))) (.ref (He.ga K ("Set" : Str))) false := ⟨TxtK.kit_Reader_Set⟩
instance : Kit K (.ref (He.ga K ("Reader" : Str))) (.ref (He.ga K ("Step" : Str))) true := ⟨TxtK.kit_Reader_Step⟩
instance : Kit K (.ref (He.ga K ("Reader" : Str))) (.ref (He.ga K ("Take" : Str))) false := ⟨TxtK.kit_Reader_Take⟩
instance : Kit K (.ref (He.ga K ("Reader" : Str))) (.ref (He.ga K ("Test" : Str))) false := ⟨TxtK.kit_Reader_Test⟩
instance : Kit K (.ref (He.ga K ("Reader" : Str))) (.ref (He.ga K ("Work" : Str))) false := ⟨TxtK.kit_Reader_Work⟩
instance : Kit K (.ref (He.ga K ("Reader" : Str))) (.ref (He.ga K ("Writer" : Str))) false := ⟨TxtK.kit_Reader_Writer⟩
instance : Kit K (.ref (He.ga K ("Set" : Str))) (.ref (He.ga K ("Block" : Str))) false := ⟨TxtK.kit_Set_Block⟩
instance : Kit K (.ref (He.ga K ("Set" : Str))) (.ref (He.ga K ("Call" : Str))) false := ⟨TxtK.kit_Set_Call⟩
instance : Kit K (.ref (He.ga K ("Set" : Str))) (.ref (He.ga K ("Guard" : Str))) false := ⟨TxtK.kit_Set_Guard⟩
instance : Kit K (.ref (He.ga K ("Set" : Str))) (.ref (He.ga K ("Holder" : Str))) false := ⟨TxtK.kit_Set_Holder⟩
instance : Kit K (.ref (He.ga K ("Set" : Str))) (.ref (He.ga K ("Leave" : Str))) false := ⟨TxtK.kit_Set_Leave⟩
instance : Kit K (.ref (He.ga K ("Set" : Str))) (.ref (He.ga K ("Loop" : Str))) false := ⟨TxtK.kit_Set_Loop⟩
instance : Kit K (.ref (He.ga K ("Set" : Str))) (.ref (He.ga K ("Print" : Str))) false := ⟨TxtK.kit_Set_Print⟩
instance : Kit K (.ref (He.ga K ("Set" : Str))) (.ref (He.ga K ("Reader" : Str))) false := ⟨TxtK.kit_Set_Reader⟩
instance : Kit K (.ref (He.ga K ("Set" : Str))) (.ref (He.ga K ("Set" : Str))) true := ⟨TxtK.kit_Set_Set⟩
instance : Kit K (.ref (He.ga K ("Set" : Str))) (.ref (He.ga K ("Step" : Str))) true := ⟨TxtK.kit_Set_Step⟩
instance : Kit K (.ref (He.ga K ("Set" : Str))) (.ref (He.ga K ("Take" : Str))) false := ⟨TxtK.kit_Set_Take⟩
instance : Kit K (.ref (He.ga K ("Set" : Str))) (.ref (He.ga K ("Test" : Str))) false := ⟨TxtK.kit_Set_Test⟩
instance : Kit K (.ref (He.ga K ("Set" : Str))) (.ref (He.ga K ("Work" : Str))) false := ⟨TxtK.kit_Set_Work⟩
instance : Kit K (.ref (He.ga K ("Set" : Str))) (.ref (He.ga K ("Writer" : Str))) true := ⟨TxtK.kit_Set_Writer⟩
instance : Kit K (.ref (He.ga K ("Step" : Str))) (.ref (He.ga K ("Block" : Str))) false := ⟨TxtK.kit_Step_Block⟩
instance : Kit K (.ref (He.ga K ("Step" : Str))) (.ref (He.ga K ("Call" : Str))) false := ⟨TxtK.kit_Step_Call⟩
instance : Kit K (.ref (He.ga K ("Step" : Str))) (.ref (He.ga K ("Guard" : Str))) false := ⟨TxtK.kit_Step_Guard⟩
instance : Kit K (.ref (He.ga K ("Step" : Str))) (.ref (He.ga K ("Holder" : Str))) false := ⟨TxtK.kit_Step_Holder⟩
instance : Kit K (.ref (He.ga K ("Step" : Str))) (.ref (He.ga K ("Leave" : Str))) false := ⟨TxtK.kit_Step_Leave⟩
instance : Kit K (.ref (He.ga K ("Step" : Str))) (.ref (He.ga K ("Loop" : Str))) false := ⟨TxtK.kit_Step_Loop⟩
instance : Kit K (.ref (He.ga K ("Step" : Str))) (.ref (He.ga K ("Print" : Str))) false := ⟨TxtK.kit_Step_Print⟩
instance : Kit K (.ref (He.ga K ("Step" : Str))) (.ref (He.ga K ("Reader" : Str))) false := ⟨TxtK.kit_Step_Reader⟩
instance : Kit K (.ref (He.ga K ("Step" : Str))) (.ref (He.ga K ("Set" : Str))) false := ⟨TxtK.kit_Step_Set⟩
instance : Kit K (.ref (He.ga K ("Step" : Str))) (.ref (He.ga K ("Step" : Str))) true := ⟨TxtK.kit_Step_Step⟩
instance : Kit K (.ref (He.ga K ("Step" : Str))) (.ref (He.ga K ("Take" : Str))) false := ⟨TxtK.kit_Step_Take⟩
instance : Kit K (.ref (He.ga K ("Step" : Str))) (.ref (He.ga K ("Test" : Str))) false := ⟨TxtK.kit_Step_Test⟩
instance : Kit K (.ref (He.ga K ("Step" : Str))) (.ref (He.ga K ("Work" : Str))) false := ⟨TxtK.kit_Step_Work⟩
instance : Kit K (.ref (He.ga K ("Step" : Str))) (.ref (He.ga K ("Writer" : Str))) false := ⟨TxtK.kit_Step_Writer⟩
instance : Kit K (.ref (He.ga K ("Take" : Str))) (.ref (He.ga K ("Block" : Str))) false := ⟨TxtK.kit_Take_Block⟩
instance : Kit K (.ref (He.ga K ("Take" : Str))) (.ref (He.ga K ("Call" : Str))) false := ⟨TxtK.kit_Take_Call⟩
instance : Kit K (.ref (He.ga K ("Take" : Str))) (.ref (He.ga K ("Guard" : Str))) false := ⟨TxtK.kit_Take_Guard⟩
instance : Kit K (.ref (He.ga K ("Take" : Str))) (.ref (He.ga K ("Holder" : Str))) false := ⟨TxtK.kit_Take_Holder⟩
instance : Kit K (.ref (He.ga K ("Take" : Str))) (.ref (He.ga K ("Leave" : Str))) false := ⟨TxtK.kit_Take_Leave⟩
instance : Kit K (.ref (He.ga K ("Take" : Str))) (.ref (He.ga K ("Loop" : Str))) false := ⟨TxtK.kit_Take_Loop⟩
instance : Kit K (.ref (He.ga K ("Take" : Str))) (.ref (He.ga K ("Print" : Str))) false := ⟨TxtK.kit_Take_Print⟩
instance : Kit K (.ref (He.ga K ("Take" : Str))) (.ref (He.ga K ("Reader" : Str))) false := ⟨TxtK.kit_Take_Reader⟩
instance : Kit K (.ref (He.ga K ("Take" : Str))) (.ref (He.ga K ("Set" : Str))) false := ⟨TxtK.kit_Take_Set⟩
instance : Kit K (.ref (He.ga K ("Take" : Str))) (.ref (He.ga K ("Step" : Str))) true := ⟨TxtK.kit_Take_Step⟩
instance : Kit K (.ref (He.ga K ("Take" : Str))) (.ref (He.ga K ("Take" : Str))) true := ⟨TxtK.kit_Take_Take⟩
instance : Kit K (.ref (He.ga K ("Take" : Str))) (.ref (He.ga K ("Test" : Str))) false := ⟨TxtK.kit_Take_Test⟩
instance : Kit K (.ref (He.ga K ("Take" : Str))) (.ref (He.ga K ("Work" : Str))) false := ⟨TxtK.kit_Take_Work⟩
instance : Kit K (.ref (He.ga K ("Take" : Str))) (.ref (He.ga K ("Writer" : Str))) true := ⟨TxtK.kit_Take_Writer⟩
instance : Kit K (.ref (He.ga K ("Test" : Str))) (.ref (He.ga K ("Block" : Str))) false := ⟨TxtK.kit_Test_Block⟩
instance : Kit K (.ref (He.ga K ("Test" : Str))) (.ref (He.ga K ("Call" : Str))) false := ⟨TxtK.kit_Test_Call⟩
instance : Kit K (.ref (He.ga K ("Test" : Str))) (.ref (He.ga K ("Guard" : Str))) false := ⟨TxtK.kit_Test_Guard⟩
instance : Kit K (.ref (He.ga K ("Test" : Str))) (.ref (He.ga K ("Holder" : Str))) true := ⟨TxtK.kit_Test_Holder⟩
instance : Kit K (.ref (He.ga K ("Test" : Str))) (.ref (He.ga K ("Leave" : Str))) false := ⟨TxtK.kit_Test_Leave⟩
instance : Kit K (.ref (He.ga K ("Test" : Str))) (.ref (He.ga K ("Loop" : Str))) false := ⟨TxtK.kit_Test_Loop⟩
instance : Kit K (.ref (He.ga K ("Test" : Str))) (.ref (He.ga K ("Print" : Str))) false := ⟨TxtK.kit_Test_Print⟩
instance : Kit K (.ref (He.ga K ("Test" : Str))) (.ref (He.ga K ("Reader" : Str))) true := ⟨TxtK.kit_Test_Reader⟩
instance : Kit K (.ref (He.ga K ("Test" : Str))) (.ref (He.ga K ("Set" : Str))) false := ⟨TxtK.kit_Test_Set⟩
instance : Kit K (.ref (He.ga K ("Test" : Str))) (.ref (He.ga K ("Step" : Str))) true := ⟨TxtK.kit_Test_Step⟩
instance : Kit K (.ref (He.ga K ("Test" : Str))) (.ref (He.ga K ("Take" : Str))) false := ⟨TxtK.kit_Test_Take⟩
instance : Kit K (.ref (He.ga K ("Test" : Str))) (.ref (He.ga K ("Test" : Str))) true := ⟨TxtK.kit_Test_Test⟩
instance : Kit K (.ref (He.ga K ("Test" : Str))) (.ref (He.ga K ("Work" : Str))) false := ⟨TxtK.kit_Test_Work⟩
instance : Kit K (.ref (He.ga K ("Test" : Str))) (.ref (He.ga K ("Writer" : Str))) false := ⟨TxtK.kit_Test_Writer⟩
instance : Kit K (.ref (He.ga K ("Work" : Str))) (.ref (He.ga K ("Block" : Str))) false := ⟨TxtK.kit_Work_Block⟩
instance : Kit K (.ref (He.ga K ("Work" : Str))) (.ref (He.ga K ("Call" : Str))) false := ⟨TxtK.kit_Work_Call⟩
instance : Kit K (.ref (He.ga K ("Work" : Str))) (.ref (He.ga K ("Guard" : Str))) false := ⟨TxtK.kit_Work_Guard⟩
instance : Kit K (.ref (He.ga K ("Work" : Str))) (.ref (He.ga K ("Holder" : Str))) false := ⟨TxtK.kit_Work_Holder⟩
instance : Kit K (.ref (He.ga K ("Work" : Str))) (.ref (He.ga K ("Leave" : Str))) false := ⟨TxtK.kit_Work_Leave⟩
instance : Kit K (.ref (He.ga K ("Work" : Str))) (.ref (He.ga K ("Loop" : Str))) false := ⟨TxtK.kit_Work_Loop⟩
instance : Kit K (.ref (He.ga K ("Work" : Str))) (.ref (He.ga K ("Print" : Str))) false := ⟨TxtK.kit_Work_Print⟩
instance : Kit K (.ref (He.ga K ("Work" : Str))) (.ref (He.ga K ("Reader" : Str))) true := ⟨TxtK.kit_Work_Reader⟩
instance : Kit K (.ref (He.ga K ("Work" : Str))) (.ref (He.ga K ("Set" : Str))) false := ⟨TxtK.kit_Work_Set⟩
instance : Kit K (.ref (He.ga K ("Work" : Str))) (.ref (He.ga K ("Step" : Str))) true := ⟨TxtK.kit_Work_Step⟩
instance : Kit K (.ref (He.ga K ("Work" : Str))) (.ref (He.ga K ("Take" : Str))) false := ⟨TxtK.kit_Work_Take⟩
instance : Kit K (.ref (He.ga K ("Work" : Str))) (.ref (He.ga K ("Test" : Str))) false := ⟨TxtK.kit_Work_Test⟩
instance : Kit K (.ref (He.ga K ("Work" : Str))) (.ref (He.ga K ("Work" : Str))) true := ⟨TxtK.kit_Work_Work⟩
instance : Kit K (.ref (He.ga K ("Work" : Str))) (.ref (He.ga K ("Writer" : Str))) true := ⟨TxtK.kit_Work_Writer⟩
instance : Kit K (.ref (He.ga K ("Writer" : Str))) (.ref (He.ga K ("Block" : Str))) false := ⟨TxtK.kit_Writer_Block⟩
instance : Kit K (.ref (He.ga K ("Writer" : Str))) (.ref (He.ga K ("Call" : Str))) false := ⟨TxtK.kit_Writer_Call⟩
instance : Kit K (.ref (He.ga K ("Writer" : Str))) (.ref (He.ga K ("Guard" : Str))) false := ⟨TxtK.kit_Writer_Guard⟩
instance : Kit K (.ref (He.ga K ("Writer" : Str))) (.ref (He.ga K ("Holder" : Str))) false := ⟨TxtK.kit_Writer_Holder⟩
instance : Kit K (.ref (He.ga K ("Writer" : Str))) (.ref (He.ga K ("Leave" : Str))) false := ⟨TxtK.kit_Writer_Leave⟩
instance : Kit K (.ref (He.ga K ("Writer" : Str))) (.ref (He.ga K ("Loop" : Str))) false := ⟨TxtK.kit_Writer_Loop⟩
instance : Kit K (.ref (He.ga K ("Writer" : Str))) (.ref (He.ga K ("Print" : Str))) false := ⟨TxtK.kit_Writer_Print⟩
instance : Kit K (.ref (He.ga K ("Writer" : Str))) (.ref (He.ga K ("Reader" : Str))) false := ⟨TxtK.kit_Writer_Reader⟩
instance : Kit K (.ref (He.ga K ("Writer" : Str))) (.ref (He.ga K ("Set" : Str))) false := ⟨TxtK.kit_Writer_Set⟩
instance : Kit K (.ref (He.ga K ("Writer" : Str))) (.ref (He.ga K ("Step" : Str))) true := ⟨TxtK.kit_Writer_Step⟩
instance : Kit K (.ref (He.ga K ("Writer" : Str))) (.ref (He.ga K ("Take" : Str))) false := ⟨TxtK.kit_Writer_Take⟩
instance : Kit K (.ref (He.ga K ("Writer" : Str))) (.ref (He.ga K ("Test" : Str))) false := ⟨TxtK.kit_Writer_Test⟩
instance : Kit K (.ref (He.ga K ("Writer" : Str))) (.ref (He.ga K ("Work" : Str))) false := ⟨TxtK.kit_Writer_Work⟩
instance : Kit K (.ref (He.ga K ("Writer" : Str))) (.ref (He.ga K ("Writer" : Str))) true := ⟨TxtK.kit_Writer_Writer⟩
instance : Kit K (.type "int") (.ref (He.ga K ("Block" : Str))) false := ⟨TxtK.kit_int_Block⟩
instance : Kit K (.type "int") (.ref (He.ga K ("Call" : Str))) false := ⟨TxtK.kit_int_Call⟩
instance : Kit K (.type "int") (.ref (He.ga K ("Guard" : Str))) false := ⟨TxtK.kit_int_Guard⟩
instance : Kit K (.type "int") (.ref (He.ga K ("Holder" : Str))) false := ⟨TxtK.kit_int_Holder⟩
instance : Kit K (.type "int") (.ref (He.ga K ("Leave" : Str))) false := ⟨TxtK.kit_int_Leave⟩
instance : Kit K (.type "int") (.ref (He.ga K ("Loop" : Str))) false := ⟨TxtK.kit_int_Loop⟩
instance : Kit K (.type "int") (.ref (He.ga K ("Print" : Str))) false := ⟨TxtK.kit_int_Print⟩
instance : Kit K (.type "int") (.ref (He.ga K ("Reader" : Str))) false := ⟨TxtK.kit_int_Reader⟩
instance : Kit K (.type "int") (.ref (He.ga K ("Set" : Str))) false := ⟨TxtK.kit_int_Set⟩
instance : Kit K (.type "int") (.ref (He.ga K ("Step" : Str))) false := ⟨TxtK.kit_int_Step⟩
instance : Kit K (.type "int") (.ref (He.ga K ("Take" : Str))) false := ⟨TxtK.kit_int_Take⟩
instance : Kit K (.type "int") (.ref (He.ga K ("Test" : Str))) false := ⟨TxtK.kit_int_Test⟩
instance : Kit K (.type "int") (.ref (He.ga K ("Work" : Str))) false := ⟨TxtK.kit_int_Work⟩
instance : Kit K (.type "int") (.ref (He.ga K ("Writer" : Str))) false := ⟨TxtK.kit_int_Writer⟩
end
/-! ### each def keeps its reading -/
section
variable {w : World} {K : PySem.W.Frag} {mg : Str → Option Value} {base : Heap} {k : Nat}
theorem ok_Step_init (T : Txt K w mg) (G : AllOk prog w K mg base k) : FnOk prog w K mg base (L2.CX prog w) (lev (k + 1)) ((dm .Step_init).adr K) (fdAt K ((dm .Step_init).adr K)) (ps .Step_init) (Gam K w (k + 1) .Step_init) := by
  have S : FnScope N_Step_init (ps .Step_init) (defScope st_Step_init) := ⟨rfl, rfl, rfl, by decide +kernel, rfl, by decide +kernel, by decide +kernel⟩
  have nd := S.nd
  refine FunD.ok (k := 2 * k + 1) T.k.f_Step_init S (fun vs H Q E h => h.1) (fun cdv A outer s H vs Q E hr h => ⟨rd_Step_init K, ?_, h.2⟩)
  have hr0 : Room (lev k) _ := hr.mono (Nat.le_succ _)
  have tk : Takes (cxOf (L2.CX prog w) prog w K mg base N_Step_init ("Step.__init__" : Str) (defScope st_Step_init) ((dm .Step_init).adr K) cdv A outer s H E) (fun cls d _ H => E cls d H) := takes_of rfl rfl rfl rfl
  have hx : ∀ σ, PassesAt (L2.CX prog w) (cxOf (L2.CX prog w) prog w K mg base N_Step_init ("Step.__init__" : Str) (defScope st_Step_init) ((dm .Step_init).adr K) cdv A outer s H E) σ E := fun σ => passAt tk σ
  have hpo : PassesOwn (model prog w) _ _ (cxOf (L2.CX prog w) prog w K mg base N_Step_init ("Step.__init__" : Str) (defScope st_Step_init) ((dm .Step_init).adr K) cdv A outer s H E).xe := passes_of rfl
  exact (pss_cons (ps_fld (pv 0) (pv 1) rfl) (pss_cons (ps_fld (pv 0) (pv 2) rfl) (pss_cons (ps_fld (pv 0) (pv 3) rfl) (pss_cons (ps_fld (pv 0) pe_bl rfl) (pss_cons (ps_fld (pv 0) pe_int rfl) (pss_one (ps_for hpo rfl (pi_any (pv 3)) (pg_name (i := 4) nd rfl (by first | exact Or.inl rfl | exact Or.inr rfl)) (pss_one (ps_for hpo rfl (pi_any (pv 4)) (pg_name (i := 5) nd rfl (by first | exact Or.inl rfl | exact Or.inr rfl)) (pss_cons (ps_fld (pv 0) (pe_op op_addA (pe_fld (pv 0) rfl) (pe_callTy call_tupleA rfl T.z_tuple (by decide +kernel) (pa_cons (pe_lc (own := [(("name" : Str), 6)]) (by rfl) nd (pi_any (pe_fld (pv 5) rfl)) (blkOk_by (own := [(("name" : Str), 6)]) (N := N_Step_init) (sc := defScope st_Step_init) (by decide +kernel)) (fun _ _ _ _ _ => pg_name (i := 6) nd rfl (Or.inl rfl)) (fun _ _ _ _ _ => (pts_one (pt_cmpR (op_notInA (hu_of hr)) (pv 6) (pe_fld (pv 0) rfl) (by rfl)))) (fun _ _ _ _ _ => (pv 6))) pa_nil))) rfl) (pss_cons (ps_fld (pv 0) (pe_or (pe_fld (pv 0) rfl) (pe_one (pe_fld (pv 5) rfl))) rfl) (pss_one (ps_fld (pv 0) (pe_callB (call_max2I rfl) rfl T.z_max (by decide +kernel) (pa_cons (pe_callTy call_intA rfl T.z_int (by decide +kernel) (pa_cons (pe_fld (pv 0) rfl) pa_nil)) (pa_cons (pe_fld (pv 5) rfl) pa_nil))) rfl)))))))))))))
theorem ok_Take_init (T : Txt K w mg) (G : AllOk prog w K mg base k) : FnOk prog w K mg base (L2.CX prog w) (lev (k + 1)) ((dm .Take_init).adr K) (fdAt K ((dm .Take_init).adr K)) (ps .Take_init) (Gam K w (k + 1) .Take_init) := by
  have S : NScope N_Take_init (ps .Take_init) ["__class__"] (defScope st_Take_init) := nscope_by (by decide +kernel)
  have nd := S.nd
  refine FunC.ok (k := 2 * k + 1) T.k.f_Take_init (let ⟨oc, od, osl, z⟩ := T.k.su_Take_init.cell; ⟨oc, od, _, osl, z⟩) S (fun vs H Q E h => h.1) (fun A outer s H vs Q E hr h => ⟨rd_Take_init K (Gam K w k) E, ?_, h.2⟩)
  have hr0 : Room (lev k) _ := hr.mono (Nat.le_succ _)
  have tk : Takes (ccx (L2.CX prog w) prog w K mg base N_Take_init ("Take.__init__" : Str) (defScope st_Take_init) ((dm .Take_init).adr K) (cdAt K ((dm .Take_init).adr K)) (ccAt K ((dm .Take_init).adr K)) A outer s H E) (fun cls d _ H => E cls d H) := takes_of rfl rfl rfl rfl
  have hx : ∀ σ, PassesAt (L2.CX prog w) (ccx (L2.CX prog w) prog w K mg base N_Take_init ("Take.__init__" : Str) (defScope st_Take_init) ((dm .Take_init).adr K) (cdAt K ((dm .Take_init).adr K)) (ccAt K ((dm .Take_init).adr K)) A outer s H E) σ E := fun σ => passAt tk σ
  have hpo : PassesOwn (model prog w) _ _ (ccx (L2.CX prog w) prog w K mg base N_Take_init ("Take.__init__" : Str) (defScope st_Take_init) ((dm .Take_init).adr K) (cdAt K ((dm .Take_init).adr K)) (ccAt K ((dm .Take_init).adr K)) A outer s H E).xe := passes_of rfl
  exact (psa_sup (D := He.ga K ("Take" : Str)) T.k.su_Take_init (fa_cons T.k.sc_Take_Take_init fa_nil) (G .Step_init) hr0 T.k.b_Step_init_4 hx (pa_cons (pe_tup (pa_cons (pv 1) pa_nil)) (pa_cons (pe_tup pa_nil) (pa_cons (pe_tup pa_nil) pa_nil))) T.z_super rfl rfl rfl rfl (psa_of (pss_one (ps_fld (pv 0) (pv 2) rfl))))
theorem ok_Take_row (T : Txt K w mg) (G : AllOk prog w K mg base k) : FnOk prog w K mg base (L2.CX prog w) (lev (k + 1)) ((dm .Take_row).adr K) (fdAt K ((dm .Take_row).adr K)) (ps .Take_row) (Gam K w (k + 1) .Take_row) := by
  have S : FnScope N_Take_row (ps .Take_row) (defScope st_Take_row) := ⟨rfl, rfl, rfl, by decide +kernel, rfl, by decide +kernel, by decide +kernel⟩
  have nd := S.nd
  refine FunD.ok (k := 2 * k + 1) T.k.f_Take_row S (fun vs H Q E h => h.1) (fun cdv A outer s H vs Q E hr h => ⟨rd_Take_row K, ?_, h.2⟩)
  have hr0 : Room (lev k) _ := hr.mono (Nat.le_succ _)
  have tk : Takes (cxOf (L2.CX prog w) prog w K mg base N_Take_row ("Take.row" : Str) (defScope st_Take_row) ((dm .Take_row).adr K) cdv A outer s H E) (fun cls d _ H => E cls d H) := takes_of rfl rfl rfl rfl
  have hx : ∀ σ, PassesAt (L2.CX prog w) (cxOf (L2.CX prog w) prog w K mg base N_Take_row ("Take.row" : Str) (defScope st_Take_row) ((dm .Take_row).adr K) cdv A outer s H E) σ E := fun σ => passAt tk σ
  have hpo : PassesOwn (model prog w) _ _ (cxOf (L2.CX prog w) prog w K mg base N_Take_row ("Take.row" : Str) (defScope st_Take_row) ((dm .Take_row).adr K) cdv A outer s H E).xe := passes_of rfl
  exact (pss_one (ps_ret (pe_tup (pa_cons pe_str (pa_cons (pe_ix ix_seq (pe_fld (pv 0) rfl) pe_int (fun _ _ => rfl)) (pa_cons (pe_fld (pv 0) rfl) pa_nil))))))
theorem ok_Set_init (T : Txt K w mg) (G : AllOk prog w K mg base k) : FnOk prog w K mg base (L2.CX prog w) (lev (k + 1)) ((dm .Set_init).adr K) (fdAt K ((dm .Set_init).adr K)) (ps .Set_init) (Gam K w (k + 1) .Set_init) := by
  have S : NScope N_Set_init (ps .Set_init) ["__class__"] (defScope st_Set_init) := nscope_by (by decide +kernel)
  have nd := S.nd
  refine FunC.ok (k := 2 * k + 1) T.k.f_Set_init (let ⟨oc, od, osl, z⟩ := T.k.su_Set_init.cell; ⟨oc, od, _, osl, z⟩) S (fun vs H Q E h => h.1) (fun A outer s H vs Q E hr h => ⟨rd_Set_init K (Gam K w k) E, ?_, h.2⟩)
  have hr0 : Room (lev k) _ := hr.mono (Nat.le_succ _)
  have tk : Takes (ccx (L2.CX prog w) prog w K mg base N_Set_init ("Set.__init__" : Str) (defScope st_Set_init) ((dm .Set_init).adr K) (cdAt K ((dm .Set_init).adr K)) (ccAt K ((dm .Set_init).adr K)) A outer s H E) (fun cls d _ H => E cls d H) := takes_of rfl rfl rfl rfl
  have hx : ∀ σ, PassesAt (L2.CX prog w) (ccx (L2.CX prog w) prog w K mg base N_Set_init ("Set.__init__" : Str) (defScope st_Set_init) ((dm .Set_init).adr K) (cdAt K ((dm .Set_init).adr K)) (ccAt K ((dm .Set_init).adr K)) A outer s H E) σ E := fun σ => passAt tk σ
  have hpo : PassesOwn (model prog w) _ _ (ccx (L2.CX prog w) prog w K mg base N_Set_init ("Set.__init__" : Str) (defScope st_Set_init) ((dm .Set_init).adr K) (cdAt K ((dm .Set_init).adr K)) (ccAt K ((dm .Set_init).adr K)) A outer s H E).xe := passes_of rfl
  exact (psa_sup (D := He.ga K ("Set" : Str)) T.k.su_Set_init (fa_cons T.k.sc_Set_Set_init fa_nil) (G .Step_init) hr0 T.k.b_Step_init_4 hx (pa_cons (pe_tup (pa_cons (pv 1) pa_nil)) (pa_cons (pe_tup pa_nil) (pa_cons (pe_tup pa_nil) pa_nil))) T.z_super rfl rfl rfl rfl (psa_of (pss_one (ps_fld (pv 0) (pv 2) rfl))))
theorem ok_Set_row (T : Txt K w mg) (G : AllOk prog w K mg base k) : FnOk prog w K mg base (L2.CX prog w) (lev (k + 1)) ((dm .Set_row).adr K) (fdAt K ((dm .Set_row).adr K)) (ps .Set_row) (Gam K w (k + 1) .Set_row) := by
  have S : FnScope N_Set_row (ps .Set_row) (defScope st_Set_row) := ⟨rfl, rfl, rfl, by decide +kernel, rfl, by decide +kernel, by decide +kernel⟩
  have nd := S.nd
  refine FunD.ok (k := 2 * k + 1) T.k.f_Set_row S (fun vs H Q E h => h.1) (fun cdv A outer s H vs Q E hr h => ⟨rd_Set_row K, ?_, h.2⟩)
  have hr0 : Room (lev k) _ := hr.mono (Nat.le_succ _)
  have tk : Takes (cxOf (L2.CX prog w) prog w K mg base N_Set_row ("Set.row" : Str) (defScope st_Set_row) ((dm .Set_row).adr K) cdv A outer s H E) (fun cls d _ H => E cls d H) := takes_of rfl rfl rfl rfl
  have hx : ∀ σ, PassesAt (L2.CX prog w) (cxOf (L2.CX prog w) prog w K mg base N_Set_row ("Set.row" : Str) (defScope st_Set_row) ((dm .Set_row).adr K) cdv A outer s H E) σ E := fun σ => passAt tk σ
  have hpo : PassesOwn (model prog w) _ _ (cxOf (L2.CX prog w) prog w K mg base N_Set_row ("Set.row" : Str) (defScope st_Set_row) ((dm .Set_row).adr K) cdv A outer s H E).xe := passes_of rfl
  exact (pss_one (ps_ret (pe_tup (pa_cons pe_str (pa_cons (pe_ix ix_seq (pe_fld (pv 0) rfl) pe_int (fun _ _ => rfl)) (pa_cons (pe_fld (pv 0) rfl) pa_nil))))))
theorem ok_Work_init (T : Txt K w mg) (G : AllOk prog w K mg base k) : FnOk prog w K mg base (L2.CX prog w) (lev (k + 1)) ((dm .Work_init).adr K) (fdAt K ((dm .Work_init).adr K)) (ps .Work_init) (Gam K w (k + 1) .Work_init) := by
  have S : NScope N_Work_init (ps .Work_init) ["__class__"] (defScope st_Work_init) := nscope_by (by decide +kernel)
  have nd := S.nd
  refine FunC.ok (k := 2 * k + 1) T.k.f_Work_init (let ⟨oc, od, osl, z⟩ := T.k.su_Work_init.cell; ⟨oc, od, _, osl, z⟩) S (fun vs H Q E h => h.1) (fun A outer s H vs Q E hr h => ⟨rd_Work_init K (Gam K w k) E, ?_, h.2⟩)
  have hr0 : Room (lev k) _ := hr.mono (Nat.le_succ _)
  have tk : Takes (ccx (L2.CX prog w) prog w K mg base N_Work_init ("Work.__init__" : Str) (defScope st_Work_init) ((dm .Work_init).adr K) (cdAt K ((dm .Work_init).adr K)) (ccAt K ((dm .Work_init).adr K)) A outer s H E) (fun cls d _ H => E cls d H) := takes_of rfl rfl rfl rfl
  have hx : ∀ σ, PassesAt (L2.CX prog w) (ccx (L2.CX prog w) prog w K mg base N_Work_init ("Work.__init__" : Str) (defScope st_Work_init) ((dm .Work_init).adr K) (cdAt K ((dm .Work_init).adr K)) (ccAt K ((dm .Work_init).adr K)) A outer s H E) σ E := fun σ => passAt tk σ
  have hpo : PassesOwn (model prog w) _ _ (ccx (L2.CX prog w) prog w K mg base N_Work_init ("Work.__init__" : Str) (defScope st_Work_init) ((dm .Work_init).adr K) (cdAt K ((dm .Work_init).adr K)) (ccAt K ((dm .Work_init).adr K)) A outer s H E).xe := passes_of rfl
  exact (psa_sup (D := He.ga K ("Work" : Str)) T.k.su_Work_init (fa_cons T.k.sc_Work_Work_init fa_nil) (G .Step_init) hr0 T.k.b_Step_init_4 hx (pa_cons (pe_tup (pa_cons (pv 1) pa_nil)) (pa_cons (pe_tup (pa_cons (pv 2) (pa_cons (pv 3) pa_nil))) (pa_cons (pe_tup pa_nil) pa_nil))) T.z_super rfl rfl rfl rfl (psa_of (pss_one (ps_fld (pv 0) (pv 4) rfl))))
theorem ok_Work_row (T : Txt K w mg) (G : AllOk prog w K mg base k) : FnOk prog w K mg base (L2.CX prog w) (lev (k + 1)) ((dm .Work_row).adr K) (fdAt K ((dm .Work_row).adr K)) (ps .Work_row) (Gam K w (k + 1) .Work_row) := by
  have S : FnScope N_Work_row (ps .Work_row) (defScope st_Work_row) := ⟨rfl, rfl, rfl, by decide +kernel, rfl, by decide +kernel, by decide +kernel⟩
  have nd := S.nd
  refine FunD.ok (k := 2 * k + 1) T.k.f_Work_row S (fun vs H Q E h => h.1) (fun cdv A outer s H vs Q E hr h => ⟨rd_Work_row K, ?_, h.2⟩)
  have hr0 : Room (lev k) _ := hr.mono (Nat.le_succ _)
  have tk : Takes (cxOf (L2.CX prog w) prog w K mg base N_Work_row ("Work.row" : Str) (defScope st_Work_row) ((dm .Work_row).adr K) cdv A outer s H E) (fun cls d _ H => E cls d H) := takes_of rfl rfl rfl rfl
  have hx : ∀ σ, PassesAt (L2.CX prog w) (cxOf (L2.CX prog w) prog w K mg base N_Work_row ("Work.row" : Str) (defScope st_Work_row) ((dm .Work_row).adr K) cdv A outer s H E) σ E := fun σ => passAt tk σ
  have hpo : PassesOwn (model prog w) _ _ (cxOf (L2.CX prog w) prog w K mg base N_Work_row ("Work.row" : Str) (defScope st_Work_row) ((dm .Work_row).adr K) cdv A outer s H E).xe := passes_of rfl
  exact (pss_one (ps_ret (pe_tup (pa_cons pe_str (pa_cons (pe_ix ix_seq (pe_fld (pv 0) rfl) pe_int (fun _ _ => rfl)) (pa_cons (pe_ix ix_seq (pe_fld (pv 0) rfl) pe_int (fun _ _ => rfl)) (pa_cons (pe_ix ix_seq (pe_fld (pv 0) rfl) pe_int (fun _ _ => rfl)) (pa_cons (pe_fld (pv 0) rfl) pa_nil))))))))
theorem ok_Print_init (T : Txt K w mg) (G : AllOk prog w K mg base k) : FnOk prog w K mg base (L2.CX prog w) (lev (k + 1)) ((dm .Print_init).adr K) (fdAt K ((dm .Print_init).adr K)) (ps .Print_init) (Gam K w (k + 1) .Print_init) := by
  have S : NScope N_Print_init (ps .Print_init) ["__class__"] (defScope st_Print_init) := nscope_by (by decide +kernel)
  have nd := S.nd
  refine FunC.ok (k := 2 * k + 1) T.k.f_Print_init (let ⟨oc, od, osl, z⟩ := T.k.su_Print_init.cell; ⟨oc, od, _, osl, z⟩) S (fun vs H Q E h => h.1) (fun A outer s H vs Q E hr h => ⟨rd_Print_init K (Gam K w k) E, ?_, h.2⟩)
  have hr0 : Room (lev k) _ := hr.mono (Nat.le_succ _)
  have tk : Takes (ccx (L2.CX prog w) prog w K mg base N_Print_init ("Print.__init__" : Str) (defScope st_Print_init) ((dm .Print_init).adr K) (cdAt K ((dm .Print_init).adr K)) (ccAt K ((dm .Print_init).adr K)) A outer s H E) (fun cls d _ H => E cls d H) := takes_of rfl rfl rfl rfl
  have hx : ∀ σ, PassesAt (L2.CX prog w) (ccx (L2.CX prog w) prog w K mg base N_Print_init ("Print.__init__" : Str) (defScope st_Print_init) ((dm .Print_init).adr K) (cdAt K ((dm .Print_init).adr K)) (ccAt K ((dm .Print_init).adr K)) A outer s H E) σ E := fun σ => passAt tk σ
  have hpo : PassesOwn (model prog w) _ _ (ccx (L2.CX prog w) prog w K mg base N_Print_init ("Print.__init__" : Str) (defScope st_Print_init) ((dm .Print_init).adr K) (cdAt K ((dm .Print_init).adr K)) (ccAt K ((dm .Print_init).adr K)) A outer s H E).xe := passes_of rfl
  exact (psa_sup (D := He.ga K ("Print" : Str)) T.k.su_Print_init (fa_cons T.k.sc_Print_Print_init fa_nil) (G .Step_init) hr0 T.k.b_Step_init_4 hx (pa_cons (pe_tup pa_nil) (pa_cons (pe_tup (pa_cons (pv 2) pa_nil)) (pa_cons (pe_tup pa_nil) pa_nil))) T.z_super rfl rfl rfl rfl (psa_of (pss_one (ps_fld (pv 0) (pv 1) rfl))))
theorem ok_Print_row (T : Txt K w mg) (G : AllOk prog w K mg base k) : FnOk prog w K mg base (L2.CX prog w) (lev (k + 1)) ((dm .Print_row).adr K) (fdAt K ((dm .Print_row).adr K)) (ps .Print_row) (Gam K w (k + 1) .Print_row) := by
  have S : FnScope N_Print_row (ps .Print_row) (defScope st_Print_row) := ⟨rfl, rfl, rfl, by decide +kernel, rfl, by decide +kernel, by decide +kernel⟩
  have nd := S.nd
  refine FunD.ok (k := 2 * k + 1) T.k.f_Print_row S (fun vs H Q E h => h.1) (fun cdv A outer s H vs Q E hr h => ⟨rd_Print_row K, ?_, h.2⟩)
  have hr0 : Room (lev k) _ := hr.mono (Nat.le_succ _)
  have tk : Takes (cxOf (L2.CX prog w) prog w K mg base N_Print_row ("Print.row" : Str) (defScope st_Print_row) ((dm .Print_row).adr K) cdv A outer s H E) (fun cls d _ H => E cls d H) := takes_of rfl rfl rfl rfl
  have hx : ∀ σ, PassesAt (L2.CX prog w) (cxOf (L2.CX prog w) prog w K mg base N_Print_row ("Print.row" : Str) (defScope st_Print_row) ((dm .Print_row).adr K) cdv A outer s H E) σ E := fun σ => passAt tk σ
  have hpo : PassesOwn (model prog w) _ _ (cxOf (L2.CX prog w) prog w K mg base N_Print_row ("Print.row" : Str) (defScope st_Print_row) ((dm .Print_row).adr K) cdv A outer s H E).xe := passes_of rfl
  exact (pss_one (ps_ret (pe_tup (pa_cons pe_str (pa_cons (pe_fld (pv 0) rfl) (pa_cons (pe_ix ix_seq (pe_fld (pv 0) rfl) pe_int (fun _ _ => rfl)) pa_nil))))))
theorem ok_Test_init (T : Txt K w mg) (G : AllOk prog w K mg base k) : FnOk prog w K mg base (L2.CX prog w) (lev (k + 1)) ((dm .Test_init).adr K) (fdAt K ((dm .Test_init).adr K)) (ps .Test_init) (Gam K w (k + 1) .Test_init) := by
  have S : NScope N_Test_init (ps .Test_init) ["__class__"] (defScope st_Test_init) := nscope_by (by decide +kernel)
  have nd := S.nd
  refine FunC.ok (k := 2 * k + 1) T.k.f_Test_init (let ⟨oc, od, osl, z⟩ := T.k.su_Test_init.cell; ⟨oc, od, _, osl, z⟩) S (fun vs H Q E h => h.1) (fun A outer s H vs Q E hr h => ⟨rd_Test_init K (Gam K w k) E, ?_, h.2⟩)
  have hr0 : Room (lev k) _ := hr.mono (Nat.le_succ _)
  have tk : Takes (ccx (L2.CX prog w) prog w K mg base N_Test_init ("Test.__init__" : Str) (defScope st_Test_init) ((dm .Test_init).adr K) (cdAt K ((dm .Test_init).adr K)) (ccAt K ((dm .Test_init).adr K)) A outer s H E) (fun cls d _ H => E cls d H) := takes_of rfl rfl rfl rfl
  have hx : ∀ σ, PassesAt (L2.CX prog w) (ccx (L2.CX prog w) prog w K mg base N_Test_init ("Test.__init__" : Str) (defScope st_Test_init) ((dm .Test_init).adr K) (cdAt K ((dm .Test_init).adr K)) (ccAt K ((dm .Test_init).adr K)) A outer s H E) σ E := fun σ => passAt tk σ
  have hpo : PassesOwn (model prog w) _ _ (ccx (L2.CX prog w) prog w K mg base N_Test_init ("Test.__init__" : Str) (defScope st_Test_init) ((dm .Test_init).adr K) (cdAt K ((dm .Test_init).adr K)) (ccAt K ((dm .Test_init).adr K)) A outer s H E).xe := passes_of rfl
  exact (psa_sup (D := He.ga K ("Test" : Str)) T.k.su_Test_init (fa_cons T.k.sc_Test_Test_init fa_nil) (G .Step_init) hr0 T.k.b_Step_init_4 hx (pa_cons (pe_tup pa_nil) (pa_cons (pe_tup (pa_cons (pv 1) pa_nil)) (pa_cons (pe_tup (pa_cons (pv 2) (pa_cons (pv 3) pa_nil))) pa_nil))) T.z_super rfl rfl rfl rfl (psa_of pss_nil))
theorem ok_Test_row (T : Txt K w mg) (G : AllOk prog w K mg base k) : FnOk prog w K mg base (L2.CX prog w) (lev (k + 1)) ((dm .Test_row).adr K) (fdAt K ((dm .Test_row).adr K)) (ps .Test_row) (Gam K w (k + 1) .Test_row) := by
  have S : FnScope N_Test_row (ps .Test_row) (defScope st_Test_row) := ⟨rfl, rfl, rfl, by decide +kernel, rfl, by decide +kernel, by decide +kernel⟩
  have nd := S.nd
  refine FunD.ok (k := 2 * k + 1) T.k.f_Test_row S (fun vs H Q E h => h.1) (fun cdv A outer s H vs Q E hr h => ⟨rd_Test_row K (Gam K w k) E, ?_, h.2⟩)
  have hr0 : Room (lev k) _ := hr.mono (Nat.le_succ _)
  have tk : Takes (cxOf (L2.CX prog w) prog w K mg base N_Test_row ("Test.row" : Str) (defScope st_Test_row) ((dm .Test_row).adr K) cdv A outer s H E) (fun cls d _ H => E cls d H) := takes_of rfl rfl rfl rfl
  have hx : ∀ σ, PassesAt (L2.CX prog w) (cxOf (L2.CX prog w) prog w K mg base N_Test_row ("Test.row" : Str) (defScope st_Test_row) ((dm .Test_row).adr K) cdv A outer s H E) σ E := fun σ => passAt tk σ
  have hpo : PassesOwn (model prog w) _ _ (cxOf (L2.CX prog w) prog w K mg base N_Test_row ("Test.row" : Str) (defScope st_Test_row) ((dm .Test_row).adr K) cdv A outer s H E).xe := passes_of rfl
  exact (pss_one (ps_ret (pe_tup (pa_cons pe_str (pa_cons (pe_ix ix_seq (pe_fld (pv 0) rfl) pe_int (fun _ _ => rfl)) (pa_cons (pe_callSD (G .rows_of) hr0 rfl T.g_rows_of (T.k.f_rows_of).kp T.k.b_rows_of_1 .nil hx (pa_cons (pe_ix ix_seq (pe_fld (pv 0) rfl) pe_int (fun _ _ => rfl)) pa_nil)) (pa_cons (pe_callSD (G .rows_of) hr0 rfl T.g_rows_of (T.k.f_rows_of).kp T.k.b_rows_of_1 .nil hx (pa_cons (pe_ix ix_seq (pe_fld (pv 0) rfl) pe_int (fun _ _ => rfl)) pa_nil)) pa_nil)))))))
theorem ok_Block_init (T : Txt K w mg) (G : AllOk prog w K mg base k) : FnOk prog w K mg base (L2.CX prog w) (lev (k + 1)) ((dm .Block_init).adr K) (fdAt K ((dm .Block_init).adr K)) (ps .Block_init) (Gam K w (k + 1) .Block_init) := by
  have S : NScope N_Block_init (ps .Block_init) ["__class__"] (defScope st_Block_init) := nscope_by (by decide +kernel)
  have nd := S.nd
  refine FunC.ok (k := 2 * k + 1) T.k.f_Block_init (let ⟨oc, od, osl, z⟩ := T.k.su_Block_init.cell; ⟨oc, od, _, osl, z⟩) S (fun vs H Q E h => h.1) (fun A outer s H vs Q E hr h => ⟨rd_Block_init K (Gam K w k) E, ?_, h.2⟩)
  have hr0 : Room (lev k) _ := hr.mono (Nat.le_succ _)
  have tk : Takes (ccx (L2.CX prog w) prog w K mg base N_Block_init ("Block.__init__" : Str) (defScope st_Block_init) ((dm .Block_init).adr K) (cdAt K ((dm .Block_init).adr K)) (ccAt K ((dm .Block_init).adr K)) A outer s H E) (fun cls d _ H => E cls d H) := takes_of rfl rfl rfl rfl
  have hx : ∀ σ, PassesAt (L2.CX prog w) (ccx (L2.CX prog w) prog w K mg base N_Block_init ("Block.__init__" : Str) (defScope st_Block_init) ((dm .Block_init).adr K) (cdAt K ((dm .Block_init).adr K)) (ccAt K ((dm .Block_init).adr K)) A outer s H E) σ E := fun σ => passAt tk σ
  have hpo : PassesOwn (model prog w) _ _ (ccx (L2.CX prog w) prog w K mg base N_Block_init ("Block.__init__" : Str) (defScope st_Block_init) ((dm .Block_init).adr K) (cdAt K ((dm .Block_init).adr K)) (ccAt K ((dm .Block_init).adr K)) A outer s H E).xe := passes_of rfl
  exact (psa_sup (D := He.ga K ("Block" : Str)) T.k.su_Block_init (fa_cons T.k.sc_Block_Block_init (fa_cons T.k.sc_Loop_Block_init (fa_cons T.k.sc_Guard_Block_init (fa_cons T.k.sc_Call_Block_init fa_nil)))) (G .Step_init) hr0 T.k.b_Step_init_4 hx (pa_cons (pe_tup pa_nil) (pa_cons (pv 2) (pa_cons (pv 3) pa_nil))) T.z_super rfl rfl rfl rfl (psa_of (pss_cons (ps_fld (pv 0) (pv 1) rfl) (pss_cons (ps_fld (pv 0) (pe_fld (pv 0) rfl) rfl) (pss_one (ps_fld (pv 0) pe_bl rfl))))))
theorem ok_Loop_init (T : Txt K w mg) (G : AllOk prog w K mg base k) : FnOk prog w K mg base (L2.CX prog w) (lev (k + 1)) ((dm .Loop_init).adr K) (fdAt K ((dm .Loop_init).adr K)) (ps .Loop_init) (Gam K w (k + 1) .Loop_init) := by
  have S : NScope N_Loop_init (ps .Loop_init) ["__class__"] (defScope st_Loop_init) := nscope_by (by decide +kernel)
  have nd := S.nd
  refine FunC.ok (k := 2 * k + 1) T.k.f_Loop_init (let ⟨oc, od, osl, z⟩ := T.k.su_Loop_init.cell; ⟨oc, od, _, osl, z⟩) S (fun vs H Q E h => h.1) (fun A outer s H vs Q E hr h => ⟨rd_Loop_init K (Gam K w k) E, ?_, h.2⟩)
  have hr0 : Room (lev k) _ := hr.mono (Nat.le_succ _)
  have tk : Takes (ccx (L2.CX prog w) prog w K mg base N_Loop_init ("Loop.__init__" : Str) (defScope st_Loop_init) ((dm .Loop_init).adr K) (cdAt K ((dm .Loop_init).adr K)) (ccAt K ((dm .Loop_init).adr K)) A outer s H E) (fun cls d _ H => E cls d H) := takes_of rfl rfl rfl rfl
  have hx : ∀ σ, PassesAt (L2.CX prog w) (ccx (L2.CX prog w) prog w K mg base N_Loop_init ("Loop.__init__" : Str) (defScope st_Loop_init) ((dm .Loop_init).adr K) (cdAt K ((dm .Loop_init).adr K)) (ccAt K ((dm .Loop_init).adr K)) A outer s H E) σ E := fun σ => passAt tk σ
  have hpo : PassesOwn (model prog w) _ _ (ccx (L2.CX prog w) prog w K mg base N_Loop_init ("Loop.__init__" : Str) (defScope st_Loop_init) ((dm .Loop_init).adr K) (cdAt K ((dm .Loop_init).adr K)) (ccAt K ((dm .Loop_init).adr K)) A outer s H E).xe := passes_of rfl
  exact (psa_sup (D := He.ga K ("Loop" : Str)) T.k.su_Loop_init (fa_cons T.k.sc_Loop_Loop_init fa_nil) (G .Block_init) hr0 T.k.b_Block_init_4 hx (pa_cons pe_str (pa_cons (pe_tup (pa_cons (pv 1) pa_nil)) (pa_cons (pe_tup (pa_cons (pv 3) pa_nil)) pa_nil))) T.z_super rfl rfl rfl rfl (psa_of (pss_cons (ps_fld (pv 0) (pv 2) rfl) (pss_one (ps_fld (pv 0) (pe_op op_addA pe_int (pe_fld (pv 0) rfl)) rfl)))))
theorem ok_Loop_row (T : Txt K w mg) (G : AllOk prog w K mg base k) : FnOk prog w K mg base (L2.CX prog w) (lev (k + 1)) ((dm .Loop_row).adr K) (fdAt K ((dm .Loop_row).adr K)) (ps .Loop_row) (Gam K w (k + 1) .Loop_row) := by
  have S : FnScope N_Loop_row (ps .Loop_row) (defScope st_Loop_row) := ⟨rfl, rfl, rfl, by decide +kernel, rfl, by decide +kernel, by decide +kernel⟩
  have nd := S.nd
  refine FunD.ok (k := 2 * k + 1) T.k.f_Loop_row S (fun vs H Q E h => h.1) (fun cdv A outer s H vs Q E hr h => ⟨rd_Loop_row K (Gam K w k) E, ?_, h.2⟩)
  have hr0 : Room (lev k) _ := hr.mono (Nat.le_succ _)
  have tk : Takes (cxOf (L2.CX prog w) prog w K mg base N_Loop_row ("Loop.row" : Str) (defScope st_Loop_row) ((dm .Loop_row).adr K) cdv A outer s H E) (fun cls d _ H => E cls d H) := takes_of rfl rfl rfl rfl
  have hx : ∀ σ, PassesAt (L2.CX prog w) (cxOf (L2.CX prog w) prog w K mg base N_Loop_row ("Loop.row" : Str) (defScope st_Loop_row) ((dm .Loop_row).adr K) cdv A outer s H E) σ E := fun σ => passAt tk σ
  have hpo : PassesOwn (model prog w) _ _ (cxOf (L2.CX prog w) prog w K mg base N_Loop_row ("Loop.row" : Str) (defScope st_Loop_row) ((dm .Loop_row).adr K) cdv A outer s H E).xe := passes_of rfl
  exact (pss_one (ps_ret (pe_tup (pa_cons pe_str (pa_cons (pe_ix ix_seq (pe_fld (pv 0) rfl) pe_int (fun _ _ => rfl)) (pa_cons (pe_fld (pv 0) rfl) (pa_cons (pe_callSD (G .rows_of) hr0 rfl T.g_rows_of (T.k.f_rows_of).kp T.k.b_rows_of_1 .nil hx (pa_cons (pe_ix ix_seq (pe_fld (pv 0) rfl) pe_int (fun _ _ => rfl)) pa_nil)) pa_nil)))))))
theorem ok_Guard_init (T : Txt K w mg) (G : AllOk prog w K mg base k) : FnOk prog w K mg base (L2.CX prog w) (lev (k + 1)) ((dm .Guard_init).adr K) (fdAt K ((dm .Guard_init).adr K)) (ps .Guard_init) (Gam K w (k + 1) .Guard_init) := by
  have S : NScope N_Guard_init (ps .Guard_init) ["__class__"] (defScope st_Guard_init) := nscope_by (by decide +kernel)
  have nd := S.nd
  refine FunC.ok (k := 2 * k + 1) T.k.f_Guard_init (let ⟨oc, od, osl, z⟩ := T.k.su_Guard_init.cell; ⟨oc, od, _, osl, z⟩) S (fun vs H Q E h => h.1) (fun A outer s H vs Q E hr h => ⟨rd_Guard_init K (Gam K w k) E, ?_, h.2⟩)
  have hr0 : Room (lev k) _ := hr.mono (Nat.le_succ _)
  have tk : Takes (ccx (L2.CX prog w) prog w K mg base N_Guard_init ("Guard.__init__" : Str) (defScope st_Guard_init) ((dm .Guard_init).adr K) (cdAt K ((dm .Guard_init).adr K)) (ccAt K ((dm .Guard_init).adr K)) A outer s H E) (fun cls d _ H => E cls d H) := takes_of rfl rfl rfl rfl
  have hx : ∀ σ, PassesAt (L2.CX prog w) (ccx (L2.CX prog w) prog w K mg base N_Guard_init ("Guard.__init__" : Str) (defScope st_Guard_init) ((dm .Guard_init).adr K) (cdAt K ((dm .Guard_init).adr K)) (ccAt K ((dm .Guard_init).adr K)) A outer s H E) σ E := fun σ => passAt tk σ
  have hpo : PassesOwn (model prog w) _ _ (ccx (L2.CX prog w) prog w K mg base N_Guard_init ("Guard.__init__" : Str) (defScope st_Guard_init) ((dm .Guard_init).adr K) (cdAt K ((dm .Guard_init).adr K)) (ccAt K ((dm .Guard_init).adr K)) A outer s H E).xe := passes_of rfl
  exact (psa_sup (D := He.ga K ("Guard" : Str)) T.k.su_Guard_init (fa_cons T.k.sc_Guard_Guard_init fa_nil) (G .Block_init) hr0 T.k.b_Block_init_4 hx (pa_cons pe_str (pa_cons (pe_tup pa_nil) (pa_cons (pe_tup (pa_cons (pv 1) (pa_cons (pv 2) pa_nil))) pa_nil))) T.z_super rfl rfl rfl rfl (psa_of pss_nil))
theorem ok_Guard_row (T : Txt K w mg) (G : AllOk prog w K mg base k) : FnOk prog w K mg base (L2.CX prog w) (lev (k + 1)) ((dm .Guard_row).adr K) (fdAt K ((dm .Guard_row).adr K)) (ps .Guard_row) (Gam K w (k + 1) .Guard_row) := by
  have S : FnScope N_Guard_row (ps .Guard_row) (defScope st_Guard_row) := ⟨rfl, rfl, rfl, by decide +kernel, rfl, by decide +kernel, by decide +kernel⟩
  have nd := S.nd
  refine FunD.ok (k := 2 * k + 1) T.k.f_Guard_row S (fun vs H Q E h => h.1) (fun cdv A outer s H vs Q E hr h => ⟨rd_Guard_row K (Gam K w k) E, ?_, h.2⟩)
  have hr0 : Room (lev k) _ := hr.mono (Nat.le_succ _)
  have tk : Takes (cxOf (L2.CX prog w) prog w K mg base N_Guard_row ("Guard.row" : Str) (defScope st_Guard_row) ((dm .Guard_row).adr K) cdv A outer s H E) (fun cls d _ H => E cls d H) := takes_of rfl rfl rfl rfl
  have hx : ∀ σ, PassesAt (L2.CX prog w) (cxOf (L2.CX prog w) prog w K mg base N_Guard_row ("Guard.row" : Str) (defScope st_Guard_row) ((dm .Guard_row).adr K) cdv A outer s H E) σ E := fun σ => passAt tk σ
  have hpo : PassesOwn (model prog w) _ _ (cxOf (L2.CX prog w) prog w K mg base N_Guard_row ("Guard.row" : Str) (defScope st_Guard_row) ((dm .Guard_row).adr K) cdv A outer s H E).xe := passes_of rfl
  exact (pss_one (ps_ret (pe_tup (pa_cons pe_str (pa_cons (pe_callSD (G .rows_of) hr0 rfl T.g_rows_of (T.k.f_rows_of).kp T.k.b_rows_of_1 .nil hx (pa_cons (pe_ix ix_seq (pe_fld (pv 0) rfl) pe_int (fun _ _ => rfl)) pa_nil)) (pa_cons (pe_callSD (G .rows_of) hr0 rfl T.g_rows_of (T.k.f_rows_of).kp T.k.b_rows_of_1 .nil hx (pa_cons (pe_ix ix_seq (pe_fld (pv 0) rfl) pe_int (fun _ _ => rfl)) pa_nil)) pa_nil))))))
theorem ok_Call_init (T : Txt K w mg) (G : AllOk prog w K mg base k) : FnOk prog w K mg base (L2.CX prog w) (lev (k + 1)) ((dm .Call_init).adr K) (fdAt K ((dm .Call_init).adr K)) (ps .Call_init) (Gam K w (k + 1) .Call_init) := by
  have S : NScope N_Call_init (ps .Call_init) ["__class__"] (defScope st_Call_init) := nscope_by (by decide +kernel)
  have nd := S.nd
  refine FunC.ok (k := 2 * k + 1) T.k.f_Call_init (let ⟨oc, od, osl, z⟩ := T.k.su_Call_init.cell; ⟨oc, od, _, osl, z⟩) S (fun vs H Q E h => h.1) (fun A outer s H vs Q E hr h => ⟨rd_Call_init K (Gam K w k) E, ?_, h.2⟩)
  have hr0 : Room (lev k) _ := hr.mono (Nat.le_succ _)
  have tk : Takes (ccx (L2.CX prog w) prog w K mg base N_Call_init ("Call.__init__" : Str) (defScope st_Call_init) ((dm .Call_init).adr K) (cdAt K ((dm .Call_init).adr K)) (ccAt K ((dm .Call_init).adr K)) A outer s H E) (fun cls d _ H => E cls d H) := takes_of rfl rfl rfl rfl
  have hx : ∀ σ, PassesAt (L2.CX prog w) (ccx (L2.CX prog w) prog w K mg base N_Call_init ("Call.__init__" : Str) (defScope st_Call_init) ((dm .Call_init).adr K) (cdAt K ((dm .Call_init).adr K)) (ccAt K ((dm .Call_init).adr K)) A outer s H E) σ E := fun σ => passAt tk σ
  have hpo : PassesOwn (model prog w) _ _ (ccx (L2.CX prog w) prog w K mg base N_Call_init ("Call.__init__" : Str) (defScope st_Call_init) ((dm .Call_init).adr K) (cdAt K ((dm .Call_init).adr K)) (ccAt K ((dm .Call_init).adr K)) A outer s H E).xe := passes_of rfl
  exact (psa_sup (D := He.ga K ("Call" : Str)) T.k.su_Call_init (fa_cons T.k.sc_Call_Call_init fa_nil) (G .Block_init) hr0 T.k.b_Block_init_4 hx (pa_cons pe_str (pa_cons (pe_tup pa_nil) (pa_cons (pe_tup (pa_cons (pv 1) pa_nil)) pa_nil))) T.z_super rfl rfl rfl rfl (psa_of pss_nil))
theorem ok_Call_row (T : Txt K w mg) (G : AllOk prog w K mg base k) : FnOk prog w K mg base (L2.CX prog w) (lev (k + 1)) ((dm .Call_row).adr K) (fdAt K ((dm .Call_row).adr K)) (ps .Call_row) (Gam K w (k + 1) .Call_row) := by
  have S : FnScope N_Call_row (ps .Call_row) (defScope st_Call_row) := ⟨rfl, rfl, rfl, by decide +kernel, rfl, by decide +kernel, by decide +kernel⟩
  have nd := S.nd
  refine FunD.ok (k := 2 * k + 1) T.k.f_Call_row S (fun vs H Q E h => h.1) (fun cdv A outer s H vs Q E hr h => ⟨rd_Call_row K (Gam K w k) E, ?_, h.2⟩)
  have hr0 : Room (lev k) _ := hr.mono (Nat.le_succ _)
  have tk : Takes (cxOf (L2.CX prog w) prog w K mg base N_Call_row ("Call.row" : Str) (defScope st_Call_row) ((dm .Call_row).adr K) cdv A outer s H E) (fun cls d _ H => E cls d H) := takes_of rfl rfl rfl rfl
  have hx : ∀ σ, PassesAt (L2.CX prog w) (cxOf (L2.CX prog w) prog w K mg base N_Call_row ("Call.row" : Str) (defScope st_Call_row) ((dm .Call_row).adr K) cdv A outer s H E) σ E := fun σ => passAt tk σ
  have hpo : PassesOwn (model prog w) _ _ (cxOf (L2.CX prog w) prog w K mg base N_Call_row ("Call.row" : Str) (defScope st_Call_row) ((dm .Call_row).adr K) cdv A outer s H E).xe := passes_of rfl
  exact (pss_one (ps_ret (pe_tup (pa_cons pe_str (pa_cons (pe_callSD (G .rows_of) hr0 rfl T.g_rows_of (T.k.f_rows_of).kp T.k.b_rows_of_1 .nil hx (pa_cons (pe_ix ix_seq (pe_fld (pv 0) rfl) pe_int (fun _ _ => rfl)) pa_nil)) pa_nil)))))
theorem ok_Leave_init (T : Txt K w mg) (G : AllOk prog w K mg base k) : FnOk prog w K mg base (L2.CX prog w) (lev (k + 1)) ((dm .Leave_init).adr K) (fdAt K ((dm .Leave_init).adr K)) (ps .Leave_init) (Gam K w (k + 1) .Leave_init) := by
  have S : NScope N_Leave_init (ps .Leave_init) ["__class__"] (defScope st_Leave_init) := nscope_by (by decide +kernel)
  have nd := S.nd
  refine FunC.ok (k := 2 * k + 1) T.k.f_Leave_init (let ⟨oc, od, osl, z⟩ := T.k.su_Leave_init.cell; ⟨oc, od, _, osl, z⟩) S (fun vs H Q E h => h.1) (fun A outer s H vs Q E hr h => ⟨rd_Leave_init K (Gam K w k) E, ?_, h.2⟩)
  have hr0 : Room (lev k) _ := hr.mono (Nat.le_succ _)
  have tk : Takes (ccx (L2.CX prog w) prog w K mg base N_Leave_init ("Leave.__init__" : Str) (defScope st_Leave_init) ((dm .Leave_init).adr K) (cdAt K ((dm .Leave_init).adr K)) (ccAt K ((dm .Leave_init).adr K)) A outer s H E) (fun cls d _ H => E cls d H) := takes_of rfl rfl rfl rfl
  have hx : ∀ σ, PassesAt (L2.CX prog w) (ccx (L2.CX prog w) prog w K mg base N_Leave_init ("Leave.__init__" : Str) (defScope st_Leave_init) ((dm .Leave_init).adr K) (cdAt K ((dm .Leave_init).adr K)) (ccAt K ((dm .Leave_init).adr K)) A outer s H E) σ E := fun σ => passAt tk σ
  have hpo : PassesOwn (model prog w) _ _ (ccx (L2.CX prog w) prog w K mg base N_Leave_init ("Leave.__init__" : Str) (defScope st_Leave_init) ((dm .Leave_init).adr K) (cdAt K ((dm .Leave_init).adr K)) (ccAt K ((dm .Leave_init).adr K)) A outer s H E).xe := passes_of rfl
  exact (psa_sup (D := He.ga K ("Leave" : Str)) T.k.su_Leave_init (fa_cons T.k.sc_Leave_Leave_init fa_nil) (G .Step_init) hr0 T.k.b_Step_init_4 hx (pa_cons (pe_tup pa_nil) (pa_cons (pe_tup pa_nil) (pa_cons (pe_tup pa_nil) pa_nil))) T.z_super rfl rfl rfl rfl (psa_of (pss_one (ps_fld (pv 0) pe_bl rfl))))
theorem ok_Leave_row (T : Txt K w mg) (G : AllOk prog w K mg base k) : FnOk prog w K mg base (L2.CX prog w) (lev (k + 1)) ((dm .Leave_row).adr K) (fdAt K ((dm .Leave_row).adr K)) (ps .Leave_row) (Gam K w (k + 1) .Leave_row) := by
  have S : FnScope N_Leave_row (ps .Leave_row) (defScope st_Leave_row) := ⟨rfl, rfl, rfl, by decide +kernel, rfl, by decide +kernel, by decide +kernel⟩
  have nd := S.nd
  refine FunD.ok (k := 2 * k + 1) T.k.f_Leave_row S (fun vs H Q E h => h.1) (fun cdv A outer s H vs Q E hr h => ⟨rd_Leave_row , ?_, h.2⟩)
  have hr0 : Room (lev k) _ := hr.mono (Nat.le_succ _)
  have tk : Takes (cxOf (L2.CX prog w) prog w K mg base N_Leave_row ("Leave.row" : Str) (defScope st_Leave_row) ((dm .Leave_row).adr K) cdv A outer s H E) (fun cls d _ H => E cls d H) := takes_of rfl rfl rfl rfl
  have hx : ∀ σ, PassesAt (L2.CX prog w) (cxOf (L2.CX prog w) prog w K mg base N_Leave_row ("Leave.row" : Str) (defScope st_Leave_row) ((dm .Leave_row).adr K) cdv A outer s H E) σ E := fun σ => passAt tk σ
  have hpo : PassesOwn (model prog w) _ _ (cxOf (L2.CX prog w) prog w K mg base N_Leave_row ("Leave.row" : Str) (defScope st_Leave_row) ((dm .Leave_row).adr K) cdv A outer s H E).xe := passes_of rfl
  exact (pss_one (ps_ret (pe_tup (pa_cons pe_str pa_nil))))
theorem ok_rows_of (T : Txt K w mg) (G : AllOk prog w K mg base k) : FnOk prog w K mg base (L2.CX prog w) (lev (k + 1)) ((dm .rows_of).adr K) (fdAt K ((dm .rows_of).adr K)) (ps .rows_of) (Gam K w (k + 1) .rows_of) := by
  have S : FnScope N_rows_of (ps .rows_of) (defScope st_rows_of) := ⟨rfl, rfl, rfl, by decide +kernel, rfl, by decide +kernel, by decide +kernel⟩
  have nd := S.nd
  refine FunD.ok (k := 2 * k + 1) T.k.f_rows_of S (fun vs H Q E h => h.1) (fun cdv A outer s H vs Q E hr h => ⟨rd_rows_of K (Gam K w k), ?_, h.2⟩)
  have hr0 : Room (lev k) _ := hr.mono (Nat.le_succ _)
  have tk : Takes (cxOf (L2.CX prog w) prog w K mg base N_rows_of ("rows_of" : Str) (defScope st_rows_of) ((dm .rows_of).adr K) cdv A outer s H E) (fun cls d _ H => E cls d H) := takes_of rfl rfl rfl rfl
  have hx : ∀ σ, PassesAt (L2.CX prog w) (cxOf (L2.CX prog w) prog w K mg base N_rows_of ("rows_of" : Str) (defScope st_rows_of) ((dm .rows_of).adr K) cdv A outer s H E) σ E := fun σ => passAt tk σ
  have hpo : PassesOwn (model prog w) _ _ (cxOf (L2.CX prog w) prog w K mg base N_rows_of ("rows_of" : Str) (defScope st_rows_of) ((dm .rows_of).adr K) cdv A outer s H E).xe := passes_of rfl
  exact (pss_one (ps_ret (pe_callTy call_tupleA rfl T.z_tuple (by decide +kernel) (pa_cons (pe_lc (own := [(("step" : Str), 1)]) (by rfl) nd (pi_any (pv 0)) (blkOk_by (own := [(("step" : Str), 1)]) (N := N_rows_of) (sc := defScope st_rows_of) (by decide +kernel)) (fun _ _ _ _ _ => pg_name (i := 1) nd rfl (Or.inl rfl)) (fun _ _ _ _ _ => pts_nil) (fun _ _ _ _ _ => (pe_dyn0 (pv 1) (fa_cons ⟨_, _, _, T.k.c_Take, T.k.me_Take_row, G .Take_row, T.k.b_Take_row_1⟩ (fa_cons ⟨_, _, _, T.k.c_Set, T.k.me_Set_row, G .Set_row, T.k.b_Set_row_1⟩ (fa_cons ⟨_, _, _, T.k.c_Work, T.k.me_Work_row, G .Work_row, T.k.b_Work_row_1⟩ (fa_cons ⟨_, _, _, T.k.c_Print, T.k.me_Print_row, G .Print_row, T.k.b_Print_row_1⟩ (fa_cons ⟨_, _, _, T.k.c_Test, T.k.me_Test_row, G .Test_row, T.k.b_Test_row_1⟩ (fa_cons ⟨_, _, _, T.k.c_Loop, T.k.me_Loop_row, G .Loop_row, T.k.b_Loop_row_1⟩ (fa_cons ⟨_, _, _, T.k.c_Guard, T.k.me_Guard_row, G .Guard_row, T.k.b_Guard_row_1⟩ (fa_cons ⟨_, _, _, T.k.c_Call, T.k.me_Call_row, G .Call_row, T.k.b_Call_row_1⟩ (fa_cons ⟨_, _, _, T.k.c_Leave, T.k.me_Leave_row, G .Leave_row, T.k.b_Leave_row_1⟩ fa_nil))))))))) hr0 .nil (fun _ => passL0)))) pa_nil))))
theorem ok_check_name (T : Txt K w mg) (G : AllOk prog w K mg base k) : FnOk prog w K mg base (L2.CX prog w) (lev (k + 1)) ((dm .check_name).adr K) (fdAt K ((dm .check_name).adr K)) (ps .check_name) (Gam K w (k + 1) .check_name) := by
  have S : FnScope N_check_name (ps .check_name) (defScope st_check_name) := ⟨rfl, rfl, rfl, by decide +kernel, rfl, by decide +kernel, by decide +kernel⟩
  have nd := S.nd
  refine FunD.ok (k := 2 * k + 1) T.k.f_check_name S (fun vs H Q E h => h.1) (fun cdv A outer s H vs Q E hr h => ⟨rd_check_name K E, ?_, h.2⟩)
  have hr0 : Room (lev k) _ := hr.mono (Nat.le_succ _)
  have tk : Takes (cxOf (L2.CX prog w) prog w K mg base N_check_name ("check_name" : Str) (defScope st_check_name) ((dm .check_name).adr K) cdv A outer s H E) (fun cls d _ H => E cls d H) := takes_of rfl rfl rfl rfl
  have hx : ∀ σ, PassesAt (L2.CX prog w) (cxOf (L2.CX prog w) prog w K mg base N_check_name ("check_name" : Str) (defScope st_check_name) ((dm .check_name).adr K) cdv A outer s H E) σ E := fun σ => passAt tk σ
  have hpo : PassesOwn (model prog w) _ _ (cxOf (L2.CX prog w) prog w K mg base N_check_name ("check_name" : Str) (defScope st_check_name) ((dm .check_name).adr K) cdv A outer s H E).xe := passes_of rfl
  exact (pss_cons (ps_if (PW.pt (pw_or (pt_not (pt_val (pe_callB call_isi rfl T.z_isinstance (by decide +kernel) (pa_cons (pv 0) (pa_cons (pe_bltn rfl T.z_str (by decide +kernel) rfl) pa_nil))))) (pw_or (pt_cmpR op_ltI (pe_callB call_lenA rfl T.z_len (by decide +kernel) (pa_cons (pv 0) pa_nil)) pe_int (nomark _)) (pw_or (pt_cmpR op_gtI (pe_callB call_lenA rfl T.z_len (by decide +kernel) (pa_cons (pv 0) pa_nil)) pe_int (nomark _)) (pw_or1 (pt_cmpR op_notInSg (pe_ix ix_seq (pv 0) pe_int (fun _ _ => rfl)) (pe_gstr rfl T.s_FIRST_SIGNS) (by rfl))))))) (pss_one (ps_raise rfl tk (pmk_own PySem.F.excBase_ValueError T.k.x_InvalidProgram.1 T.g_InvalidProgram T.k.x_InvalidProgram.2.1 (raises_own T.k.x_InvalidProgram.2.2.1 T.k.x_InvalidProgram.2.2.2) rfl))) pss_nil) (pss_one (ps_for hpo rfl (pi_any (pv 0)) (pg_name (i := 1) nd rfl (by first | exact Or.inl rfl | exact Or.inr rfl)) (pss_one (ps_if (pt_cmpR op_notInSg (pv 1) (pe_gstr rfl T.s_SIGNS) (by rfl)) (pss_one (ps_raise rfl tk (pmk_own PySem.F.excBase_ValueError T.k.x_InvalidProgram.1 T.g_InvalidProgram T.k.x_InvalidProgram.2.1 (raises_own T.k.x_InvalidProgram.2.2.1 T.k.x_InvalidProgram.2.2.2) rfl))) pss_nil)))))
theorem ok_check_number (T : Txt K w mg) (G : AllOk prog w K mg base k) : FnOk prog w K mg base (L2.CX prog w) (lev (k + 1)) ((dm .check_number).adr K) (fdAt K ((dm .check_number).adr K)) (ps .check_number) (Gam K w (k + 1) .check_number) := by
  have S : FnScope N_check_number (ps .check_number) (defScope st_check_number) := ⟨rfl, rfl, rfl, by decide +kernel, rfl, by decide +kernel, by decide +kernel⟩
  have nd := S.nd
  refine FunD.ok (k := 2 * k + 1) T.k.f_check_number S (fun vs H Q E h => h.1) (fun cdv A outer s H vs Q E hr h => ⟨rd_check_number K E, ?_, h.2⟩)
  have hr0 : Room (lev k) _ := hr.mono (Nat.le_succ _)
  have tk : Takes (cxOf (L2.CX prog w) prog w K mg base N_check_number ("check_number" : Str) (defScope st_check_number) ((dm .check_number).adr K) cdv A outer s H E) (fun cls d _ H => E cls d H) := takes_of rfl rfl rfl rfl
  have hx : ∀ σ, PassesAt (L2.CX prog w) (cxOf (L2.CX prog w) prog w K mg base N_check_number ("check_number" : Str) (defScope st_check_number) ((dm .check_number).adr K) cdv A outer s H E) σ E := fun σ => passAt tk σ
  have hpo : PassesOwn (model prog w) _ _ (cxOf (L2.CX prog w) prog w K mg base N_check_number ("check_number" : Str) (defScope st_check_number) ((dm .check_number).adr K) cdv A outer s H E).xe := passes_of rfl
  exact (pss_one (ps_if (PW.pt (pw_or (pt_not (pt_val (pe_callB call_isi rfl T.z_isinstance (by decide +kernel) (pa_cons (pv 0) (pa_cons (pe_bltn rfl T.z_int (by decide +kernel) rfl) pa_nil))))) (pw_or (pt_val (pe_callB call_isi rfl T.z_isinstance (by decide +kernel) (pa_cons (pv 0) (pa_cons (pe_bltn rfl T.z_bool (by decide +kernel) rfl) pa_nil)))) (pw_or (pt_cmpR op_ltI (pv 0) (pv 1) (nomark _)) (pw_or1 (pt_cmpR op_gtI (pv 0) (pv 2) (nomark _))))))) (pss_one (ps_raise rfl tk (pmk_own PySem.F.excBase_ValueError T.k.x_InvalidProgram.1 T.g_InvalidProgram T.k.x_InvalidProgram.2.1 (raises_own T.k.x_InvalidProgram.2.2.1 T.k.x_InvalidProgram.2.2.2) rfl))) pss_nil))
theorem ok_build_body (T : Txt K w mg) (G : AllOk prog w K mg base k) : FnOk prog w K mg base (L2.CX prog w) (lev (k + 1)) ((dm .build_body).adr K) (fdAt K ((dm .build_body).adr K)) (ps .build_body) (Gam K w (k + 1) .build_body) := by
  have S : FnScope N_build_body (ps .build_body) (defScope st_build_body) := ⟨rfl, rfl, rfl, by decide +kernel, rfl, by decide +kernel, by decide +kernel⟩
  have nd := S.nd
  obtain ⟨_, hv_build_step_2, hb_build_step_2⟩ := T.k.b_build_step_2
  refine FunD.ok (k := 2 * k + 1) T.k.f_build_body S (fun vs H Q E h => h.1) (fun cdv A outer s H vs Q E hr h => ⟨rd_build_body K (Gam K w k) E, ?_, h.2⟩)
  have hr0 : Room (lev k) _ := hr.mono (Nat.le_succ _)
  have tk : Takes (cxOf (L2.CX prog w) prog w K mg base N_build_body ("build_body" : Str) (defScope st_build_body) ((dm .build_body).adr K) cdv A outer s H E) (fun cls d _ H => E cls d H) := takes_of rfl rfl rfl rfl
  have hx : ∀ σ, PassesAt (L2.CX prog w) (cxOf (L2.CX prog w) prog w K mg base N_build_body ("build_body" : Str) (defScope st_build_body) ((dm .build_body).adr K) cdv A outer s H E) σ E := fun σ => passAt tk σ
  have hpo : PassesOwn (model prog w) _ _ (cxOf (L2.CX prog w) prog w K mg base N_build_body ("build_body" : Str) (defScope st_build_body) ((dm .build_body).adr K) cdv A outer s H E).xe := passes_of rfl
  exact (pss_cons (ps_if (PW.pt (pw_or (pt_not (pt_val (pe_callB call_isiT rfl T.z_isinstance (by decide +kernel) (pa_cons (pv 0) (pa_cons (pe_tup (pa_cons (pe_bltn rfl T.z_list (by decide +kernel) rfl) (pa_cons (pe_bltn rfl T.z_tuple (by decide +kernel) rfl) pa_nil))) pa_nil))))) (pw_or1 (PW.pt (pw_and (pt_cmpR op_gtI (pv 1) (pe_gint rfl T.n_DEEPEST) (nomark _)) (pw_and1 (pt_cmpR op_gtI (pe_callB call_lenA rfl T.z_len (by decide +kernel) (pa_cons (pv 0) pa_nil)) pe_int (nomark _)))))))) (pss_one (ps_raise rfl tk (pmk_own PySem.F.excBase_ValueError T.k.x_InvalidProgram.1 T.g_InvalidProgram T.k.x_InvalidProgram.2.1 (raises_own T.k.x_InvalidProgram.2.2.1 T.k.x_InvalidProgram.2.2.2) rfl))) pss_nil) (pss_one (ps_ret (pe_callTy call_tupleA rfl T.z_tuple (by decide +kernel) (pa_cons (pe_lc (own := [(("row" : Str), 2)]) (by rfl) nd (pi_any (pv 0)) (blkOk_by (own := [(("row" : Str), 2)]) (N := N_build_body) (sc := defScope st_build_body) (by decide +kernel)) (fun _ _ _ _ _ => pg_name (i := 2) nd rfl (Or.inl rfl)) (fun _ _ _ _ _ => pts_nil) (fun _ _ _ _ _ => (pe_callSD (G .build_step) hr0 rfl T.g_build_step (T.k.f_build_step).kp hb_build_step_2 hv_build_step_2 (fun _ => passL0) (pa_cons (pv 2) (pa_cons (pv 1) pa_nil))))) pa_nil)))))
theorem ok_build_step (T : Txt K w mg) (G : AllOk prog w K mg base k) : FnOk prog w K mg base (L2.CX prog w) (lev (k + 1)) ((dm .build_step).adr K) (fdAt K ((dm .build_step).adr K)) (ps .build_step) (Gam K w (k + 1) .build_step) := by
  have S : FnScope N_build_step (ps .build_step) (defScope st_build_step) := ⟨rfl, rfl, rfl, by decide +kernel, rfl, by decide +kernel, by decide +kernel⟩
  have nd := S.nd
  refine FunD.ok (k := 2 * k + 1) T.k.f_build_step S (fun vs H Q E h => h.1) (fun cdv A outer s H vs Q E hr h => ⟨rd_build_step K (Gam K w k) E, ?_, h.2⟩)
  have hr0 : Room (lev k) _ := hr.mono (Nat.le_succ _)
  have tk : Takes (cxOf (L2.CX prog w) prog w K mg base N_build_step ("build_step" : Str) (defScope st_build_step) ((dm .build_step).adr K) cdv A outer s H E) (fun cls d _ H => E cls d H) := takes_of rfl rfl rfl rfl
  have hx : ∀ σ, PassesAt (L2.CX prog w) (cxOf (L2.CX prog w) prog w K mg base N_build_step ("build_step" : Str) (defScope st_build_step) ((dm .build_step).adr K) cdv A outer s H E) σ E := fun σ => passAt tk σ
  have hpo : PassesOwn (model prog w) _ _ (cxOf (L2.CX prog w) prog w K mg base N_build_step ("build_step" : Str) (defScope st_build_step) ((dm .build_step).adr K) cdv A outer s H E).xe := passes_of rfl
  exact (pss_cons (ps_if (PW.pt (pw_or (pt_not (pt_val (pe_callB call_isi rfl T.z_isinstance (by decide +kernel) (pa_cons (pv 0) (pa_cons (pe_bltn rfl T.z_tuple (by decide +kernel) rfl) pa_nil))))) (pw_or (pt_cmpR op_ltI (pe_callB call_lenA rfl T.z_len (by decide +kernel) (pa_cons (pv 0) pa_nil)) pe_int (nomark _)) (pw_or1 (pt_cmpR (op_notInA (hu_of hr)) (pe_ix ix_seq (pv 0) pe_int (fun _ _ => rfl)) (pe_glob rfl T.g_KINDS rfl) (by rfl)))))) (pss_one (ps_raise rfl tk (pmk_own PySem.F.excBase_ValueError T.k.x_InvalidProgram.1 T.g_InvalidProgram T.k.x_InvalidProgram.2.1 (raises_own T.k.x_InvalidProgram.2.2.1 T.k.x_InvalidProgram.2.2.2) rfl))) pss_nil) (pss_cons (ps_set (i := 2) nd rfl (by first | exact Or.inl rfl | exact Or.inr rfl) (pe_ix ix_seq (pv 0) pe_int (fun _ _ => rfl))) (pss_cons (ps_if (pt_cmpR (op_neA hr.units) (pe_callB call_lenA rfl T.z_len (by decide +kernel) (pa_cons (pv 0) pa_nil)) (pe_ix ix_seq (pe_glob rfl T.g_SIZES rfl) (pe_bm PySem.F.plainAttrs_tuple PySem.F.slot_tuple_index PySem.F.type_tuple_index mt_tindex (pe_glob rfl T.g_KINDS rfl) (pa_cons (pv 2) pa_nil)) (fun _ _ => rfl)) (nomark _)) (pss_one (ps_raise rfl tk (pmk_own PySem.F.excBase_ValueError T.k.x_InvalidProgram.1 T.g_InvalidProgram T.k.x_InvalidProgram.2.1 (raises_own T.k.x_InvalidProgram.2.2.1 T.k.x_InvalidProgram.2.2.2) rfl))) pss_nil) (pss_cons (ps_if (pt_cmpR (op_eqA hr.units) (pv 2) pe_str (nomark _)) (pss_one (ps_ret (pe_make0S T.k.mk_Leave (G .Leave_init) hr rfl T.g_Leave T.k.b_Leave_init_1 .nil hx))) pss_nil) (pss_cons (ps_if (pt_cmpR (op_eqA hr.units) (pv 2) pe_str (nomark _)) (pss_one (ps_ret (pe_makeS T.k.mk_Call (G .Call_init) hr rfl T.g_Call T.k.b_Call_init_2 .nil hx (pa_cons (pe_callSD (G .build_body) hr0 rfl T.g_build_body (T.k.f_build_body).kp T.k.b_build_body_2 .nil hx (pa_cons (pe_ix ix_seq (pv 0) pe_int (fun _ _ => rfl)) (pa_cons (pe_op op_addA (pv 1) pe_int) pa_nil))) pa_nil)))) pss_nil) (pss_cons (ps_if (pt_cmpR (op_eqA hr.units) (pv 2) pe_str (nomark _)) (pss_cons (ps_set (i := 3) nd rfl (by first | exact Or.inl rfl | exact Or.inr rfl) (pe_callSD (G .build_body) hr0 rfl T.g_build_body (T.k.f_build_body).kp T.k.b_build_body_2 .nil hx (pa_cons (pe_ix ix_seq (pv 0) pe_int (fun _ _ => rfl)) (pa_cons (pe_op op_addA (pv 1) pe_int) pa_nil)))) (pss_cons (ps_set (i := 4) nd rfl (by first | exact Or.inl rfl | exact Or.inr rfl) (pe_callSD (G .build_body) hr0 rfl T.g_build_body (T.k.f_build_body).kp T.k.b_build_body_2 .nil hx (pa_cons (pe_ix ix_seq (pv 0) pe_int (fun _ _ => rfl)) (pa_cons (pe_op op_addA (pv 1) pe_int) pa_nil)))) (pss_cons (ps_for hpo rfl (pi_any (pv 4)) (pg_name (i := 5) nd rfl (by first | exact Or.inl rfl | exact Or.inr rfl)) (pss_one (ps_if (pt_val (pe_fld (pv 5) rfl)) (pss_one (ps_raise rfl tk (pmk_own PySem.F.excBase_ValueError T.k.x_InvalidProgram.1 T.g_InvalidProgram T.k.x_InvalidProgram.2.1 (raises_own T.k.x_InvalidProgram.2.2.1 T.k.x_InvalidProgram.2.2.2) rfl))) pss_nil))) (pss_one (ps_ret (pe_makeS T.k.mk_Guard (G .Guard_init) hr rfl T.g_Guard T.k.b_Guard_init_3 .nil hx (pa_cons (pv 3) (pa_cons (pv 4) pa_nil)))))))) pss_nil) (pss_cons (ps_if (pt_cmpR (op_eqA hr.units) (pv 2) pe_str (nomark _)) (pss_cons (ps_expr (pe_callSD (G .check_number) hr0 rfl T.g_check_number (T.k.f_check_number).kp T.k.b_check_number_3 .nil hx (pa_cons (pe_ix ix_seq (pv 0) pe_int (fun _ _ => rfl)) (pa_cons pe_int (pa_cons pe_int pa_nil))))) (pss_cons (ps_expr (pe_callSD (G .check_name) hr0 rfl T.g_check_name (T.k.f_check_name).kp T.k.b_check_name_1 .nil hx (pa_cons (pe_ix ix_seq (pv 0) pe_int (fun _ _ => rfl)) pa_nil))) (pss_one (ps_ret (pe_makeS T.k.mk_Print (G .Print_init) hr rfl T.g_Print T.k.b_Print_init_3 .nil hx (pa_cons (pe_ix ix_seq (pv 0) pe_int (fun _ _ => rfl)) (pa_cons (pe_ix ix_seq (pv 0) pe_int (fun _ _ => rfl)) pa_nil))))))) pss_nil) (pss_one (ps_ret (pe_callSD (G .build_named) hr0 rfl T.g_build_named (T.k.f_build_named).kp T.k.b_build_named_2 .nil hx (pa_cons (pv 0) (pa_cons (pv 1) pa_nil))))))))))))
theorem ok_build_named (T : Txt K w mg) (G : AllOk prog w K mg base k) : FnOk prog w K mg base (L2.CX prog w) (lev (k + 1)) ((dm .build_named).adr K) (fdAt K ((dm .build_named).adr K)) (ps .build_named) (Gam K w (k + 1) .build_named) := by
  have S : FnScope N_build_named (ps .build_named) (defScope st_build_named) := ⟨rfl, rfl, rfl, by decide +kernel, rfl, by decide +kernel, by decide +kernel⟩
  have nd := S.nd
  refine FunD.ok (k := 2 * k + 1) T.k.f_build_named S (fun vs H Q E h => h.1) (fun cdv A outer s H vs Q E hr h => ⟨rd_build_named K (Gam K w k) E, ?_, h.2⟩)
  have hr0 : Room (lev k) _ := hr.mono (Nat.le_succ _)
  have tk : Takes (cxOf (L2.CX prog w) prog w K mg base N_build_named ("build_named" : Str) (defScope st_build_named) ((dm .build_named).adr K) cdv A outer s H E) (fun cls d _ H => E cls d H) := takes_of rfl rfl rfl rfl
  have hx : ∀ σ, PassesAt (L2.CX prog w) (cxOf (L2.CX prog w) prog w K mg base N_build_named ("build_named" : Str) (defScope st_build_named) ((dm .build_named).adr K) cdv A outer s H E) σ E := fun σ => passAt tk σ
  have hpo : PassesOwn (model prog w) _ _ (cxOf (L2.CX prog w) prog w K mg base N_build_named ("build_named" : Str) (defScope st_build_named) ((dm .build_named).adr K) cdv A outer s H E).xe := passes_of rfl
  exact (pss_cons (ps_set (i := 2) nd rfl (by first | exact Or.inl rfl | exact Or.inr rfl) (pe_ix ix_seq (pv 0) pe_int (fun _ _ => rfl))) (pss_cons (ps_expr (pe_callSD (G .check_name) hr0 rfl T.g_check_name (T.k.f_check_name).kp T.k.b_check_name_1 .nil hx (pa_cons (pe_ix ix_seq (pv 0) pe_int (fun _ _ => rfl)) pa_nil))) (pss_cons (ps_if (pt_cmpR (op_eqA hr.units) (pv 2) pe_str (nomark _)) (pss_cons (ps_expr (pe_callSD (G .check_number) hr0 rfl T.g_check_number (T.k.f_check_number).kp T.k.b_check_number_3 .nil hx (pa_cons (pe_ix ix_seq (pv 0) pe_int (fun _ _ => rfl)) (pa_cons pe_int (pa_cons pe_int pa_nil))))) (pss_one (ps_ret (pe_makeS T.k.mk_Take (G .Take_init) hr rfl T.g_Take T.k.b_Take_init_3 .nil hx (pa_cons (pe_ix ix_seq (pv 0) pe_int (fun _ _ => rfl)) (pa_cons (pe_ix ix_seq (pv 0) pe_int (fun _ _ => rfl)) pa_nil)))))) pss_nil) (pss_cons (ps_if (pt_cmpR (op_eqA hr.units) (pv 2) pe_str (nomark _)) (pss_cons (ps_expr (pe_callSD (G .check_number) hr0 rfl T.g_check_number (T.k.f_check_number).kp T.k.b_check_number_3 .nil hx (pa_cons (pe_ix ix_seq (pv 0) pe_int (fun _ _ => rfl)) (pa_cons pe_int (pa_cons pe_int pa_nil))))) (pss_one (ps_ret (pe_makeS T.k.mk_Set (G .Set_init) hr rfl T.g_Set T.k.b_Set_init_3 .nil hx (pa_cons (pe_ix ix_seq (pv 0) pe_int (fun _ _ => rfl)) (pa_cons (pe_ix ix_seq (pv 0) pe_int (fun _ _ => rfl)) pa_nil)))))) pss_nil) (pss_cons (ps_if (pt_cmpR (op_eqA hr.units) (pv 2) pe_str (nomark _)) (pss_cons (ps_expr (pe_callSD (G .check_name) hr0 rfl T.g_check_name (T.k.f_check_name).kp T.k.b_check_name_1 .nil hx (pa_cons (pe_ix ix_seq (pv 0) pe_int (fun _ _ => rfl)) pa_nil))) (pss_cons (ps_expr (pe_callSD (G .check_name) hr0 rfl T.g_check_name (T.k.f_check_name).kp T.k.b_check_name_1 .nil hx (pa_cons (pe_ix ix_seq (pv 0) pe_int (fun _ _ => rfl)) pa_nil))) (pss_cons (ps_expr (pe_callSD (G .check_number) hr0 rfl T.g_check_number (T.k.f_check_number).kp T.k.b_check_number_3 .nil hx (pa_cons (pe_ix ix_seq (pv 0) pe_int (fun _ _ => rfl)) (pa_cons pe_int (pa_cons pe_int pa_nil))))) (pss_one (ps_ret (pe_makeS T.k.mk_Work (G .Work_init) hr rfl T.g_Work T.k.b_Work_init_5 .nil hx (pa_cons (pe_ix ix_seq (pv 0) pe_int (fun _ _ => rfl)) (pa_cons (pe_ix ix_seq (pv 0) pe_int (fun _ _ => rfl)) (pa_cons (pe_ix ix_seq (pv 0) pe_int (fun _ _ => rfl)) (pa_cons (pe_ix ix_seq (pv 0) pe_int (fun _ _ => rfl)) pa_nil)))))))))) pss_nil) (pss_cons (ps_if (pt_cmpR (op_eqA hr.units) (pv 2) pe_str (nomark _)) (pss_cons (ps_expr (pe_callSD (G .check_number) hr0 rfl T.g_check_number (T.k.f_check_number).kp T.k.b_check_number_3 .nil hx (pa_cons (pe_ix ix_seq (pv 0) pe_int (fun _ _ => rfl)) (pa_cons pe_int (pa_cons pe_int pa_nil))))) (pss_cons (ps_set (i := 3) nd rfl (by first | exact Or.inl rfl | exact Or.inr rfl) (pe_makeS T.k.mk_Loop (G .Loop_init) hr rfl T.g_Loop T.k.b_Loop_init_4 .nil hx (pa_cons (pe_ix ix_seq (pv 0) pe_int (fun _ _ => rfl)) (pa_cons (pe_ix ix_seq (pv 0) pe_int (fun _ _ => rfl)) (pa_cons (pe_callSD (G .build_body) hr0 rfl T.g_build_body (T.k.f_build_body).kp T.k.b_build_body_2 .nil hx (pa_cons (pe_ix ix_seq (pv 0) pe_int (fun _ _ => rfl)) (pa_cons (pe_op op_addA (pv 1) pe_int) pa_nil))) pa_nil))))) (pss_cons (ps_if (pt_cmpR op_gtI (pe_fld (pv 3) rfl) pe_int (nomark _)) (pss_one (ps_raise rfl tk (pmk_own PySem.F.excBase_ValueError T.k.x_InvalidProgram.1 T.g_InvalidProgram T.k.x_InvalidProgram.2.1 (raises_own T.k.x_InvalidProgram.2.2.1 T.k.x_InvalidProgram.2.2.2) rfl))) pss_nil) (pss_one (ps_ret (pv 3)))))) pss_nil) (pss_one (ps_ret (pe_makeS T.k.mk_Test (G .Test_init) hr rfl T.g_Test T.k.b_Test_init_4 .nil hx (pa_cons (pe_ix ix_seq (pv 0) pe_int (fun _ _ => rfl)) (pa_cons (pe_callSD (G .build_body) hr0 rfl T.g_build_body (T.k.f_build_body).kp T.k.b_build_body_2 .nil hx (pa_cons (pe_ix ix_seq (pv 0) pe_int (fun _ _ => rfl)) (pa_cons (pe_op op_addA (pv 1) pe_int) pa_nil))) (pa_cons (pe_callSD (G .build_body) hr0 rfl T.g_build_body (T.k.f_build_body).kp T.k.b_build_body_2 .nil hx (pa_cons (pe_ix ix_seq (pv 0) pe_int (fun _ _ => rfl)) (pa_cons (pe_op op_addA (pv 1) pe_int) pa_nil))) pa_nil))))))))))))
theorem ok_law_cell (T : Txt K w mg) (G : AllOk prog w K mg base k) : FnOk prog w K mg base (L2.CX prog w) (lev (k + 1)) ((dm .law_cell).adr K) (fdAt K ((dm .law_cell).adr K)) (ps .law_cell) (Gam K w (k + 1) .law_cell) := by
  have S : FnScope N_law_cell (ps .law_cell) (defScope st_law_cell) := ⟨rfl, rfl, rfl, by decide +kernel, rfl, by decide +kernel, by decide +kernel⟩
  have nd := S.nd
  refine FunD.ok (k := 2 * k + 1) T.k.f_law_cell S (fun vs H Q E h => h.1) (fun cdv A outer s H vs Q E hr h => ⟨rd_law_cell K, ?_, h.2⟩)
  have hr0 : Room (lev k) _ := hr.mono (Nat.le_succ _)
  have tk : Takes (cxOf (L2.CX prog w) prog w K mg base N_law_cell ("_law_cell" : Str) (defScope st_law_cell) ((dm .law_cell).adr K) cdv A outer s H E) (fun cls d _ H => E cls d H) := takes_of rfl rfl rfl rfl
  have hx : ∀ σ, PassesAt (L2.CX prog w) (cxOf (L2.CX prog w) prog w K mg base N_law_cell ("_law_cell" : Str) (defScope st_law_cell) ((dm .law_cell).adr K) cdv A outer s H E) σ E := fun σ => passAt tk σ
  have hpo : PassesOwn (model prog w) _ _ (cxOf (L2.CX prog w) prog w K mg base N_law_cell ("_law_cell" : Str) (defScope st_law_cell) ((dm .law_cell).adr K) cdv A outer s H E).xe := passes_of rfl
  exact (pss_cons (ps_if (pt_cmpR op_ltI (pv 1) (pe_callB call_lenA rfl T.z_len (by decide +kernel) (pa_cons (pv 0) pa_nil)) (nomark _)) (pss_one (ps_ret (pe_ix ix_seq (pv 0) (pv 1) (fun _ _ => rfl)))) pss_nil) (pss_one (ps_ret pe_int)))
theorem ok_law_draws (T : Txt K w mg) (G : AllOk prog w K mg base k) : FnOk prog w K mg base (L2.CX prog w) (lev (k + 1)) ((dm .law_draws).adr K) (fdAt K ((dm .law_draws).adr K)) (ps .law_draws) (Gam K w (k + 1) .law_draws) := by
  have S : FnScope N_law_draws (ps .law_draws) (defScope st_law_draws) := ⟨rfl, rfl, rfl, by decide +kernel, rfl, by decide +kernel, by decide +kernel⟩
  have nd := S.nd
  refine FunD.ok (k := 2 * k + 1) T.k.f_law_draws S (fun vs H Q E h => h.1) (fun cdv A outer s H vs Q E hr h => ⟨rd_law_draws K, ?_, h.2⟩)
  have hr0 : Room (lev k) _ := hr.mono (Nat.le_succ _)
  have tk : Takes (cxOf (L2.CX prog w) prog w K mg base N_law_draws ("_law_draws" : Str) (defScope st_law_draws) ((dm .law_draws).adr K) cdv A outer s H E) (fun cls d _ H => E cls d H) := takes_of rfl rfl rfl rfl
  have hx : ∀ σ, PassesAt (L2.CX prog w) (cxOf (L2.CX prog w) prog w K mg base N_law_draws ("_law_draws" : Str) (defScope st_law_draws) ((dm .law_draws).adr K) cdv A outer s H E) σ E := fun σ => passAt tk σ
  have hpo : PassesOwn (model prog w) _ _ (cxOf (L2.CX prog w) prog w K mg base N_law_draws ("_law_draws" : Str) (defScope st_law_draws) ((dm .law_draws).adr K) cdv A outer s H E).xe := passes_of rfl
  exact (pss_cons (ps_set (i := 3) nd rfl (by first | exact Or.inl rfl | exact Or.inr rfl) (pe_callB call_absI rfl T.z_abs (by decide +kernel) (pa_cons (pv 0) pa_nil))) (pss_cons (ps_set (i := 4) nd rfl (by first | exact Or.inl rfl | exact Or.inr rfl) (pv 3)) (pss_cons (ps_set (i := 5) nd rfl (by first | exact Or.inl rfl | exact Or.inr rfl) (pe_lst pa_nil)) (pss_cons (ps_for hpo rfl (pi_range1 (by rfl) T.z_range (pa_cons (pv 1) pa_nil)) (pg_name (i := 6) nd rfl (by first | exact Or.inl rfl | exact Or.inr rfl)) (pss_one (ps_if (PW.pt (pw_and (pt_cmpR op_geI (pv 3) (pe_op op_powI pe_int pe_int) (nomark _)) (pw_and1 (pt_cmpR op_geI (pv 4) pe_int (nomark _))))) (pss_cons (ps_expr (pe_bm PySem.F.plainAttrs_list PySem.F.slot_list_append PySem.F.type_list_append mt_append (pv 5) (pa_cons (pe_op op_modI (pv 4) pe_int) pa_nil))) (pss_one (ps_set (i := 4) nd rfl (by first | exact Or.inl rfl | exact Or.inr rfl) (pe_op op_fdivI (pv 4) pe_int)))) (pss_cons (ps_set (i := 7) nd rfl (by first | exact Or.inl rfl | exact Or.inr rfl) (pe_op op_modI (pe_op op_addA (pe_op op_addA (pe_op op_addA (pe_op op_mulA (pe_op op_modI (pv 3) pe_int) pe_int) (pe_op op_mulA (pv 6) pe_int)) (pe_op op_mulA (pv 2) pe_int)) pe_int) pe_int)) (pss_cons (ps_set (i := 7) nd rfl (by first | exact Or.inl rfl | exact Or.inr rfl) (pe_op op_modI (pe_op op_addA (pe_op op_addA (pe_op op_mulA (pv 7) pe_int) (pe_op op_mulA (pv 6) pe_int)) (pv 2)) pe_int)) (pss_one (ps_expr (pe_bm PySem.F.plainAttrs_list PySem.F.slot_list_append PySem.F.type_list_append mt_append (pv 5) (pa_cons (pe_op op_modI (pe_op op_fdivI (pv 7) pe_int) pe_int) pa_nil))))))))) (pss_one (ps_ret (pv 5)))))))
theorem ok_law_names (T : Txt K w mg) (G : AllOk prog w K mg base k) : FnOk prog w K mg base (L2.CX prog w) (lev (k + 1)) ((dm .law_names).adr K) (fdAt K ((dm .law_names).adr K)) (ps .law_names) (Gam K w (k + 1) .law_names) := by
  have S : FnScope N_law_names (ps .law_names) (defScope st_law_names) := ⟨rfl, rfl, rfl, by decide +kernel, rfl, by decide +kernel, by decide +kernel⟩
  have nd := S.nd
  refine FunD.ok (k := 2 * k + 1) T.k.f_law_names S (fun vs H Q E h => h.1) (fun cdv A outer s H vs Q E hr h => ⟨rd_law_names K, ?_, h.2⟩)
  have hr0 : Room (lev k) _ := hr.mono (Nat.le_succ _)
  have tk : Takes (cxOf (L2.CX prog w) prog w K mg base N_law_names ("_law_names" : Str) (defScope st_law_names) ((dm .law_names).adr K) cdv A outer s H E) (fun cls d _ H => E cls d H) := takes_of rfl rfl rfl rfl
  have hx : ∀ σ, PassesAt (L2.CX prog w) (cxOf (L2.CX prog w) prog w K mg base N_law_names ("_law_names" : Str) (defScope st_law_names) ((dm .law_names).adr K) cdv A outer s H E) σ E := fun σ => passAt tk σ
  have hpo : PassesOwn (model prog w) _ _ (cxOf (L2.CX prog w) prog w K mg base N_law_names ("_law_names" : Str) (defScope st_law_names) ((dm .law_names).adr K) cdv A outer s H E).xe := passes_of rfl
  exact (pss_cons (ps_set (i := 1) nd rfl (by first | exact Or.inl rfl | exact Or.inr rfl) pe_str) (pss_cons (ps_set (i := 2) nd rfl (by first | exact Or.inl rfl | exact Or.inr rfl) (pe_lst pa_nil)) (pss_cons (ps_for hpo rfl (pi_range1 (by rfl) T.z_range (pa_cons pe_int pa_nil)) (pg_name (i := 3) nd rfl (by first | exact Or.inl rfl | exact Or.inr rfl)) (pss_cons (ps_set (i := 4) nd rfl (by first | exact Or.inl rfl | exact Or.inr rfl) (pe_ix ix_seq (pv 1) (pe_op op_modI (pe_op op_addA (pe_ix ix_seq (pv 0) pe_int (fun _ _ => rfl)) (pe_op op_mulA (pe_ix ix_seq (pe_lst (pa_cons pe_int (pa_cons pe_int (pa_cons pe_int (pa_cons pe_int pa_nil))))) (pe_op op_modI (pe_ix ix_seq (pv 0) pe_int (fun _ _ => rfl)) pe_int) (fun _ _ => rfl)) (pv 3))) pe_int) (fun _ _ => rfl))) (pss_cons (ps_set (i := 4) nd rfl (by first | exact Or.inl rfl | exact Or.inr rfl) (pe_op op_addA (pe_op op_addA (pe_ix ix_seq (pe_lst (pa_cons pe_str (pa_cons pe_str (pa_cons pe_str (pa_cons pe_str pa_nil))))) (pe_op op_modI (pe_ix ix_seq (pv 0) pe_int (fun _ _ => rfl)) pe_int) (fun _ _ => rfl)) (pv 4)) (pe_ix ix_seq (pe_lst (pa_cons pe_str (pa_cons pe_str (pa_cons pe_str (pa_cons pe_str pa_nil))))) (pe_op op_modI (pe_ix ix_seq (pv 0) pe_int (fun _ _ => rfl)) pe_int) (fun _ _ => rfl)))) (pss_one (ps_expr (pe_bm PySem.F.plainAttrs_list PySem.F.slot_list_append PySem.F.type_list_append mt_append (pv 2) (pa_cons (pe_op op_addA (pv 4) (pe_op op_mulA pe_str (pe_op op_mulA (pv 3) (pe_op op_modI (pe_op op_fdivI (pe_ix ix_seq (pv 0) pe_int (fun _ _ => rfl)) pe_int) pe_int)))) pa_nil))))))) (pss_one (ps_ret (pv 2))))))
theorem ok_law_rows (T : Txt K w mg) (G : AllOk prog w K mg base k) : FnOk prog w K mg base (L2.CX prog w) (lev (k + 1)) ((dm .law_rows).adr K) (fdAt K ((dm .law_rows).adr K)) (ps .law_rows) (Gam K w (k + 1) .law_rows) := by
  have S : FnScope N_law_rows (ps .law_rows) (defScope st_law_rows) := ⟨rfl, rfl, rfl, by decide +kernel, rfl, by decide +kernel, by decide +kernel⟩
  have nd := S.nd
  refine FunD.ok (k := 2 * k + 1) T.k.f_law_rows S (fun vs H Q E h => h.1) (fun cdv A outer s H vs Q E hr h => ⟨rd_law_rows K (Gam K w k) E, ?_, h.2⟩)
  have hr0 : Room (lev k) _ := hr.mono (Nat.le_succ _)
  have tk : Takes (cxOf (L2.CX prog w) prog w K mg base N_law_rows ("_law_rows" : Str) (defScope st_law_rows) ((dm .law_rows).adr K) cdv A outer s H E) (fun cls d _ H => E cls d H) := takes_of rfl rfl rfl rfl
  have hx : ∀ σ, PassesAt (L2.CX prog w) (cxOf (L2.CX prog w) prog w K mg base N_law_rows ("_law_rows" : Str) (defScope st_law_rows) ((dm .law_rows).adr K) cdv A outer s H E) σ E := fun σ => passAt tk σ
  have hpo : PassesOwn (model prog w) _ _ (cxOf (L2.CX prog w) prog w K mg base N_law_rows ("_law_rows" : Str) (defScope st_law_rows) ((dm .law_rows).adr K) cdv A outer s H E).xe := passes_of rfl
  exact (pss_cons (ps_set (i := 6) nd rfl (by first | exact Or.inl rfl | exact Or.inr rfl) (pe_lst pa_nil)) (pss_cons (ps_set (i := 7) nd rfl (by first | exact Or.inl rfl | exact Or.inr rfl) (pv 1)) (pss_cons (ps_for hpo rfl (pi_range1 (by rfl) T.z_range (pa_cons (pv 2) pa_nil)) (pg_name (i := 8) nd rfl (by first | exact Or.inl rfl | exact Or.inr rfl)) (pss_cons (ps_if (pt_cmpR op_gtI (pe_op op_addA (pv 7) pe_int) (pe_callB call_lenA rfl T.z_len (by decide +kernel) (pa_cons (pv 0) pa_nil)) (nomark _)) (pss_one ps_break) pss_nil) (pss_cons (ps_set (i := 9) nd rfl (by first | exact Or.inl rfl | exact Or.inr rfl) (pe_callSD (G .law_row) hr0 rfl T.g_law_row (T.k.f_law_row).kp T.k.b_law_row_5 .nil hx (pa_cons (pv 0) (pa_cons (pv 7) (pa_cons (pv 3) (pa_cons (pv 4) (pa_cons (pv 5) pa_nil))))))) (pss_cons (ps_expr (pe_bm PySem.F.plainAttrs_list PySem.F.slot_list_append PySem.F.type_list_append mt_append (pv 6) (pa_cons (pe_ix ix_seq (pv 9) pe_int (fun _ _ => rfl)) pa_nil))) (pss_one (ps_set (i := 7) nd rfl (by first | exact Or.inl rfl | exact Or.inr rfl) (pe_ix ix_seq (pv 9) pe_int (fun _ _ => rfl)))))))) (pss_one (ps_ret (pe_tup (pa_cons (pe_callTy call_tupleA rfl T.z_tuple (by decide +kernel) (pa_cons (pv 6) pa_nil)) (pa_cons (pv 7) pa_nil))))))))
theorem ok_law_row (T : Txt K w mg) (G : AllOk prog w K mg base k) : FnOk prog w K mg base (L2.CX prog w) (lev (k + 1)) ((dm .law_row).adr K) (fdAt K ((dm .law_row).adr K)) (ps .law_row) (Gam K w (k + 1) .law_row) := by
  have S : FnScope N_law_row (ps .law_row) (defScope st_law_row) := ⟨rfl, rfl, rfl, by decide +kernel, rfl, by decide +kernel, by decide +kernel⟩
  have nd := S.nd
  refine FunD.ok (k := 2 * k + 1) T.k.f_law_row S (fun vs H Q E h => h.1) (fun cdv A outer s H vs Q E hr h => ⟨rd_law_row K (Gam K w k) E, ?_, h.2⟩)
  have hr0 : Room (lev k) _ := hr.mono (Nat.le_succ _)
  have tk : Takes (cxOf (L2.CX prog w) prog w K mg base N_law_row ("_law_row" : Str) (defScope st_law_row) ((dm .law_row).adr K) cdv A outer s H E) (fun cls d _ H => E cls d H) := takes_of rfl rfl rfl rfl
  have hx : ∀ σ, PassesAt (L2.CX prog w) (cxOf (L2.CX prog w) prog w K mg base N_law_row ("_law_row" : Str) (defScope st_law_row) ((dm .law_row).adr K) cdv A outer s H E) σ E := fun σ => passAt tk σ
  have hpo : PassesOwn (model prog w) _ _ (cxOf (L2.CX prog w) prog w K mg base N_law_row ("_law_row" : Str) (defScope st_law_row) ((dm .law_row).adr K) cdv A outer s H E).xe := passes_of rfl
  exact (pss_cons (ps_set (i := 5) nd rfl (by first | exact Or.inl rfl | exact Or.inr rfl) (pe_op op_modI (pe_ix ix_seq (pv 0) (pv 1) (fun _ _ => rfl)) (pe_ix ix_seq (pv 4) pe_int (fun _ _ => rfl)))) (pss_cons (ps_set (i := 6) nd rfl (by first | exact Or.inl rfl | exact Or.inr rfl) (pe_ix ix_seq (pv 3) (pe_op op_modI (pe_ix ix_seq (pv 0) (pe_op op_addA (pv 1) pe_int) (fun _ _ => rfl)) pe_int) (fun _ _ => rfl))) (pss_cons (ps_set (i := 7) nd rfl (by first | exact Or.inl rfl | exact Or.inr rfl) (pe_ix ix_seq (pv 0) (pe_op op_addA (pv 1) pe_int) (fun _ _ => rfl))) (pss_cons (ps_if (PW.pt (pw_and (pt_cmpR op_gtI (pv 2) pe_int (nomark _)) (pw_and1 (pt_cmpR op_geI (pv 5) pe_int (nomark _))))) (pss_one (ps_ret (pe_callSD (G .law_deep_row) hr0 rfl T.g_law_deep_row (T.k.f_law_deep_row).kp T.k.b_law_deep_row_5 .nil hx (pa_cons (pv 0) (pa_cons (pv 1) (pa_cons (pv 2) (pa_cons (pv 3) (pa_cons (pv 4) pa_nil)))))))) pss_nil) (pss_cons (ps_if (PW.pt (pw_and (pt_cmpR (op_inA (hu_of hr)) (pv 5) (pe_tup (pa_cons pe_int (pa_cons pe_int (pa_cons pe_int pa_nil)))) (by rfl)) (pw_and1 (pt_cmpR (op_neA hr.units) (pe_ix ix_seq (pv 4) pe_int (fun _ _ => rfl)) (pe_lst pa_nil) (nomark _))))) (pss_one (ps_ret (pe_tup (pa_cons (pe_tup (pa_cons pe_str (pa_cons (pv 6) (pa_cons (pe_op op_modI (pv 7) (pe_callB call_lenA rfl T.z_len (by decide +kernel) (pa_cons (pe_ix ix_seq (pv 4) pe_int (fun _ _ => rfl)) pa_nil))) pa_nil)))) (pa_cons (pe_op op_addA (pv 1) pe_int) pa_nil))))) pss_nil) (pss_cons (ps_if (PW.pt (pw_or (pt_cmpR (op_eqA hr.units) (pv 5) pe_int (nomark _)) (pw_or1 (pt_cmpR (op_eqA hr.units) (pv 5) pe_int (nomark _))))) (pss_one (ps_ret (pe_tup (pa_cons (pe_tup (pa_cons pe_str (pa_cons (pv 6) (pa_cons (pe_op op_modI (pv 7) pe_int) pa_nil)))) (pa_cons (pe_op op_addA (pv 1) pe_int) pa_nil))))) pss_nil) (pss_cons (ps_if (PW.pt (pw_or (pt_cmpR (op_eqA hr.units) (pv 5) pe_int (nomark _)) (pw_or1 (pt_cmpR (op_eqA hr.units) (pv 5) pe_int (nomark _))))) (pss_one (ps_ret (pe_tup (pa_cons (pe_tup (pa_cons pe_str (pa_cons (pe_op op_modI (pv 7) (pe_op op_addA (pe_ix ix_seq (pv 4) pe_int (fun _ _ => rfl)) pe_int)) (pa_cons (pv 6) pa_nil)))) (pa_cons (pe_op op_addA (pv 1) pe_int) pa_nil))))) pss_nil) (pss_cons (ps_if (PW.pt (pw_and (pt_cmpR (op_eqA hr.units) (pv 5) pe_int (nomark _)) (pw_and1 (pt_val (pe_ix ix_seq (pv 4) pe_int (fun _ _ => rfl)))))) (pss_one (ps_ret (pe_tup (pa_cons (pe_tup (pa_cons pe_str pa_nil)) (pa_cons (pe_op op_addA (pv 1) pe_int) pa_nil))))) pss_nil) (pss_cons (ps_set (i := 8) nd rfl (by first | exact Or.inl rfl | exact Or.inr rfl) (pe_ix ix_seq (pv 3) (pe_op op_modI (pe_ix ix_seq (pv 0) (pe_op op_addA (pv 1) pe_int) (fun _ _ => rfl)) pe_int) (fun _ _ => rfl))) (pss_one (ps_ret (pe_tup (pa_cons (pe_tup (pa_cons pe_str (pa_cons (pv 6) (pa_cons (pv 8) (pa_cons (pe_ix ix_seq (pv 3) (pe_op op_modI (pe_ix ix_seq (pv 0) (pe_op op_addA (pv 1) pe_int) (fun _ _ => rfl)) pe_int) (fun _ _ => rfl)) (pa_cons (pe_op op_modI (pv 7) pe_int) pa_nil)))))) (pa_cons (pe_op op_addA (pv 1) pe_int) pa_nil))))))))))))))
theorem ok_law_deep_row (T : Txt K w mg) (G : AllOk prog w K mg base k) : FnOk prog w K mg base (L2.CX prog w) (lev (k + 1)) ((dm .law_deep_row).adr K) (fdAt K ((dm .law_deep_row).adr K)) (ps .law_deep_row) (Gam K w (k + 1) .law_deep_row) := by
  have S : FnScope N_law_deep_row (ps .law_deep_row) (defScope st_law_deep_row) := ⟨rfl, rfl, rfl, by decide +kernel, rfl, by decide +kernel, by decide +kernel⟩
  have nd := S.nd
  refine FunD.ok (k := 2 * k + 1) T.k.f_law_deep_row S (fun vs H Q E h => h.1) (fun cdv A outer s H vs Q E hr h => ⟨rd_law_deep_row K (Gam K w k) E, ?_, h.2⟩)
  have hr0 : Room (lev k) _ := hr.mono (Nat.le_succ _)
  have tk : Takes (cxOf (L2.CX prog w) prog w K mg base N_law_deep_row ("_law_deep_row" : Str) (defScope st_law_deep_row) ((dm .law_deep_row).adr K) cdv A outer s H E) (fun cls d _ H => E cls d H) := takes_of rfl rfl rfl rfl
  have hx : ∀ σ, PassesAt (L2.CX prog w) (cxOf (L2.CX prog w) prog w K mg base N_law_deep_row ("_law_deep_row" : Str) (defScope st_law_deep_row) ((dm .law_deep_row).adr K) cdv A outer s H E) σ E := fun σ => passAt tk σ
  have hpo : PassesOwn (model prog w) _ _ (cxOf (L2.CX prog w) prog w K mg base N_law_deep_row ("_law_deep_row" : Str) (defScope st_law_deep_row) ((dm .law_deep_row).adr K) cdv A outer s H E).xe := passes_of rfl
  exact (pss_cons (ps_set (i := 5) nd rfl (by first | exact Or.inl rfl | exact Or.inr rfl) (pe_op op_modI (pe_ix ix_seq (pv 0) (pv 1) (fun _ _ => rfl)) (pe_ix ix_seq (pv 4) pe_int (fun _ _ => rfl)))) (pss_cons (ps_set (i := 6) nd rfl (by first | exact Or.inl rfl | exact Or.inr rfl) (pe_ix ix_seq (pv 3) (pe_op op_modI (pe_ix ix_seq (pv 0) (pe_op op_addA (pv 1) pe_int) (fun _ _ => rfl)) pe_int) (fun _ _ => rfl))) (pss_cons (ps_set (i := 7) nd rfl (by first | exact Or.inl rfl | exact Or.inr rfl) (pe_op op_addA pe_int (pe_op op_modI (pe_ix ix_seq (pv 0) (pe_op op_addA (pv 1) pe_int) (fun _ _ => rfl)) pe_int))) (pss_cons (ps_set (i := 8) nd rfl (by first | exact Or.inl rfl | exact Or.inr rfl) (pe_ix ix_seq (pv 0) (pe_op op_addA (pv 1) pe_int) (fun _ _ => rfl))) (pss_cons (ps_if (pt_cmpR op_ltI (pv 5) pe_int (nomark _)) (pss_cons (ps_set (i := 9) nd rfl (by first | exact Or.inl rfl | exact Or.inr rfl) (pe_callSD (G .law_rows) hr0 rfl T.g_law_rows (T.k.f_law_rows).kp T.k.b_law_rows_6 .nil hx (pa_cons (pv 0) (pa_cons (pe_op op_addA (pv 1) pe_int) (pa_cons (pv 7) (pa_cons (pe_op op_subI (pv 2) pe_int) (pa_cons (pv 3) (pa_cons (pv 4) pa_nil)))))))) (pss_cons (ps_set (i := 10) nd rfl (by first | exact Or.inl rfl | exact Or.inr rfl) (pe_callSD (G .law_rows) hr0 rfl T.g_law_rows (T.k.f_law_rows).kp T.k.b_law_rows_6 .nil hx (pa_cons (pv 0) (pa_cons (pe_ix ix_seq (pv 9) pe_int (fun _ _ => rfl)) (pa_cons (pe_op op_modI (pv 8) pe_int) (pa_cons (pe_op op_subI (pv 2) pe_int) (pa_cons (pv 3) (pa_cons (pv 4) pa_nil)))))))) (pss_one (ps_ret (pe_tup (pa_cons (pe_tup (pa_cons pe_str (pa_cons (pv 6) (pa_cons (pe_ix ix_seq (pv 9) pe_int (fun _ _ => rfl)) (pa_cons (pe_ix ix_seq (pv 10) pe_int (fun _ _ => rfl)) pa_nil))))) (pa_cons (pe_ix ix_seq (pv 10) pe_int (fun _ _ => rfl)) pa_nil))))))) pss_nil) (pss_cons (ps_set (i := 11) nd rfl (by first | exact Or.inl rfl | exact Or.inr rfl) (pe_tup (pa_cons (pe_ix ix_seq (pv 4) pe_int (fun _ _ => rfl)) (pa_cons (pe_ix ix_seq (pv 4) pe_int (fun _ _ => rfl)) (pa_cons pe_bl (pa_cons (pe_ix ix_seq (pv 4) pe_int (fun _ _ => rfl)) pa_nil)))))) (pss_cons (ps_set (i := 12) nd rfl (by first | exact Or.inl rfl | exact Or.inr rfl) (pe_callSD (G .law_rows) hr0 rfl T.g_law_rows (T.k.f_law_rows).kp T.k.b_law_rows_6 .nil hx (pa_cons (pv 0) (pa_cons (pe_op op_addA (pv 1) pe_int) (pa_cons (pv 7) (pa_cons (pe_op op_subI (pv 2) pe_int) (pa_cons (pv 3) (pa_cons (pv 11) pa_nil)))))))) (pss_cons (ps_if (PW.pt (pw_and (pt_cmpR (op_eqA hr.units) (pv 5) pe_int (nomark _)) (pw_and1 (pt_cmpR (op_eqA hr.units) (pe_op op_modI (pv 8) pe_int) pe_int (nomark _))))) (pss_one (ps_ret (pe_tup (pa_cons (pe_tup (pa_cons pe_str (pa_cons (pe_ix ix_seq (pv 12) pe_int (fun _ _ => rfl)) pa_nil))) (pa_cons (pe_ix ix_seq (pv 12) pe_int (fun _ _ => rfl)) pa_nil))))) pss_nil) (pss_cons (ps_if (pt_cmpR (op_eqA hr.units) (pv 5) pe_int (nomark _)) (pss_one (ps_ret (pe_tup (pa_cons (pe_tup (pa_cons pe_str (pa_cons (pv 6) (pa_cons (pe_op op_addA pe_int (pe_op op_modI (pe_op op_fdivI (pv 8) pe_int) pe_int)) (pa_cons (pe_ix ix_seq (pv 12) pe_int (fun _ _ => rfl)) pa_nil))))) (pa_cons (pe_ix ix_seq (pv 12) pe_int (fun _ _ => rfl)) pa_nil))))) pss_nil) (pss_cons (ps_set (i := 13) nd rfl (by first | exact Or.inl rfl | exact Or.inr rfl) (pe_tup (pa_cons (pe_ix ix_seq (pv 4) pe_int (fun _ _ => rfl)) (pa_cons (pe_ix ix_seq (pv 4) pe_int (fun _ _ => rfl)) (pa_cons pe_bl (pa_cons (pe_ix ix_seq (pv 4) pe_int (fun _ _ => rfl)) pa_nil)))))) (pss_cons (ps_set (i := 14) nd rfl (by first | exact Or.inl rfl | exact Or.inr rfl) (pe_callSD (G .law_rows) hr0 rfl T.g_law_rows (T.k.f_law_rows).kp T.k.b_law_rows_6 .nil hx (pa_cons (pv 0) (pa_cons (pe_ix ix_seq (pv 12) pe_int (fun _ _ => rfl)) (pa_cons (pe_op op_modI (pv 8) pe_int) (pa_cons (pe_op op_subI (pv 2) pe_int) (pa_cons (pv 3) (pa_cons (pv 13) pa_nil)))))))) (pss_one (ps_ret (pe_tup (pa_cons (pe_tup (pa_cons pe_str (pa_cons (pe_ix ix_seq (pv 12) pe_int (fun _ _ => rfl)) (pa_cons (pe_ix ix_seq (pv 14) pe_int (fun _ _ => rfl)) pa_nil)))) (pa_cons (pe_ix ix_seq (pv 14) pe_int (fun _ _ => rfl)) pa_nil))))))))))))))))
theorem ok_law_written (T : Txt K w mg) (G : AllOk prog w K mg base k) : FnOk prog w K mg base (L2.CX prog w) (lev (k + 1)) ((dm .law_written).adr K) (fdAt K ((dm .law_written).adr K)) (ps .law_written) (Gam K w (k + 1) .law_written) := by
  have S : FnScope N_law_written (ps .law_written) (defScope st_law_written) := ⟨rfl, rfl, rfl, by decide +kernel, rfl, by decide +kernel, by decide +kernel⟩
  have nd := S.nd
  refine FunD.ok (k := 2 * k + 1) T.k.f_law_written S (fun vs H Q E h => h.1) (fun cdv A outer s H vs Q E hr h => ⟨rd_law_written K (Gam K w k) E, ?_, h.2⟩)
  have hr0 : Room (lev k) _ := hr.mono (Nat.le_succ _)
  have tk : Takes (cxOf (L2.CX prog w) prog w K mg base N_law_written ("_law_written" : Str) (defScope st_law_written) ((dm .law_written).adr K) cdv A outer s H E) (fun cls d _ H => E cls d H) := takes_of rfl rfl rfl rfl
  have hx : ∀ σ, PassesAt (L2.CX prog w) (cxOf (L2.CX prog w) prog w K mg base N_law_written ("_law_written" : Str) (defScope st_law_written) ((dm .law_written).adr K) cdv A outer s H E) σ E := fun σ => passAt tk σ
  have hpo : PassesOwn (model prog w) _ _ (cxOf (L2.CX prog w) prog w K mg base N_law_written ("_law_written" : Str) (defScope st_law_written) ((dm .law_written).adr K) cdv A outer s H E).xe := passes_of rfl
  exact (pss_cons (ps_set (i := 1) nd rfl (by first | exact Or.inl rfl | exact Or.inr rfl) (pe_lst pa_nil)) (pss_cons (ps_for hpo rfl (pi_any (pv 0)) (pg_name (i := 2) nd rfl (by first | exact Or.inl rfl | exact Or.inr rfl)) (pss_cons (ps_if (pt_cmpR (op_inA (hu_of hr)) (pe_ix ix_seq (pv 2) pe_int (fun _ _ => rfl)) (pe_tup (pa_cons pe_str (pa_cons pe_str (pa_cons pe_str pa_nil)))) (by rfl)) (pss_one (ps_expr (pe_bm PySem.F.plainAttrs_list PySem.F.slot_list_append PySem.F.type_list_append mt_append (pv 1) (pa_cons (pe_ix ix_seq (pv 2) pe_int (fun _ _ => rfl)) pa_nil)))) pss_nil) (pss_one (ps_for hpo rfl (pi_any (pv 2)) (pg_name (i := 3) nd rfl (by first | exact Or.inl rfl | exact Or.inr rfl)) (pss_one (ps_if (pt_val (pe_callB call_isi rfl T.z_isinstance (by decide +kernel) (pa_cons (pv 3) (pa_cons (pe_bltn rfl T.z_tuple (by decide +kernel) rfl) pa_nil)))) (pss_one (ps_set (i := 1) nd rfl (by first | exact Or.inl rfl | exact Or.inr rfl) (pe_op op_addA (pv 1) (pe_callSD (G .law_written) hr0 rfl T.g_law_written (T.k.f_law_written).kp T.k.b_law_written_1 .nil hx (pa_cons (pv 3) pa_nil))))) pss_nil)))))) (pss_one (ps_ret (pv 1)))))
theorem ok_law_once (T : Txt K w mg) (G : AllOk prog w K mg base k) : FnOk prog w K mg base (L2.CX prog w) (lev (k + 1)) ((dm .law_once).adr K) (fdAt K ((dm .law_once).adr K)) (ps .law_once) (Gam K w (k + 1) .law_once) := by
  have S : FnScope N_law_once (ps .law_once) (defScope st_law_once) := ⟨rfl, rfl, rfl, by decide +kernel, rfl, by decide +kernel, by decide +kernel⟩
  have nd := S.nd
  refine FunD.ok (k := 2 * k + 1) T.k.f_law_once S (fun vs H Q E h => h.1) (fun cdv A outer s H vs Q E hr h => ⟨rd_law_once K, ?_, h.2⟩)
  have hr0 : Room (lev k) _ := hr.mono (Nat.le_succ _)
  have tk : Takes (cxOf (L2.CX prog w) prog w K mg base N_law_once ("_law_once" : Str) (defScope st_law_once) ((dm .law_once).adr K) cdv A outer s H E) (fun cls d _ H => E cls d H) := takes_of rfl rfl rfl rfl
  have hx : ∀ σ, PassesAt (L2.CX prog w) (cxOf (L2.CX prog w) prog w K mg base N_law_once ("_law_once" : Str) (defScope st_law_once) ((dm .law_once).adr K) cdv A outer s H E) σ E := fun σ => passAt tk σ
  have hpo : PassesOwn (model prog w) _ _ (cxOf (L2.CX prog w) prog w K mg base N_law_once ("_law_once" : Str) (defScope st_law_once) ((dm .law_once).adr K) cdv A outer s H E).xe := passes_of rfl
  exact (pss_cons (ps_set (i := 1) nd rfl (by first | exact Or.inl rfl | exact Or.inr rfl) (pe_lst pa_nil)) (pss_cons (ps_for hpo rfl (pi_any (pv 0)) (pg_name (i := 2) nd rfl (by first | exact Or.inl rfl | exact Or.inr rfl)) (pss_one (ps_if (pt_cmpR (op_notInA (hu_of hr)) (pv 2) (pv 1) (by rfl)) (pss_one (ps_expr (pe_bm PySem.F.plainAttrs_list PySem.F.slot_list_append PySem.F.type_list_append mt_append (pv 1) (pa_cons (pv 2) pa_nil)))) pss_nil))) (pss_one (ps_ret (pv 1)))))
theorem ok_law_same (T : Txt K w mg) (G : AllOk prog w K mg base k) : FnOk prog w K mg base (L2.CX prog w) (lev (k + 1)) ((dm .law_same).adr K) (fdAt K ((dm .law_same).adr K)) (ps .law_same) (Gam K w (k + 1) .law_same) := by
  have S : FnScope N_law_same (ps .law_same) (defScope st_law_same) := ⟨rfl, rfl, rfl, by decide +kernel, rfl, by decide +kernel, by decide +kernel⟩
  have nd := S.nd
  refine FunD.ok (k := 2 * k + 1) T.k.f_law_same S (fun vs H Q E h => h.1) (fun cdv A outer s H vs Q E hr h => ⟨rd_law_same K (Gam K w k) E, ?_, h.2⟩)
  have hr0 : Room (lev k) _ := hr.mono (Nat.le_succ _)
  have tk : Takes (cxOf (L2.CX prog w) prog w K mg base N_law_same ("_law_same" : Str) (defScope st_law_same) ((dm .law_same).adr K) cdv A outer s H E) (fun cls d _ H => E cls d H) := takes_of rfl rfl rfl rfl
  have hx : ∀ σ, PassesAt (L2.CX prog w) (cxOf (L2.CX prog w) prog w K mg base N_law_same ("_law_same" : Str) (defScope st_law_same) ((dm .law_same).adr K) cdv A outer s H E) σ E := fun σ => passAt tk σ
  have hpo : PassesOwn (model prog w) _ _ (cxOf (L2.CX prog w) prog w K mg base N_law_same ("_law_same" : Str) (defScope st_law_same) ((dm .law_same).adr K) cdv A outer s H E).xe := passes_of rfl
  exact (pss_cons (ps_if (PW.pt (pw_or (pt_cmpR op_isNone (pv 1) pe_non (nomark _)) (pw_or1 (pt_val (pe_callB call_isi rfl T.z_isinstance (by decide +kernel) (pa_cons (pv 1) (pa_cons (pe_bltn rfl T.z_bool (by decide +kernel) rfl) pa_nil))))))) (pss_one (ps_ret (pe_and (pe_cmpR (op_eqA hr.units) (pe_callB call_isi rfl T.z_isinstance (by decide +kernel) (pa_cons (pv 0) (pa_cons (pe_bltn rfl T.z_bool (by decide +kernel) rfl) pa_nil))) (pe_cmpR op_notNone (pv 1) pe_non (nomark _)) (nomark _)) (pe_one (pe_cmpR (op_eqA hr.units) (pv 0) (pv 1) (nomark _)))))) pss_nil) (pss_cons (ps_if (pt_val (pe_callB call_isiT rfl T.z_isinstance (by decide +kernel) (pa_cons (pv 1) (pa_cons (pe_tup (pa_cons (pe_bltn rfl T.z_list (by decide +kernel) rfl) (pa_cons (pe_bltn rfl T.z_tuple (by decide +kernel) rfl) pa_nil))) pa_nil)))) (pss_cons (ps_if (PW.pt (pw_or (pt_cmpR (op_neA hr.units) (pe_callB call_isi rfl T.z_isinstance (by decide +kernel) (pa_cons (pv 0) (pa_cons (pe_bltn rfl T.z_list (by decide +kernel) rfl) pa_nil))) (pe_callB call_isi rfl T.z_isinstance (by decide +kernel) (pa_cons (pv 1) (pa_cons (pe_bltn rfl T.z_list (by decide +kernel) rfl) pa_nil))) (nomark _)) (pw_or1 (pt_not (pt_val (pe_callB call_isiT rfl T.z_isinstance (by decide +kernel) (pa_cons (pv 0) (pa_cons (pe_tup (pa_cons (pe_bltn rfl T.z_list (by decide +kernel) rfl) (pa_cons (pe_bltn rfl T.z_tuple (by decide +kernel) rfl) pa_nil))) pa_nil)))))))) (pss_one (ps_ret pe_bl)) pss_nil) (pss_cons (ps_if (pt_cmpR (op_neA hr.units) (pe_callB call_lenA rfl T.z_len (by decide +kernel) (pa_cons (pv 0) pa_nil)) (pe_callB call_lenA rfl T.z_len (by decide +kernel) (pa_cons (pv 1) pa_nil)) (nomark _)) (pss_one (ps_ret pe_bl)) pss_nil) (pss_cons (ps_for hpo rfl (pi_range1 (by rfl) T.z_range (pa_cons (pe_callB call_lenA rfl T.z_len (by decide +kernel) (pa_cons (pv 1) pa_nil)) pa_nil)) (pg_name (i := 2) nd rfl (by first | exact Or.inl rfl | exact Or.inr rfl)) (pss_one (ps_if (pt_not (pt_val (pe_callSD (G .law_same) hr0 rfl T.g_law_same (T.k.f_law_same).kp T.k.b_law_same_2 .nil hx (pa_cons (pe_ix ix_seq (pv 0) (pv 2) (fun _ _ => rfl)) (pa_cons (pe_ix ix_seq (pv 1) (pv 2) (fun _ _ => rfl)) pa_nil))))) (pss_one (ps_ret pe_bl)) pss_nil))) (pss_one (ps_ret pe_bl))))) pss_nil) (pss_cons (ps_if (pt_val (pe_callB call_isi rfl T.z_isinstance (by decide +kernel) (pa_cons (pv 1) (pa_cons (pe_bltn rfl T.z_str (by decide +kernel) rfl) pa_nil)))) (pss_one (ps_ret (pe_and (pe_callB call_isi rfl T.z_isinstance (by decide +kernel) (pa_cons (pv 0) (pa_cons (pe_bltn rfl T.z_str (by decide +kernel) rfl) pa_nil))) (pe_one (pe_cmpR (op_eqA hr.units) (pv 0) (pv 1) (nomark _)))))) pss_nil) (pss_one (ps_ret (pe_and (pe_callB call_isi rfl T.z_isinstance (by decide +kernel) (pa_cons (pv 0) (pa_cons (pe_bltn rfl T.z_int (by decide +kernel) rfl) pa_nil))) (pe_and (pe_not (pe_callB call_isi rfl T.z_isinstance (by decide +kernel) (pa_cons (pv 0) (pa_cons (pe_bltn rfl T.z_bool (by decide +kernel) rfl) pa_nil)))) (pe_one (pe_cmpR (op_eqA hr.units) (pv 0) (pv 1) (nomark _))))))))))
theorem ok_law_lists (T : Txt K w mg) (G : AllOk prog w K mg base k) : FnOk prog w K mg base (L2.CX prog w) (lev (k + 1)) ((dm .law_lists).adr K) (fdAt K ((dm .law_lists).adr K)) (ps .law_lists) (Gam K w (k + 1) .law_lists) := by
  have S : FnScope N_law_lists (ps .law_lists) (defScope st_law_lists) := ⟨rfl, rfl, rfl, by decide +kernel, rfl, by decide +kernel, by decide +kernel⟩
  have nd := S.nd
  refine FunD.ok (k := 2 * k + 1) T.k.f_law_lists S (fun vs H Q E h => h.1) (fun cdv A outer s H vs Q E hr h => ⟨rd_law_lists K (Gam K w k) E, ?_, h.2⟩)
  have hr0 : Room (lev k) _ := hr.mono (Nat.le_succ _)
  have tk : Takes (cxOf (L2.CX prog w) prog w K mg base N_law_lists ("_law_lists" : Str) (defScope st_law_lists) ((dm .law_lists).adr K) cdv A outer s H E) (fun cls d _ H => E cls d H) := takes_of rfl rfl rfl rfl
  have hx : ∀ σ, PassesAt (L2.CX prog w) (cxOf (L2.CX prog w) prog w K mg base N_law_lists ("_law_lists" : Str) (defScope st_law_lists) ((dm .law_lists).adr K) cdv A outer s H E) σ E := fun σ => passAt tk σ
  have hpo : PassesOwn (model prog w) _ _ (cxOf (L2.CX prog w) prog w K mg base N_law_lists ("_law_lists" : Str) (defScope st_law_lists) ((dm .law_lists).adr K) cdv A outer s H E).xe := passes_of rfl
  exact (pss_cons (ps_set (i := 1) nd rfl (by first | exact Or.inl rfl | exact Or.inr rfl) (pe_lst pa_nil)) (pss_cons (ps_for hpo rfl (pi_any (pv 0)) (pg_name (i := 2) nd rfl (by first | exact Or.inl rfl | exact Or.inr rfl)) (pss_cons (ps_set (i := 3) nd rfl (by first | exact Or.inl rfl | exact Or.inr rfl) (pe_lst pa_nil)) (pss_cons (ps_for hpo rfl (pi_any (pv 2)) (pg_name (i := 4) nd rfl (by first | exact Or.inl rfl | exact Or.inr rfl)) (pss_cons (ps_if (pt_val (pe_callB call_isi rfl T.z_isinstance (by decide +kernel) (pa_cons (pv 4) (pa_cons (pe_bltn rfl T.z_tuple (by decide +kernel) rfl) pa_nil)))) (pss_one (ps_set (i := 4) nd rfl (by first | exact Or.inl rfl | exact Or.inr rfl) (pe_callSD (G .law_lists) hr0 rfl T.g_law_lists (T.k.f_law_lists).kp T.k.b_law_lists_1 .nil hx (pa_cons (pv 4) pa_nil)))) pss_nil) (pss_one (ps_expr (pe_bm PySem.F.plainAttrs_list PySem.F.slot_list_append PySem.F.type_list_append mt_append (pv 3) (pa_cons (pv 4) pa_nil)))))) (pss_one (ps_expr (pe_bm PySem.F.plainAttrs_list PySem.F.slot_list_append PySem.F.type_list_append mt_append (pv 1) (pa_cons (pe_callTy call_tupleA rfl T.z_tuple (by decide +kernel) (pa_cons (pv 3) pa_nil)) pa_nil))))))) (pss_one (ps_ret (pv 1)))))
theorem ok_law_kinds (T : Txt K w mg) (G : AllOk prog w K mg base k) : FnOk prog w K mg base (L2.CX prog w) (lev (k + 1)) ((dm .law_kinds).adr K) (fdAt K ((dm .law_kinds).adr K)) (ps .law_kinds) (Gam K w (k + 1) .law_kinds) := by
  have S : FnScope N_law_kinds (ps .law_kinds) (defScope st_law_kinds) := ⟨rfl, rfl, rfl, by decide +kernel, rfl, by decide +kernel, by decide +kernel⟩
  have nd := S.nd
  refine FunD.ok (k := 2 * k + 1) T.k.f_law_kinds S (fun vs H Q E h => h.1) (fun cdv A outer s H vs Q E hr h => ⟨rd_law_kinds K, ?_, h.2⟩)
  have hr0 : Room (lev k) _ := hr.mono (Nat.le_succ _)
  have tk : Takes (cxOf (L2.CX prog w) prog w K mg base N_law_kinds ("_law_kinds" : Str) (defScope st_law_kinds) ((dm .law_kinds).adr K) cdv A outer s H E) (fun cls d _ H => E cls d H) := takes_of rfl rfl rfl rfl
  have hx : ∀ σ, PassesAt (L2.CX prog w) (cxOf (L2.CX prog w) prog w K mg base N_law_kinds ("_law_kinds" : Str) (defScope st_law_kinds) ((dm .law_kinds).adr K) cdv A outer s H E) σ E := fun σ => passAt tk σ
  have hpo : PassesOwn (model prog w) _ _ (cxOf (L2.CX prog w) prog w K mg base N_law_kinds ("_law_kinds" : Str) (defScope st_law_kinds) ((dm .law_kinds).adr K) cdv A outer s H E).xe := passes_of rfl
  exact (pss_cons (ps_set (i := 1) nd rfl (by first | exact Or.inl rfl | exact Or.inr rfl) (pe_lst (pa_cons (pe_callB call_isi rfl T.z_isinstance (by decide +kernel) (pa_cons (pv 0) (pa_cons (pe_glob rfl T.g_Take rfl) pa_nil))) (pa_cons (pe_callB call_isi rfl T.z_isinstance (by decide +kernel) (pa_cons (pv 0) (pa_cons (pe_glob rfl T.g_Set rfl) pa_nil))) (pa_cons (pe_callB call_isi rfl T.z_isinstance (by decide +kernel) (pa_cons (pv 0) (pa_cons (pe_glob rfl T.g_Work rfl) pa_nil))) (pa_cons (pe_callB call_isi rfl T.z_isinstance (by decide +kernel) (pa_cons (pv 0) (pa_cons (pe_glob rfl T.g_Print rfl) pa_nil))) pa_nil)))))) (pss_cons (ps_set (i := 1) nd rfl (by first | exact Or.inl rfl | exact Or.inr rfl) (pe_op op_addA (pv 1) (pe_lst (pa_cons (pe_callB call_isi rfl T.z_isinstance (by decide +kernel) (pa_cons (pv 0) (pa_cons (pe_glob rfl T.g_Test rfl) pa_nil))) (pa_cons (pe_callB call_isi rfl T.z_isinstance (by decide +kernel) (pa_cons (pv 0) (pa_cons (pe_glob rfl T.g_Loop rfl) pa_nil))) (pa_cons (pe_callB call_isi rfl T.z_isinstance (by decide +kernel) (pa_cons (pv 0) (pa_cons (pe_glob rfl T.g_Guard rfl) pa_nil))) pa_nil)))))) (pss_cons (ps_set (i := 1) nd rfl (by first | exact Or.inl rfl | exact Or.inr rfl) (pe_op op_addA (pv 1) (pe_lst (pa_cons (pe_callB call_isi rfl T.z_isinstance (by decide +kernel) (pa_cons (pv 0) (pa_cons (pe_glob rfl T.g_Call rfl) pa_nil))) (pa_cons (pe_callB call_isi rfl T.z_isinstance (by decide +kernel) (pa_cons (pv 0) (pa_cons (pe_glob rfl T.g_Leave rfl) pa_nil))) (pa_cons (pe_callB call_isi rfl T.z_isinstance (by decide +kernel) (pa_cons (pv 0) (pa_cons (pe_glob rfl T.g_Step rfl) pa_nil))) pa_nil)))))) (pss_cons (ps_set (i := 1) nd rfl (by first | exact Or.inl rfl | exact Or.inr rfl) (pe_op op_addA (pv 1) (pe_lst (pa_cons (pe_callB call_isi rfl T.z_isinstance (by decide +kernel) (pa_cons (pv 0) (pa_cons (pe_glob rfl T.g_Writer rfl) pa_nil))) (pa_cons (pe_callB call_isi rfl T.z_isinstance (by decide +kernel) (pa_cons (pv 0) (pa_cons (pe_glob rfl T.g_Reader rfl) pa_nil))) (pa_cons (pe_callB call_isi rfl T.z_isinstance (by decide +kernel) (pa_cons (pv 0) (pa_cons (pe_glob rfl T.g_Holder rfl) pa_nil))) pa_nil)))))) (pss_one (ps_ret (pe_op op_addA (pv 1) (pe_lst (pa_cons (pe_callB call_isi rfl T.z_isinstance (by decide +kernel) (pa_cons (pv 0) (pa_cons (pe_glob rfl T.g_Block rfl) pa_nil))) pa_nil)))))))))
theorem ok_law_due (T : Txt K w mg) (G : AllOk prog w K mg base k) : FnOk prog w K mg base (L2.CX prog w) (lev (k + 1)) ((dm .law_due).adr K) (fdAt K ((dm .law_due).adr K)) (ps .law_due) (Gam K w (k + 1) .law_due) := by
  have S : FnScope N_law_due (ps .law_due) (defScope st_law_due) := ⟨rfl, rfl, rfl, by decide +kernel, rfl, by decide +kernel, by decide +kernel⟩
  have nd := S.nd
  refine FunD.ok (k := 2 * k + 1) T.k.f_law_due S (fun vs H Q E h => h.1) (fun cdv A outer s H vs Q E hr h => ⟨rd_law_due K, ?_, h.2⟩)
  have hr0 : Room (lev k) _ := hr.mono (Nat.le_succ _)
  have tk : Takes (cxOf (L2.CX prog w) prog w K mg base N_law_due ("_law_due" : Str) (defScope st_law_due) ((dm .law_due).adr K) cdv A outer s H E) (fun cls d _ H => E cls d H) := takes_of rfl rfl rfl rfl
  have hx : ∀ σ, PassesAt (L2.CX prog w) (cxOf (L2.CX prog w) prog w K mg base N_law_due ("_law_due" : Str) (defScope st_law_due) ((dm .law_due).adr K) cdv A outer s H E) σ E := fun σ => passAt tk σ
  have hpo : PassesOwn (model prog w) _ _ (cxOf (L2.CX prog w) prog w K mg base N_law_due ("_law_due" : Str) (defScope st_law_due) ((dm .law_due).adr K) cdv A outer s H E).xe := passes_of rfl
  exact (pss_cons (ps_set (i := 1) nd rfl (by first | exact Or.inl rfl | exact Or.inr rfl) (pe_lst (pa_cons pe_str (pa_cons pe_str (pa_cons pe_str (pa_cons pe_str (pa_cons pe_str (pa_cons pe_str (pa_cons pe_str (pa_cons pe_str (pa_cons pe_str pa_nil))))))))))) (pss_cons (ps_set (i := 2) nd rfl (by first | exact Or.inl rfl | exact Or.inr rfl) (pe_op op_addA (pe_lc (own := [(("_law_one" : Str), 3)]) (by rfl) nd (pi_any (pv 1)) (blkOk_by (own := [(("_law_one" : Str), 3)]) (N := N_law_due) (sc := defScope st_law_due) (by decide +kernel)) (fun _ _ _ _ _ => pg_name (i := 3) nd rfl (Or.inl rfl)) (fun _ _ _ _ _ => pts_nil) (fun _ _ _ _ _ => (pe_cmpR (op_eqA hr.units) (pv 0) (pv 3) (nomark _)))) (pe_lst (pa_cons pe_bl (pa_cons (pe_cmpR (op_inA (hu_of hr)) (pv 0) (pe_tup (pa_cons pe_str (pa_cons pe_str (pa_cons pe_str pa_nil)))) (by rfl)) pa_nil))))) (pss_cons (ps_set (i := 2) nd rfl (by first | exact Or.inl rfl | exact Or.inr rfl) (pe_op op_addA (pv 2) (pe_lst (pa_cons (pe_cmpR (op_inA (hu_of hr)) (pv 0) (pe_tup (pa_cons pe_str (pa_cons pe_str (pa_cons pe_str (pa_cons pe_str pa_nil))))) (by rfl)) (pa_cons (pe_cmpR (op_inA (hu_of hr)) (pv 0) (pe_tup (pa_cons pe_str (pa_cons pe_str (pa_cons pe_str (pa_cons pe_str pa_nil))))) (by rfl)) pa_nil))))) (pss_one (ps_ret (pe_op op_addA (pv 2) (pe_lst (pa_cons (pe_cmpR (op_inA (hu_of hr)) (pv 0) (pe_tup (pa_cons pe_str (pa_cons pe_str (pa_cons pe_str pa_nil)))) (by rfl)) pa_nil))))))))
theorem ok_law_reads (T : Txt K w mg) (G : AllOk prog w K mg base k) : FnOk prog w K mg base (L2.CX prog w) (lev (k + 1)) ((dm .law_reads).adr K) (fdAt K ((dm .law_reads).adr K)) (ps .law_reads) (Gam K w (k + 1) .law_reads) := by
  have S : FnScope N_law_reads (ps .law_reads) (defScope st_law_reads) := ⟨rfl, rfl, rfl, by decide +kernel, rfl, by decide +kernel, by decide +kernel⟩
  have nd := S.nd
  refine FunD.ok (k := 2 * k + 1) T.k.f_law_reads S (fun vs H Q E h => h.1) (fun cdv A outer s H vs Q E hr h => ⟨rd_law_reads K, ?_, h.2⟩)
  have hr0 : Room (lev k) _ := hr.mono (Nat.le_succ _)
  have tk : Takes (cxOf (L2.CX prog w) prog w K mg base N_law_reads ("_law_reads" : Str) (defScope st_law_reads) ((dm .law_reads).adr K) cdv A outer s H E) (fun cls d _ H => E cls d H) := takes_of rfl rfl rfl rfl
  have hx : ∀ σ, PassesAt (L2.CX prog w) (cxOf (L2.CX prog w) prog w K mg base N_law_reads ("_law_reads" : Str) (defScope st_law_reads) ((dm .law_reads).adr K) cdv A outer s H E) σ E := fun σ => passAt tk σ
  have hpo : PassesOwn (model prog w) _ _ (cxOf (L2.CX prog w) prog w K mg base N_law_reads ("_law_reads" : Str) (defScope st_law_reads) ((dm .law_reads).adr K) cdv A outer s H E).xe := passes_of rfl
  exact (pss_cons (ps_if (pt_cmpR (op_eqA hr.units) (pe_ix ix_seq (pv 0) pe_int (fun _ _ => rfl)) pe_str (nomark _)) (pss_one (ps_ret (pe_lst (pa_cons (pe_ix ix_seq (pv 0) pe_int (fun _ _ => rfl)) (pa_cons (pe_ix ix_seq (pv 0) pe_int (fun _ _ => rfl)) pa_nil))))) pss_nil) (pss_cons (ps_if (pt_cmpR (op_eqA hr.units) (pe_ix ix_seq (pv 0) pe_int (fun _ _ => rfl)) pe_str (nomark _)) (pss_one (ps_ret (pe_lst (pa_cons (pe_ix ix_seq (pv 0) pe_int (fun _ _ => rfl)) pa_nil)))) pss_nil) (pss_cons (ps_if (PW.pt (pw_or (pt_cmpR (op_eqA hr.units) (pe_ix ix_seq (pv 0) pe_int (fun _ _ => rfl)) pe_str (nomark _)) (pw_or1 (pt_cmpR (op_eqA hr.units) (pe_ix ix_seq (pv 0) pe_int (fun _ _ => rfl)) pe_str (nomark _))))) (pss_one (ps_ret (pe_lst (pa_cons (pe_ix ix_seq (pv 0) pe_int (fun _ _ => rfl)) pa_nil)))) pss_nil) (pss_one (ps_ret (pe_lst pa_nil))))))
theorem ok_law_fits (T : Txt K w mg) (G : AllOk prog w K mg base k) : FnOk prog w K mg base (L2.CX prog w) (lev (k + 1)) ((dm .law_fits).adr K) (fdAt K ((dm .law_fits).adr K)) (ps .law_fits) (Gam K w (k + 1) .law_fits) := by
  have S : FnScope N_law_fits (ps .law_fits) (defScope st_law_fits) := ⟨rfl, rfl, rfl, by decide +kernel, rfl, by decide +kernel, by decide +kernel⟩
  have nd := S.nd
  obtain ⟨_, hv_build_step_1, hb_build_step_1⟩ := T.k.b_build_step_1
  refine FunD.ok (k := 2 * k + 1) T.k.f_law_fits S (fun vs H Q E h => h.1) (fun cdv A outer s H vs Q E hr h => ⟨rd_law_fits K (Gam K w k) E, ?_, h.2⟩)
  have hr0 : Room (lev k) _ := hr.mono (Nat.le_succ _)
  have tk : Takes (cxOf (L2.CX prog w) prog w K mg base N_law_fits ("_law_fits" : Str) (defScope st_law_fits) ((dm .law_fits).adr K) cdv A outer s H E) (fun cls d _ H => E cls d H) := takes_of rfl rfl rfl rfl
  have hx : ∀ σ, PassesAt (L2.CX prog w) (cxOf (L2.CX prog w) prog w K mg base N_law_fits ("_law_fits" : Str) (defScope st_law_fits) ((dm .law_fits).adr K) cdv A outer s H E) σ E := fun σ => passAt tk σ
  have hpo : PassesOwn (model prog w) _ _ (cxOf (L2.CX prog w) prog w K mg base N_law_fits ("_law_fits" : Str) (defScope st_law_fits) ((dm .law_fits).adr K) cdv A outer s H E).xe := passes_of rfl
  exact (pss_cons (ps_set (i := 2) nd rfl (by first | exact Or.inl rfl | exact Or.inr rfl) (pe_callSD (G .build_step) hr0 rfl T.g_build_step (T.k.f_build_step).kp hb_build_step_1 hv_build_step_1 hx (pa_cons (pv 1) pa_nil))) (pss_cons (ps_if (PW.pt (pw_or (pt_not (pt_val (pe_callSD (G .law_same) hr0 rfl T.g_law_same (T.k.f_law_same).kp T.k.b_law_same_2 .nil hx (pa_cons (pe_dyn0 (pv 2) (fa_cons ⟨_, _, _, T.k.c_Take, T.k.me_Take_row, G .Take_row, T.k.b_Take_row_1⟩ (fa_cons ⟨_, _, _, T.k.c_Set, T.k.me_Set_row, G .Set_row, T.k.b_Set_row_1⟩ (fa_cons ⟨_, _, _, T.k.c_Work, T.k.me_Work_row, G .Work_row, T.k.b_Work_row_1⟩ (fa_cons ⟨_, _, _, T.k.c_Print, T.k.me_Print_row, G .Print_row, T.k.b_Print_row_1⟩ (fa_cons ⟨_, _, _, T.k.c_Test, T.k.me_Test_row, G .Test_row, T.k.b_Test_row_1⟩ (fa_cons ⟨_, _, _, T.k.c_Loop, T.k.me_Loop_row, G .Loop_row, T.k.b_Loop_row_1⟩ (fa_cons ⟨_, _, _, T.k.c_Guard, T.k.me_Guard_row, G .Guard_row, T.k.b_Guard_row_1⟩ (fa_cons ⟨_, _, _, T.k.c_Call, T.k.me_Call_row, G .Call_row, T.k.b_Call_row_1⟩ (fa_cons ⟨_, _, _, T.k.c_Leave, T.k.me_Leave_row, G .Leave_row, T.k.b_Leave_row_1⟩ fa_nil))))))))) hr0 .nil hx) (pa_cons (pv 0) pa_nil))))) (pw_or1 (pt_cmpR (op_neA hr.units) (pe_callSD (G .law_kinds) hr0 rfl T.g_law_kinds (T.k.f_law_kinds).kp T.k.b_law_kinds_1 .nil hx (pa_cons (pv 2) pa_nil)) (pe_callSD (G .law_due) hr0 rfl T.g_law_due (T.k.f_law_due).kp T.k.b_law_due_1 .nil hx (pa_cons (pe_ix ix_seq (pv 0) pe_int (fun _ _ => rfl)) pa_nil)) (nomark _))))) (pss_one (ps_ret pe_bl)) pss_nil) (pss_cons (ps_if (PW.pt (pw_or (pt_not (pt_val (pe_callB call_isi rfl T.z_isinstance (by decide +kernel) (pa_cons (pe_fld (pv 2) rfl) (pa_cons (pe_bltn rfl T.z_tuple (by decide +kernel) rfl) pa_nil))))) (pw_or1 (pt_not (pt_val (pe_callB call_isi rfl T.z_isinstance (by decide +kernel) (pa_cons (pe_fld (pv 2) rfl) (pa_cons (pe_bltn rfl T.z_tuple (by decide +kernel) rfl) pa_nil)))))))) (pss_one (ps_ret pe_bl)) pss_nil) (pss_one (ps_ret (pe_and (pe_cmpR (op_eqA hr.units) (pe_callTy call_listA rfl T.z_list (by decide +kernel) (pa_cons (pe_fld (pv 2) rfl) pa_nil)) (pe_callSD (G .law_once) hr0 rfl T.g_law_once (T.k.f_law_once).kp T.k.b_law_once_1 .nil hx (pa_cons (pe_callSD (G .law_written) hr0 rfl T.g_law_written (T.k.f_law_written).kp T.k.b_law_written_1 .nil hx (pa_cons (pe_lst (pa_cons (pv 0) pa_nil)) pa_nil)) pa_nil)) (nomark _)) (pe_one (pe_cmpR (op_eqA hr.units) (pe_callTy call_listA rfl T.z_list (by decide +kernel) (pa_cons (pe_fld (pv 2) rfl) pa_nil)) (pe_callSD (G .law_reads) hr0 rfl T.g_law_reads (T.k.f_law_reads).kp T.k.b_law_reads_1 .nil hx (pa_cons (pv 0) pa_nil)) (nomark _)))))))))
theorem ok_law (T : Txt K w mg) (G : AllOk prog w K mg base k) : FnOk prog w K mg base (L2.CX prog w) (lev (k + 1)) ((dm .law).adr K) (fdAt K ((dm .law).adr K)) (ps .law) (Gam K w (k + 1) .law) := by
  have S : FnScope N_law (ps .law) (defScope st_law) := ⟨rfl, rfl, rfl, by decide +kernel, rfl, by decide +kernel, by decide +kernel⟩
  have nd := S.nd
  refine FunD.ok (k := 2 * k + 1) T.k.f_law S (fun vs H Q E h => h.1) (fun cdv A outer s H vs Q E hr h => ⟨rd_law K (Gam K w k) E, ?_, h.2⟩)
  have hr0 : Room (lev k) _ := hr.mono (Nat.le_succ _)
  have tk : Takes (cxOf (L2.CX prog w) prog w K mg base N_law ("law" : Str) (defScope st_law) ((dm .law).adr K) cdv A outer s H E) (fun cls d _ H => E cls d H) := takes_of rfl rfl rfl rfl
  have hx : ∀ σ, PassesAt (L2.CX prog w) (cxOf (L2.CX prog w) prog w K mg base N_law ("law" : Str) (defScope st_law) ((dm .law).adr K) cdv A outer s H E) σ E := fun σ => passAt tk σ
  have hpo : PassesOwn (model prog w) _ _ (cxOf (L2.CX prog w) prog w K mg base N_law ("law" : Str) (defScope st_law) ((dm .law).adr K) cdv A outer s H E).xe := passes_of rfl
  exact (pss_cons (ps_set (i := 1) nd rfl (by first | exact Or.inl rfl | exact Or.inr rfl) (pe_callSD (G .law_names) hr0 rfl T.g_law_names (T.k.f_law_names).kp T.k.b_law_names_1 .nil hx (pa_cons (pe_callSD (G .law_draws) hr0 rfl T.g_law_draws (T.k.f_law_draws).kp T.k.b_law_draws_3 .nil hx (pa_cons (pe_callSD (G .law_cell) hr0 rfl T.g_law_cell (T.k.f_law_cell).kp T.k.b_law_cell_2 .nil hx (pa_cons (pv 0) (pa_cons pe_int pa_nil))) (pa_cons pe_int (pa_cons pe_int pa_nil)))) pa_nil))) (pss_cons (ps_set (i := 2) nd rfl (by first | exact Or.inl rfl | exact Or.inr rfl) (pe_tup (pa_cons (pe_lst (pa_cons pe_int (pa_cons pe_int (pa_cons pe_int pa_nil)))) (pa_cons pe_int (pa_cons (pe_cmpR (op_eqA hr.units) (pe_op op_modI (pe_callSD (G .law_cell) hr0 rfl T.g_law_cell (T.k.f_law_cell).kp T.k.b_law_cell_2 .nil hx (pa_cons (pv 0) (pa_cons pe_int pa_nil))) pe_int) pe_int (nomark _)) (pa_cons pe_int pa_nil)))))) (pss_cons (ps_set (i := 3) nd rfl (by first | exact Or.inl rfl | exact Or.inr rfl) (pe_ix ix_seq (pe_callSD (G .law_rows) hr0 rfl T.g_law_rows (T.k.f_law_rows).kp T.k.b_law_rows_6 .nil hx (pa_cons (pe_callSD (G .law_draws) hr0 rfl T.g_law_draws (T.k.f_law_draws).kp T.k.b_law_draws_3 .nil hx (pa_cons (pe_callSD (G .law_cell) hr0 rfl T.g_law_cell (T.k.f_law_cell).kp T.k.b_law_cell_2 .nil hx (pa_cons (pv 0) (pa_cons pe_int pa_nil))) (pa_cons pe_int (pa_cons pe_int pa_nil)))) (pa_cons pe_int (pa_cons pe_int (pa_cons pe_int (pa_cons (pv 1) (pa_cons (pv 2) pa_nil))))))) pe_int (fun _ _ => rfl))) (pss_cons (ps_set (i := 4) nd rfl (by first | exact Or.inl rfl | exact Or.inr rfl) (pv 3)) (pss_cons (ps_if (pt_cmpR (op_eqA hr.units) (pe_op op_modI (pe_op op_fdivI (pe_callSD (G .law_cell) hr0 rfl T.g_law_cell (T.k.f_law_cell).kp T.k.b_law_cell_2 .nil hx (pa_cons (pv 0) (pa_cons pe_int pa_nil))) pe_int) pe_int) pe_int (nomark _)) (pss_one (ps_set (i := 4) nd rfl (by first | exact Or.inl rfl | exact Or.inr rfl) (pe_callSD (G .law_lists) hr0 rfl T.g_law_lists (T.k.f_law_lists).kp T.k.b_law_lists_1 .nil hx (pa_cons (pv 3) pa_nil)))) pss_nil) (pss_cons (ps_for hpo rfl (pi_range1 (by rfl) T.z_range (pa_cons (pe_callB call_lenA rfl T.z_len (by decide +kernel) (pa_cons (pv 3) pa_nil)) pa_nil)) (pg_name (i := 5) nd rfl (by first | exact Or.inl rfl | exact Or.inr rfl)) (pss_one (ps_if (pt_not (pt_val (pe_callSD (G .law_fits) hr0 rfl T.g_law_fits (T.k.f_law_fits).kp T.k.b_law_fits_2 .nil hx (pa_cons (pe_ix ix_seq (pv 3) (pv 5) (fun _ _ => rfl)) (pa_cons (pe_ix ix_seq (pv 4) (pv 5) (fun _ _ => rfl)) pa_nil))))) (pss_one (ps_ret pe_bl)) pss_nil))) (pss_one (ps_ret (pe_and (pe_callSD (G .law_fits) hr0 rfl T.g_law_fits (T.k.f_law_fits).kp T.k.b_law_fits_2 .nil hx (pa_cons (pe_tup (pa_cons pe_str pa_nil)) (pa_cons (pe_tup (pa_cons pe_str pa_nil)) pa_nil))) (pe_one (pe_callSD (G .law_fits) hr0 rfl T.g_law_fits (T.k.f_law_fits).kp T.k.b_law_fits_2 .nil hx (pa_cons (pe_tup (pa_cons pe_str (pa_cons (pe_tup pa_nil) pa_nil))) (pa_cons (pe_tup (pa_cons pe_str (pa_cons (pe_lst pa_nil) pa_nil))) pa_nil)))))))))))))
end
theorem ok_zero {w : World} {K : PySem.W.Frag} {mg : Str → Option Value} {base : Heap} : AllOk prog w K mg base 0 := fun f => ⟨fun _ _ _ _ h => h.elim, fun _ _ _ _ _ _ _ _ _ _ _ _ _ h => h.elim⟩
theorem ok_all {w : World} {K : PySem.W.Frag} {mg : Str → Option Value} {base : Heap} (T : Txt K w mg) : ∀ k, AllOk prog w K mg base k
  | 0 => ok_zero
  | k + 1 => fun f => match f with
    | .Step_init => ok_Step_init T (ok_all T k)
    | .Take_init => ok_Take_init T (ok_all T k)
    | .Take_row => ok_Take_row T (ok_all T k)
    | .Set_init => ok_Set_init T (ok_all T k)
    | .Set_row => ok_Set_row T (ok_all T k)
    | .Work_init => ok_Work_init T (ok_all T k)
    | .Work_row => ok_Work_row T (ok_all T k)
    | .Print_init => ok_Print_init T (ok_all T k)
    | .Print_row => ok_Print_row T (ok_all T k)
    | .Test_init => ok_Test_init T (ok_all T k)
    | .Test_row => ok_Test_row T (ok_all T k)
    | .Block_init => ok_Block_init T (ok_all T k)
    | .Loop_init => ok_Loop_init T (ok_all T k)
    | .Loop_row => ok_Loop_row T (ok_all T k)
    | .Guard_init => ok_Guard_init T (ok_all T k)
    | .Guard_row => ok_Guard_row T (ok_all T k)
    | .Call_init => ok_Call_init T (ok_all T k)
    | .Call_row => ok_Call_row T (ok_all T k)
    | .Leave_init => ok_Leave_init T (ok_all T k)
    | .Leave_row => ok_Leave_row T (ok_all T k)
    | .rows_of => ok_rows_of T (ok_all T k)
    | .check_name => ok_check_name T (ok_all T k)
    | .check_number => ok_check_number T (ok_all T k)
    | .build_body => ok_build_body T (ok_all T k)
    | .build_step => ok_build_step T (ok_all T k)
    | .build_named => ok_build_named T (ok_all T k)
    | .law_cell => ok_law_cell T (ok_all T k)
    | .law_draws => ok_law_draws T (ok_all T k)
    | .law_names => ok_law_names T (ok_all T k)
    | .law_rows => ok_law_rows T (ok_all T k)
    | .law_row => ok_law_row T (ok_all T k)
    | .law_deep_row => ok_law_deep_row T (ok_all T k)
    | .law_written => ok_law_written T (ok_all T k)
    | .law_once => ok_law_once T (ok_all T k)
    | .law_same => ok_law_same T (ok_all T k)
    | .law_lists => ok_law_lists T (ok_all T k)
    | .law_kinds => ok_law_kinds T (ok_all T k)
    | .law_due => ok_law_due T (ok_all T k)
    | .law_reads => ok_law_reads T (ok_all T k)
    | .law_fits => ok_law_fits T (ok_all T k)
    | .law => ok_law T (ok_all T k)
end L2.MP

set_option Elab.async false
set_option linter.all false
set_option maxRecDepth 100000
set_option maxHeartbeats 4000000
namespace L2.MP
open PySem PySem.Spec PyProof.Rows L2
/-! ### the stepping tactic -/
local macro_rules | `(tactic| walk_at "ne") => `(tactic| first
  | with_reducible assumption
  | ((with_reducible apply Ne.symm); with_reducible assumption)
  | ((with_reducible refine' ne_of_none ?a ?b); (case b => with_reducible assumption); (case a => walk_at "hp"))
  | ((with_reducible apply Ne.symm); (with_reducible refine' ne_of_none ?a ?b); (case b => with_reducible assumption); (case a => walk_at "hp"))
  | (refine' ne_of (by with_reducible assumption) (by with_reducible assumption) ?_; intro z; cases z))
local macro_rules | `(tactic| walk_at "hs") => `(tactic| first
  | with_reducible assumption
  | with_reducible exact upd_same
  | ((with_reducible apply up_new); (with_reducible assumption))
  | ((with_reducible apply Ex.at); (with_reducible assumption))
  | ((with_reducible apply up_ne); (walk_at "ne")))
local macro_rules | `(tactic| walk_at "hp") => `(tactic| ((repeat walk_at "hs"); done))
local macro_rules | `(tactic| walk_at "ss") => `(tactic| first
  | with_reducible assumption
  | ((with_reducible apply sqL_of); first | with_reducible assumption | with_reducible exact upd_same)
  | ((with_reducible apply sqT_of); first | with_reducible assumption | with_reducible exact upd_same)
  | ((with_reducible apply up_sqL); (with_reducible assumption))
  | ((with_reducible apply up_sqT); (with_reducible assumption))
  | ((with_reducible apply Ex.sqL); (with_reducible assumption))
  | ((with_reducible apply Ex.sqT); (with_reducible assumption))
  | ((with_reducible apply sqL_ne); (walk_at "ne"))
  | ((with_reducible apply sqT_ne); (walk_at "ne")))
local macro_rules | `(tactic| walk_at "sq") => `(tactic| ((repeat walk_at "ss"); done))
local macro_rules | `(tactic| walk_at "fl") => `(tactic| first
  | exact rfl
  | decide +kernel
  | (simp [flatOk, flat1]; done)
  | ((simp [flatOk, flat1]); decide +kernel))
local macro_rules | `(tactic| walk_at "ib") => `(tactic| first
  | omega
  | (refine Int.emod_nonneg _ ?_; omega)
  | (refine Int.emod_lt_of_pos _ ?_; omega))
local macro_rules | `(tactic| walk_at "ex") => `(tactic| first
  | with_reducible exact Ex.refl _
  | with_reducible assumption
  | ((with_reducible refine' Ex.trans ?a ?b); (case b => with_reducible assumption); (case a => walk_at "ex"))
  | ((with_reducible refine' Ex.new' ?a ?b); (case b => walk_at "nn"); (case a => walk_at "ex")))
local macro_rules | `(tactic| walk_at "nn") => `(tactic| first
  | with_reducible assumption
  | ((with_reducible refine' Ex.none ?a ?b); (case b => with_reducible assumption); (case a => walk_at "ex")))
local macro_rules | `(tactic| walk_at "bt") => `(tactic| first
  | exact rfl
  | (simp only [Bool.not_true, Bool.not_false, Bool.true_or, Bool.false_or, Bool.true_and, Bool.false_and, Bool.or_true, Bool.or_false, Bool.and_true, Bool.and_false, Bool.not_eq_true', Bool.not_eq_false', Bool.or_eq_true, Bool.or_eq_false_iff, Bool.and_eq_true, Bool.and_eq_false_iff, decide_eq_true_eq, decide_eq_false_iff_not] <;> omega)
  | (simp; done)
  | (simp; omega))
local macro_rules | `(tactic| walk_at "len") => `(tactic| first
  | exact Nat.le_of_ble_eq_true rfl
  | (simp only [List.length_cons, List.length_nil, List.length_append, List.length_map]; omega)
  | omega)
local macro_rules | `(tactic| walk_at "un") => `(tactic| fail)
local macro_rules | `(tactic| walk_at "cs") => `(tactic| fail)
local macro_rules | `(tactic| walk_at "st") => `(tactic| first
  | with_reducible refine k_var ?_
  | with_reducible refine k_asgS ?_
  | with_reducible refine k_c ?_
  | with_reducible refine k_op ?_
  | with_reducible refine k_cons ?_
  | with_reducible refine k_nil ?_
  | with_reducible refine k_seq ?_
  | with_reducible refine k_asg ?_
  | with_reducible refine k_cb ?_
  | with_reducible refine k_fld ?_
  | ((with_reducible refine' k_rfld ?h ?i ?j ?q); (case h => walk_at "hp"); (case i => infer_instance); (case j => infer_instance))
  | with_reducible refine k_if ?_
  | with_reducible refine k_test ?_
  | with_reducible refine k_bl ?_
  | with_reducible refine k_tB ?_
  | with_reducible refine k_itT ?_
  | with_reducible refine k_itF ?_
  | with_reducible refine k_next ?_
  | with_reducible refine k_ret ?_
  | with_reducible refine k_call ?_
  | with_reducible refine k_tup ?_
  | ((with_reducible refine' k_newTA ?h ?q); (case h => walk_at "len"); intro p H' hp he hm)
  | with_reducible refine k_lst ?_
  | ((with_reducible refine' k_newLA ?h ?q); (case h => walk_at "len"); intro p H' hp he hm)
  | with_reducible refine k_and ?_
  | with_reducible refine k_or ?_
  | with_reducible refine k_not ?_
  | with_reducible refine k_inot ?_
  | with_reducible refine o_eqI ?_
  | with_reducible refine o_eqB ?_
  | with_reducible refine o_eqS ?_
  | with_reducible refine o_neI ?_
  | with_reducible refine o_neB ?_
  | with_reducible refine o_neS ?_
  | with_reducible refine o_lt ?_
  | with_reducible refine o_le ?_
  | with_reducible refine o_gt ?_
  | with_reducible refine o_ge ?_
  | with_reducible refine o_addI ?_
  | ((with_reducible refine' o_addLA ?h1 ?h2 ?h ?q); (case h1 => walk_at "hp"); (case h2 => walk_at "hp"); (case h => walk_at "len"); intro p H' hp he hm; dsimp only [List.cons_append, List.nil_append] at hm)
  | with_reducible refine o_subI ?_
  | ((with_reducible refine' o_mod ?h ?q); (case h => first | decide | omega))
  | ((with_reducible refine' o_fdiv ?h ?q); (case h => first | exact ⟨by first | decide | omega, by first | decide | omega⟩ | exact ⟨by split <;> decide, by split <;> decide⟩))
  | ((with_reducible refine' o_mulI ?h ?q); (case h => first | exact .inl ⟨by first | decide | omega, by first | decide | omega⟩ | exact .inr ⟨by first | decide | omega, by first | decide | omega⟩))
  | ((with_reducible refine' o_ixTn ?h ?h0 ?e ?q); (case h => walk_at "sq"); (case h0 => decide); (case e => exact rfl))
  | ((with_reducible refine' o_ixLn ?h ?h0 ?e ?q); (case h => walk_at "sq"); (case h0 => decide); (case e => exact rfl))
  | ((with_reducible refine' o_ixD ?h ?h0 ?h1 ?q); (case h => walk_at "sq"); (case h0 => walk_at "ib"); (case h1 => walk_at "ib"))
  | ((with_reducible refine' o_ixSv ?h ?h0 ?h1 ?q); (case h => walk_at "sq"); (case h0 => walk_at "ib"); (case h1 => walk_at "ib"))
  | ((with_reducible refine' o_ix2S ?h ?q); (case h => walk_at "sq"))
  | ((with_reducible refine' o_ix2PT ?h ?hp ?q); (case h => walk_at "sq"); (case hp => omega))
  | ((with_reducible refine' o_ix2PL ?h ?hp ?q); (case h => walk_at "sq"); (case hp => omega))
  | ((with_reducible refine' o_inTI ?h ?c ?q); (case h => walk_at "sq"); (case c => infer_instance))
  | ((with_reducible refine' o_inLI ?h ?c ?q); (case h => walk_at "sq"); (case c => infer_instance))
  | ((with_reducible refine' o_ix2I ?h ?q); (case h => walk_at "sq"))
  | ((with_reducible refine' o_lenLS ?h ?q); (case h => walk_at "sq"))
  | ((with_reducible refine' o_lenLI ?h ?q); (case h => walk_at "sq"))
  | ((with_reducible refine' o_lenL ?h ?q); (case h => walk_at "sq"))
  | ((with_reducible refine' o_lenT ?h ?q); (case h => walk_at "sq"))
  | with_reducible refine' i_plain ?_
  | with_reducible refine' i_plainC ?_
  | ((with_reducible refine' i_insC ?h ?i ?c ?q); (case h => walk_at "hp"); (case i => infer_instance); (case c => infer_instance))
  | ((with_reducible refine' i_lst ?h ?c ?q); (case h => walk_at "hp"); (case c => infer_instance))
  | ((with_reducible refine' i_tup ?h ?c ?q); (case h => walk_at "hp"); (case c => infer_instance))
  | with_reducible refine k_prop ?_
  | ((with_reducible refine' k_rprop ?h ?q); (case h => walk_at "hp"))
  | with_reducible refine k_make ?_
  | with_reducible refine k_makeKS ?_
  | ((with_reducible refine' k_rmkK ?hl ?hg ?q); (case hl => exact rfl); (case hg => exact fun _ => rfl))
  | with_reducible refine k_meth ?_
  | ((with_reducible refine' k_rmeth ?h ?i ?q); (case h => walk_at "hp"); (case i => infer_instance))
  | with_reducible refine k_andV ?_
  | with_reducible refine k_orV ?_
  | with_reducible refine k_notV ?_
  | with_reducible refine k_rand ?_
  | with_reducible refine k_rnot ?_
  | with_reducible refine k_un ?_
  | with_reducible refine k_ifE ?_
  | with_reducible refine k_randT ?_
  | with_reducible refine k_randF ?_
  | with_reducible refine k_rorT ?_
  | with_reducible refine k_rorF ?_
  | with_reducible refine k_randtT ?_
  | with_reducible refine k_randtF ?_
  | with_reducible refine k_rortT ?_
  | with_reducible refine k_rortF ?_
  | ((with_reducible refine' k_randP ?h2 ?q); (case h2 => intro _ hq; (walk_at "go"); with_reducible exact hq))
  | ((with_reducible refine' k_rorP ?h2 ?q); (case h2 => intro _ hq; (walk_at "go"); with_reducible exact hq))
  | with_reducible refine k_randS ?_
  | with_reducible refine k_rorS ?_
  | ((with_reducible refine' k_rifI ?h1 ?h2 ?q); (case h1 => intro _ hq; (walk_at "go"); with_reducible exact hq); (case h2 => intro _ hq; (walk_at "go"); with_reducible exact hq))
  | with_reducible refine k_rifS ?_
  | ((with_reducible refine' k_randtP ?h2 ?q); (case h2 => intro _ hq; (walk_at "go"); with_reducible exact hq))
  | ((with_reducible refine' k_rortP ?h2 ?q); (case h2 => intro _ hq; (walk_at "go"); with_reducible exact hq))
  | with_reducible refine k_randtS ?_
  | with_reducible refine k_rortS ?_
  | ((with_reducible refine' k_own ?h ?i ?q); (case h => walk_at "hp"); (case i => walk_at "hp"))
  | ((with_reducible refine' k_ownI ?h ?q); (case h => walk_at "hp"))
  | ((with_reducible refine' k_ownA ?h ?q); (case h => walk_at "hp"))
  | with_reducible refine k_aug ?_
  | with_reducible refine o_addIp ?_
  | with_reducible refine k_drop ?_
  | with_reducible refine k_fldp ?_
  | ((with_reducible refine' k_rputU ?i ?j ?q); (case i => infer_instance); (case j => infer_instance))
  | ((with_reducible refine' k_rput ?h ?i ?j ?q); (case h => walk_at "hp"); (case i => infer_instance); (case j => infer_instance))
  | ((with_reducible refine' k_dispA ?h ?q); (case h => exact Nat.le_of_ble_eq_true rfl); intro p H' hp he hm)
  | with_reducible refine k_newK ?_
  | ((with_reducible refine' k_newDA ?q); intro p H' hp he hm)
  | with_reducible refine k_dget ?_
  | with_reducible refine k_dget2 ?_
  | ((with_reducible refine' k_rdgetC ?h ?e ?q); (case h => walk_at "hp"); (case e => infer_instance))
  | ((with_reducible refine' k_rdg2 ?h ?q); (case h => walk_at "hp"))
  | ((with_reducible refine' k_rdo ?h ?q); (case h => walk_at "hp"))
  | with_reducible refine k_dput ?_
  | ((with_reducible refine' k_rdputU ?hl ?e ?q); (case hl => exact Nat.le_of_ble_eq_true rfl); (case e => infer_instance))
  | ((with_reducible refine' k_rdputC ?h ?hl ?e ?q); (case h => walk_at "hp"); (case hl => exact Nat.le_of_ble_eq_true rfl); (case e => infer_instance))
  | with_reducible refine k_m1 ?_
  | with_reducible refine k_rm1 ?_
  | with_reducible refine k_bm ?_
  | ((with_reducible refine' k_rbmL ?h ?q); (case h => walk_at "sq"))
  | ((with_reducible refine' o_appendU ?hl ?q); (case hl => walk_at "len"))
  | ((with_reducible refine' o_append ?h ?hl ?q); (case h => walk_at "hp"); (case hl => walk_at "len"))
  | with_reducible refine k_ownIx ?_
  | ((with_reducible refine' k_rownIx ?h ?q); (case h => walk_at "hp"))
  | with_reducible refine k_ownPut ?_
  | ((with_reducible refine' k_rownPut ?h ?q); (case h => walk_at "hp"))
  | ((with_reducible refine' o_inT ?h ?q); (case h => walk_at "sq"))
  | ((with_reducible refine' o_ninT ?h ?q); (case h => walk_at "sq"))
  | ((with_reducible refine' o_inL ?h ?q); (case h => walk_at "sq"))
  | ((with_reducible refine' o_ninL ?h ?q); (case h => walk_at "sq"))
  | with_reducible refine o_pow18 ?_
  | with_reducible refine o_pow9 ?_
  | with_reducible refine o_pow30 ?_
  | with_reducible refine o_isB ?_
  | with_reducible refine o_neg ?_
  | with_reducible refine o_isN ?_
  | with_reducible refine o_notN ?_
  | with_reducible refine o_max ?_
  | with_reducible refine o_min ?_
  | with_reducible refine o_intI ?_
  | with_reducible refine o_intB ?_
  | with_reducible refine o_abs ?_
  | with_reducible refine k_forR1 ?_
  | with_reducible refine k_forR2 ?_
  | with_reducible refine k_forL ?_
  | with_reducible refine k_forT ?_
  | ((with_reducible refine' k_turnR ?e ?q); (case e => exact rfl))
  | with_reducible refine k_doneR ?_
  | ((with_reducible refine' k_turnL ?h ?q); (case h => walk_at "sq"))
  | ((with_reducible refine' k_doneL ?h ?q); (case h => walk_at "sq"))
  | ((with_reducible refine' k_turnT ?h ?q); (case h => walk_at "sq"))
  | ((with_reducible refine' k_doneT ?h ?q); (case h => walk_at "sq"))
  | with_reducible refine k_forA ?_
  | with_reducible refine k_lcA ?_
  | ((with_reducible refine' o_tupL ?h ?q); (case h => walk_at "sq"); intro p H' hp he hm)
  | ((with_reducible refine' o_lisL ?h ?q); (case h => walk_at "sq"); intro p H' hp he hm)
  | ((with_reducible refine' o_lisT ?h ?q); (case h => walk_at "sq"); intro p H' hp he hm)
  | ((with_reducible refine' o_tupT ?h ?q); (case h => walk_at "sq"))
  | with_reducible refine k_dyn ?_
  | ((with_reducible refine' k_rdyn ?h ?i ?c ?q); (case h => walk_at "hp"); (case i => infer_instance); (case c => infer_instance))
  | with_reducible refine k_brk ?_
  | with_reducible refine k_cont ?_
  | with_reducible refine k_raise ?_
  | with_reducible refine k_retN ?_
  | walk_at "un"
  | walk_at "cs"
  | ((with_reducible refine' k_itdT ?h ?q); (case h => first | with_reducible assumption | omega | decide))
  | ((with_reducible refine' k_itdF ?h ?q); (case h => first | with_reducible assumption | omega | decide))
  | ((with_reducible refine' k_ifT ?h ?q); (case h => walk_at "bt"))
  | ((with_reducible refine' k_ifF ?h ?q); (case h => walk_at "bt")))
local macro_rules | `(tactic| walk_at "go") => `(tactic| repeat walk_at "st")
local macro_rules | `(tactic| walk_at "sp") => `(tactic| repeat' (first | walk_at "st" | refine k_itd (fun h => ?_) (fun h => ?_) | refine k_itb (fun h => ?_) (fun h => ?_)))
section
variable {K : PySem.W.Frag} [TxtK K] {w : World} {k : Nat} {H : Hp} {Q : VK} {E : XK} {xs : List V} {a b dx dy : Addr} {n m : Int} {l l' : Bool}
theorem s_law_cell {i : Int} {ns : List Int} (hv : xs = [.ref a, .int i]) (hS : SqL K H a (ns.map V.int)) (hi : 0 ≤ i) (q : Q (.int (cellv ns i)) H) : Gam K w (k + 1) .law_cell xs H Q E := by
  subst hv
  refine ⟨rfl, ?_⟩
  unfold rd_law_cell
  refine k_start ?_
  walk_at "go"
  refine k_itd (fun h => ?_) (fun h => ?_)
  · walk_at "go"
    exact q
  · walk_at "go"
    rw [cell_out hi (by simpa using h)] at q
    exact q
end
local macro_rules | `(tactic| walk_at "cs") => `(tactic| ((with_reducible refine' s_law_cell ?hv ?hS ?hi ?q); (case hv => exact rfl); (case hS => walk_at "sq"); (case hi => first | decide | omega)))
section
variable {K : PySem.W.Frag} [TxtK K] {w : World} {k : Nat} {H : Hp} {Q : VK} {E : XK} {xs : List V} {a b : Addr}
def rng60 (ds : List Int) : Prop := ∀ d ∈ ds, 0 ≤ d ∧ d < 60
theorem s_law_draws {c s : Int} {many : Nat} (hv : xs = [.int c, .int many, .int s]) (hm : many ≤ 1000) (hs : 0 ≤ s ∧ s < 1000) (q : ∀ p H' ds, H p = none → Ex H H' → H' p = some (.lst (ds.map V.int)) → ds.length = many → rng60 ds → Q (.ref p) H') :
    Gam K w (k + 1) .law_draws xs H Q E := by
  subst hv
  refine ⟨rfl, ?_⟩
  unfold rd_law_draws
  refine k_start ?_
  walk_at "go"
  rename_i p H1 hp he hm1
  generalize hsz : (if c < 0 then -c else c) = sz
  have hsz0 : 0 ≤ sz := by subst hsz; split <;> omega
  clear hsz
  refine k_rr1I ⟨by omega, by omega⟩ (fun m σ H' => ∃ (r : Int) (ds : List Int) (u v : Option V), σ = [some (.int c), some (.int many), some (.int s), some (.int sz), some (.int r), some (.ref p), u, v] ∧ 0 ≤ r ∧ ds.length = m ∧ rng60 ds ∧ Ex H H' ∧ H' p = some (.lst (ds.map V.int)))
    ⟨sz, [], none, none, rfl, hsz0, rfl, (fun d hd => nomatch hd), he, hm1⟩ ?_ ?_
  · intro m σ H' hm' hI
    obtain ⟨r, ds, u, v, rfl, hr0, hl, hd, hx, hm⟩ := hI
    dsimp only [List.set]
    walk_at "go"
    refine k_itb (fun h => ?_) (fun h => ?_)
    · walk_at "go"
      refine ⟨r / 60, ds ++ [r % 60], some (.int m), v, rfl, by omega, by simp [hl], fun d hd' => ?_, hx.new' hp, by rw [upd_same, List.map_append]; rfl⟩
      rcases List.mem_append.mp hd' with z | z
      · exact hd d z
      · simp only [List.mem_cons, List.not_mem_nil, or_false] at z; subst z; omega
    · walk_at "go"
      refine ⟨r, ds ++ [_], some (.int m), some (.int _), rfl, hr0, by simp [hl], fun d hd' => ?_, hx.new' hp, by rw [upd_same, List.map_append]; rfl⟩
      rcases List.mem_append.mp hd' with z | z
      · exact hd d z
      · simp only [List.mem_cons, List.not_mem_nil, or_false] at z; subst z; omega
  · rintro σ H' ⟨r, ds, u, v, rfl, hr0, hl, hd, hx, hm⟩
    walk_at "go"
    exact q p _ ds hp hx hm (by simpa using hl) hd
end
local macro_rules | `(tactic| walk_at "cs") => `(tactic| ((with_reducible refine' s_law_draws ?hv ?hm ?hs ?q); (case hv => exact rfl); (case hm => decide); (case hs => decide); intro p H' ds hp he hm hl hr))
/-- what the program takes for a name -/
def nmOk (x : Str) : Prop := 1 ≤ x.length ∧ x.length ≤ 12 ∧ (∃ c, x.cps[0]? = some c ∧ c ∈ ("abcdefghijklmnopqrstuvwxyz" : Str).cps.toList) ∧ ∀ (i c : Nat), x.cps[i]? = some c → c ∈ ("abcdefghijklmnopqrstuvwxyz0123456789" : Str).cps.toList
def nmB (x : Str) : Bool := decide (1 ≤ x.length) && (decide (x.length ≤ 12) && ((match x.cps[0]? with | some c => ("abcdefghijklmnopqrstuvwxyz" : Str).cps.toList.contains c | none => false) && x.cps.toList.all fun c => ("abcdefghijklmnopqrstuvwxyz0123456789" : Str).cps.toList.contains c))
theorem nmB_ok {x : Str} (h : nmB x = true) : nmOk x := by
  obtain ⟨h1, h⟩ := He.ba h
  obtain ⟨h2, h⟩ := He.ba h
  obtain ⟨h3, h4⟩ := He.ba h
  refine ⟨of_decide_eq_true h1, of_decide_eq_true h2, ?_, fun i c e => ?_⟩
  · split at h3
    · rename_i c e
      exact ⟨c, e, List.contains_iff_mem.mp h3⟩
    · cases h3
  · exact List.contains_iff_mem.mp (List.all_eq_true.mp h4 c (by rw [← Array.getElem?_toList] at e; exact List.mem_of_getElem? e))
def PRE : List Str := [("" : Str), ("v" : Str), ("x9" : Str), ("name" : Str)]
def SUF : List Str := [("" : Str), ("0" : Str), ("7z" : Str), ("long" : Str)]
def nmAt (i j l m : Nat) : Str := sv PRE (i : Int) ++ ⟨#[97 + j]⟩ ++ sv SUF (l : Int) ++ Txt.mul ("1" : Str) (m : Int)
theorem nmAt_ok : ∀ i < 4, ∀ j < 26, ∀ l < 4, ∀ m < 4, nmB (nmAt i j l m) = true := by decide +kernel
theorem abc_at : ∀ j < 26, ("abcdefghijklmnopqrstuvwxyz" : Str).cps[j]? = some (97 + j) := by decide +kernel
theorem pre_len : ∀ i < 4, (sv PRE (i : Nat)).length ≤ 4 ∧ (sv SUF (i : Nat)).length ≤ 4 ∧ (Txt.mul ("1" : Str) (i : Nat)).length ≤ 4 := by decide +kernel
theorem mul_ok : ∀ i < 4, MulOk ("1" : Str) (i : Nat) := by
  intro i hi
  refine ⟨?_, ?_, ?_⟩
  · revert i; decide +kernel
  · intro h1 h2
    have : i = 1 ∨ i = 2 ∨ i = 3 := by omega
    rcases this with rfl | rfl | rfl <;> decide +kernel
  · intro h1 h2
    have : i = 1 ∨ i = 2 ∨ i = 3 := by omega
    rcases this with rfl | rfl | rfl <;> decide +kernel
theorem odd_at {i : Int} (h0 : 0 ≤ i) (h : i < 4) : 0 ≤ cellv [1, 3, 5, 7] i ∧ cellv [1, 3, 5, 7] i ≤ 7 := by
  obtain ⟨m, rfl⟩ : ∃ m : Nat, i = (m : Int) := ⟨i.toNat, by omega⟩
  have : m = 0 ∨ m = 1 ∨ m = 2 ∨ m = 3 := by omega
  rcases this with rfl | rfl | rfl | rfl <;> decide +kernel
section
variable {K : PySem.W.Frag} [TxtK K] {w : World} {k : Nat} {H : Hp} {Q : VK} {E : XK} {xs : List V} {a b : Addr}
theorem s_law_names {ds : List Int} (hv : xs = [.ref a]) (hS : SqL K H a (ds.map V.int)) (hl : 4 ≤ ds.length) (hr : rng60 ds) (q : ∀ p H' (ns : List Str), H p = none → Ex H H' → H' p = some (.lst (ns.map V.str)) → ns.length = 4 → (∀ n ∈ ns, nmOk n) → Q (.ref p) H') : Gam K w (k + 1) .law_names xs H Q E := by
  subst hv
  refine ⟨rfl, ?_⟩
  unfold rd_law_names
  refine k_start ?_
  walk_at "go"
  rename_i p H1 hp he1 hm1
  refine k_rr1I ⟨by omega, by omega⟩ (fun m σ H' => ∃ (ns : List Str) (u v : Option V), σ = [some (.ref a), some (.str ("abcdefghijklmnopqrstuvwxyz" : Str)), some (.ref p), u, v] ∧ ns.length = m ∧ (∀ n ∈ ns, nmOk n) ∧ Ex H H' ∧ H' p = some (.lst (ns.map V.str)))
    ⟨[], none, none, rfl, rfl, (fun d hd => nomatch hd), he1, hm1⟩ ?_ ?_
  · intro m σ H' hm' hI
    obtain ⟨ns, u, v, rfl, hlm, hok, hx, hm⟩ := hI
    dsimp only [List.set]
    walk_at "go"
    rename_i p1 H2 hp1 he2 hm2
    refine o_ixD (ds := [1, 3, 5, 7]) (sqL_of hm2) (by walk_at "ib") (by show _ < (4 : Int); walk_at "ib") ?_
    obtain ⟨c0, c7⟩ := odd_at (i := cellv ds 2 % 4) (by omega) (by omega)
    generalize cellv [1, 3, 5, 7] (cellv ds 2 % 4) = c at c0 c7 ⊢
    walk_at "go"
    have hc : 0 ≤ c * (m : Int) ∧ c * (m : Int) ≤ 21 := ⟨Int.mul_nonneg c0 (by omega), by
      have h1 : c * (m : Int) ≤ 7 * (m : Int) := Int.mul_le_mul_of_nonneg_right c7 (by omega)
      omega⟩
    have h3 := (cell60 (i := 3) hr)
    obtain ⟨j, hj, hj26⟩ : ∃ j : Nat, (cellv ds 3 + c * (m : Int)) % 26 = (j : Int) ∧ j < 26 := ⟨((cellv ds 3 + c * (m : Int)) % 26).toNat, by omega, by omega⟩
    rw [hj]
    refine o_ixS (by decide +kernel) (by omega) (by rw [Int.toNat_natCast]; exact abc_at j hj26) ?_
    walk_at "go"
    rename_i p2 H3 hp2 he3 hm3
    refine o_ixSv (l := PRE) (sqL_of hm3) (by walk_at "ib") (by show _ < (4 : Int); walk_at "ib") ?_
    obtain ⟨i0, hi0, hi4⟩ : ∃ j : Nat, cellv ds 0 % 4 = (j : Int) ∧ j < 4 := ⟨(cellv ds 0 % 4).toNat, by omega, by omega⟩
    rw [hi0]
    obtain ⟨l1, _, _⟩ := pre_len i0 hi4
    walk_at "go"
    refine o_addS (by show _ + 1 ≤ _; omega) ?_
    walk_at "go"
    rename_i p3 H4 hp3 he4 hm4
    refine o_ixSv (l := SUF) (sqL_of hm4) (by walk_at "ib") (by show _ < (4 : Int); walk_at "ib") ?_
    obtain ⟨i1, hi1, hi14⟩ : ∃ j : Nat, cellv ds 1 % 4 = (j : Int) ∧ j < 4 := ⟨(cellv ds 1 % 4).toNat, by omega, by omega⟩
    rw [hi1]
    obtain ⟨_, l2, _⟩ := pre_len i1 hi14
    have la : ∀ (x y : Str), (x ++ y).length = x.length + y.length := fun x y => Array.size_append
    have lc : (⟨#[97 + j]⟩ : Str).length = 1 := rfl
    refine o_addS (by rw [la, lc]; omega) ?_
    walk_at "go"
    obtain ⟨i2, hi2, hi24⟩ : ∃ j : Nat, (m : Int) * (cellv ds 2 / 4 % 2) = (j : Int) ∧ j < 4 := by
      have hb := cell60 (i := 2) hr
      have : cellv ds 2 / 4 % 2 = 0 ∨ cellv ds 2 / 4 % 2 = 1 := by omega
      rcases this with z | z <;> rw [z]
      · exact ⟨0, by simp, by decide⟩
      · exact ⟨m, by simp, by omega⟩
    rw [hi2]
    refine o_mulS (mul_ok i2 hi24) ?_
    obtain ⟨_, _, l3⟩ := pre_len i2 hi24
    refine o_addS (by rw [la, la, lc]; omega) ?_
    walk_at "go"
    refine ⟨ns ++ [nmAt i0 j i1 i2], _, _, rfl, by simp [hlm], fun n hn => ?_, by walk_at "ex", by rw [upd_same, List.map_append]; rfl⟩
    rcases List.mem_append.mp hn with z | z
    · exact hok n z
    · simp only [List.mem_cons, List.not_mem_nil, or_false] at z
      subst z
      exact nmB_ok (nmAt_ok i0 hi4 j hj26 i1 hi14 i2 hi24)
  · rintro σ H' ⟨ns, u, v, rfl, hlm, hok, hx, hm⟩
    walk_at "go"
    exact q p _ ns hp hx hm (by simpa using hlm) hok
end
local macro_rules | `(tactic| walk_at "cs") => `(tactic| ((with_reducible refine' s_law_names ?hv ?hS ?hl ?hr ?q); (case hv => exact rfl); (case hS => walk_at "sq"); (case hl => walk_at "len"); (case hr => assumption); intro p H' ns hp he hm hl hok))
section
variable {K : PySem.W.Frag} [TxtK K] {w : World} {k : Nat} {H : Hp} {Q : VK} {E : XK} {xs : List V} {a b : Addr}
theorem s_check_name {n : Str} (hv : xs = [.str n]) (hn : nmOk n) (q : Q .non H) : Gam K w (k + 1) .check_name xs H Q E := by
  subst hv
  refine ⟨rfl, ?_⟩
  obtain ⟨h1, h2, ⟨c0, hc0, hm0⟩, hall⟩ := hn
  unfold rd_check_name
  refine k_start ?_
  walk_at "go"
  refine o_lenS (by omega) ?_
  walk_at "go"
  refine o_lenS (by omega) ?_
  walk_at "go"
  refine o_ixS (by omega) (by omega) hc0 ?_
  walk_at "go"
  refine o_inSg ?_
  rw [decide_eq_true hm0]
  walk_at "go"
  refine k_raS (fun m σ H' => ∃ u, σ = [some (.str n), u] ∧ H' = H) ⟨_, rfl, rfl⟩ ?_ ?_
  · rintro m x σ H' hx ⟨u, rfl, rfl⟩
    dsimp only [List.set]
    walk_at "go"
    refine o_inSg ?_
    rw [decide_eq_true (hall m x hx)]
    walk_at "go"
    exact ⟨_, rfl, rfl⟩
  · rintro σ H' ⟨u, rfl, rfl⟩
    exact q
theorem s_check_number {i lo hi : Int} (hv : xs = [.int i, .int lo, .int hi]) (h1 : lo ≤ i) (h2 : i ≤ hi) (q : Q .non H) : Gam K w (k + 1) .check_number xs H Q E := by
  subst hv
  refine ⟨rfl, ?_⟩
  unfold rd_check_number
  refine k_start ?_
  walk_at "go"
  exact q
end
local macro_rules | `(tactic| walk_at "cs") => `(tactic| ((with_reducible refine' s_check_name ?hv ?hn ?q); (case hv => exact rfl); (case hn => assumption)))
local macro_rules | `(tactic| walk_at "cs") => `(tactic| ((with_reducible refine' s_check_number ?hv ?h1 ?h2 ?q); (case hv => exact rfl); (case h1 => omega); (case h2 => omega)))
end L2.MP

set_option Elab.async false
set_option linter.all false
set_option maxRecDepth 100000
set_option maxHeartbeats 4000000
namespace L2.MP
open PySem PySem.Spec PyProof.Rows L2
/-! ### the stepping tactic -/
local macro_rules | `(tactic| walk_at "ne") => `(tactic| first
  | with_reducible assumption
  | ((with_reducible apply Ne.symm); with_reducible assumption)
  | ((with_reducible refine' ne_of_none ?a ?b); (case b => with_reducible assumption); (case a => walk_at "hp"))
  | ((with_reducible apply Ne.symm); (with_reducible refine' ne_of_none ?a ?b); (case b => with_reducible assumption); (case a => walk_at "hp"))
  | (refine' ne_of (by with_reducible assumption) (by with_reducible assumption) ?_; intro z; cases z))
local macro_rules | `(tactic| walk_at "hs") => `(tactic| first
  | with_reducible assumption
  | with_reducible exact upd_same
  | ((with_reducible apply up_new); (with_reducible assumption))
  | ((with_reducible apply Ex.at); (with_reducible assumption))
  | ((with_reducible apply up_ne); (walk_at "ne")))
local macro_rules | `(tactic| walk_at "hp") => `(tactic| ((repeat walk_at "hs"); done))
local macro_rules | `(tactic| walk_at "ss") => `(tactic| first
  | with_reducible assumption
  | ((with_reducible apply sqL_of); first | with_reducible assumption | with_reducible exact upd_same)
  | ((with_reducible apply sqT_of); first | with_reducible assumption | with_reducible exact upd_same)
  | ((with_reducible apply up_sqL); (with_reducible assumption))
  | ((with_reducible apply up_sqT); (with_reducible assumption))
  | ((with_reducible apply Ex.sqL); (with_reducible assumption))
  | ((with_reducible apply Ex.sqT); (with_reducible assumption))
  | ((with_reducible apply sqL_ne); (walk_at "ne"))
  | ((with_reducible apply sqT_ne); (walk_at "ne")))
local macro_rules | `(tactic| walk_at "sq") => `(tactic| ((repeat walk_at "ss"); done))
local macro_rules | `(tactic| walk_at "fl") => `(tactic| first
  | exact rfl
  | decide +kernel
  | (simp [flatOk, flat1]; done)
  | ((simp [flatOk, flat1]); decide +kernel))
local macro_rules | `(tactic| walk_at "ib") => `(tactic| first
  | omega
  | (refine Int.emod_nonneg _ ?_; omega)
  | (refine Int.emod_lt_of_pos _ ?_; omega))
local macro_rules | `(tactic| walk_at "ex") => `(tactic| first
  | with_reducible exact Ex.refl _
  | with_reducible assumption
  | ((with_reducible refine' Ex.trans ?a ?b); (case b => with_reducible assumption); (case a => walk_at "ex"))
  | ((with_reducible refine' Ex.new' ?a ?b); (case b => walk_at "nn"); (case a => walk_at "ex")))
local macro_rules | `(tactic| walk_at "nn") => `(tactic| first
  | with_reducible assumption
  | ((with_reducible refine' Ex.none ?a ?b); (case b => with_reducible assumption); (case a => walk_at "ex")))
local macro_rules | `(tactic| walk_at "bt") => `(tactic| first
  | exact rfl
  | (simp only [Bool.not_true, Bool.not_false, Bool.true_or, Bool.false_or, Bool.true_and, Bool.false_and, Bool.or_true, Bool.or_false, Bool.and_true, Bool.and_false, Bool.not_eq_true', Bool.not_eq_false', Bool.or_eq_true, Bool.or_eq_false_iff, Bool.and_eq_true, Bool.and_eq_false_iff, decide_eq_true_eq, decide_eq_false_iff_not] <;> omega)
  | (simp; done)
  | (simp; omega))
local macro_rules | `(tactic| walk_at "len") => `(tactic| first
  | exact Nat.le_of_ble_eq_true rfl
  | (simp only [List.length_cons, List.length_nil, List.length_append, List.length_map]; omega)
  | omega)
local macro_rules | `(tactic| walk_at "un") => `(tactic| fail)
local macro_rules | `(tactic| walk_at "cs") => `(tactic| fail)
local macro_rules | `(tactic| walk_at "st") => `(tactic| first
  | with_reducible refine k_var ?_
  | with_reducible refine k_asgS ?_
  | with_reducible refine k_c ?_
  | with_reducible refine k_op ?_
  | with_reducible refine k_cons ?_
  | with_reducible refine k_nil ?_
  | with_reducible refine k_seq ?_
  | with_reducible refine k_asg ?_
  | with_reducible refine k_cb ?_
  | with_reducible refine k_fld ?_
  | ((with_reducible refine' k_rfld ?h ?i ?j ?q); (case h => walk_at "hp"); (case i => infer_instance); (case j => infer_instance))
  | with_reducible refine k_if ?_
  | with_reducible refine k_test ?_
  | with_reducible refine k_bl ?_
  | with_reducible refine k_tB ?_
  | with_reducible refine k_itT ?_
  | with_reducible refine k_itF ?_
  | with_reducible refine k_next ?_
  | with_reducible refine k_ret ?_
  | with_reducible refine k_call ?_
  | with_reducible refine k_tup ?_
  | ((with_reducible refine' k_newTA ?h ?q); (case h => walk_at "len"); intro p H' hp he hm)
  | with_reducible refine k_lst ?_
  | ((with_reducible refine' k_newLA ?h ?q); (case h => walk_at "len"); intro p H' hp he hm)
  | with_reducible refine k_and ?_
  | with_reducible refine k_or ?_
  | with_reducible refine k_not ?_
  | with_reducible refine k_inot ?_
  | with_reducible refine o_eqI ?_
  | with_reducible refine o_eqB ?_
  | with_reducible refine o_eqS ?_
  | with_reducible refine o_neI ?_
  | with_reducible refine o_neB ?_
  | with_reducible refine o_neS ?_
  | with_reducible refine o_lt ?_
  | with_reducible refine o_le ?_
  | with_reducible refine o_gt ?_
  | with_reducible refine o_ge ?_
  | with_reducible refine o_addI ?_
  | ((with_reducible refine' o_addLA ?h1 ?h2 ?h ?q); (case h1 => walk_at "hp"); (case h2 => walk_at "hp"); (case h => walk_at "len"); intro p H' hp he hm; dsimp only [List.cons_append, List.nil_append] at hm)
  | with_reducible refine o_subI ?_
  | ((with_reducible refine' o_mod ?h ?q); (case h => first | decide | omega))
  | ((with_reducible refine' o_fdiv ?h ?q); (case h => first | exact ⟨by first | decide | omega, by first | decide | omega⟩ | exact ⟨by split <;> decide, by split <;> decide⟩))
  | ((with_reducible refine' o_mulI ?h ?q); (case h => first | exact .inl ⟨by first | decide | omega, by first | decide | omega⟩ | exact .inr ⟨by first | decide | omega, by first | decide | omega⟩))
  | ((with_reducible refine' o_ixTn ?h ?h0 ?e ?q); (case h => walk_at "sq"); (case h0 => decide); (case e => exact rfl))
  | ((with_reducible refine' o_ixLn ?h ?h0 ?e ?q); (case h => walk_at "sq"); (case h0 => decide); (case e => exact rfl))
  | ((with_reducible refine' o_ixD ?h ?h0 ?h1 ?q); (case h => walk_at "sq"); (case h0 => walk_at "ib"); (case h1 => walk_at "ib"))
  | ((with_reducible refine' o_ixSv ?h ?h0 ?h1 ?q); (case h => walk_at "sq"); (case h0 => walk_at "ib"); (case h1 => walk_at "ib"))
  | ((with_reducible refine' o_ix2S ?h ?q); (case h => walk_at "sq"))
  | ((with_reducible refine' o_ix2PT ?h ?hp ?q); (case h => walk_at "sq"); (case hp => omega))
  | ((with_reducible refine' o_ix2PL ?h ?hp ?q); (case h => walk_at "sq"); (case hp => omega))
  | ((with_reducible refine' o_inTI ?h ?c ?q); (case h => walk_at "sq"); (case c => infer_instance))
  | ((with_reducible refine' o_inLI ?h ?c ?q); (case h => walk_at "sq"); (case c => infer_instance))
  | ((with_reducible refine' o_ix2I ?h ?q); (case h => walk_at "sq"))
  | ((with_reducible refine' o_lenLS ?h ?q); (case h => walk_at "sq"))
  | ((with_reducible refine' o_lenLI ?h ?q); (case h => walk_at "sq"))
  | ((with_reducible refine' o_lenL ?h ?q); (case h => walk_at "sq"))
  | ((with_reducible refine' o_lenT ?h ?q); (case h => walk_at "sq"))
  | with_reducible refine' i_plain ?_
  | with_reducible refine' i_plainC ?_
  | ((with_reducible refine' i_insC ?h ?i ?c ?q); (case h => walk_at "hp"); (case i => infer_instance); (case c => infer_instance))
  | ((with_reducible refine' i_lst ?h ?c ?q); (case h => walk_at "hp"); (case c => infer_instance))
  | ((with_reducible refine' i_tup ?h ?c ?q); (case h => walk_at "hp"); (case c => infer_instance))
  | with_reducible refine k_prop ?_
  | ((with_reducible refine' k_rprop ?h ?q); (case h => walk_at "hp"))
  | with_reducible refine k_make ?_
  | with_reducible refine k_makeKS ?_
  | ((with_reducible refine' k_rmkK ?hl ?hg ?q); (case hl => exact rfl); (case hg => exact fun _ => rfl))
  | with_reducible refine k_meth ?_
  | ((with_reducible refine' k_rmeth ?h ?i ?q); (case h => walk_at "hp"); (case i => infer_instance))
  | with_reducible refine k_andV ?_
  | with_reducible refine k_orV ?_
  | with_reducible refine k_notV ?_
  | with_reducible refine k_rand ?_
  | with_reducible refine k_rnot ?_
  | with_reducible refine k_un ?_
  | with_reducible refine k_ifE ?_
  | with_reducible refine k_randT ?_
  | with_reducible refine k_randF ?_
  | with_reducible refine k_rorT ?_
  | with_reducible refine k_rorF ?_
  | with_reducible refine k_randtT ?_
  | with_reducible refine k_randtF ?_
  | with_reducible refine k_rortT ?_
  | with_reducible refine k_rortF ?_
  | ((with_reducible refine' k_randP ?h2 ?q); (case h2 => intro _ hq; (walk_at "go"); with_reducible exact hq))
  | ((with_reducible refine' k_rorP ?h2 ?q); (case h2 => intro _ hq; (walk_at "go"); with_reducible exact hq))
  | with_reducible refine k_randS ?_
  | with_reducible refine k_rorS ?_
  | ((with_reducible refine' k_rifI ?h1 ?h2 ?q); (case h1 => intro _ hq; (walk_at "go"); with_reducible exact hq); (case h2 => intro _ hq; (walk_at "go"); with_reducible exact hq))
  | with_reducible refine k_rifS ?_
  | ((with_reducible refine' k_randtP ?h2 ?q); (case h2 => intro _ hq; (walk_at "go"); with_reducible exact hq))
  | ((with_reducible refine' k_rortP ?h2 ?q); (case h2 => intro _ hq; (walk_at "go"); with_reducible exact hq))
  | with_reducible refine k_randtS ?_
  | with_reducible refine k_rortS ?_
  | ((with_reducible refine' k_own ?h ?i ?q); (case h => walk_at "hp"); (case i => walk_at "hp"))
  | ((with_reducible refine' k_ownI ?h ?q); (case h => walk_at "hp"))
  | ((with_reducible refine' k_ownA ?h ?q); (case h => walk_at "hp"))
  | with_reducible refine k_aug ?_
  | with_reducible refine o_addIp ?_
  | with_reducible refine k_drop ?_
  | with_reducible refine k_fldp ?_
  | ((with_reducible refine' k_rputU ?i ?j ?q); (case i => infer_instance); (case j => infer_instance))
  | ((with_reducible refine' k_rput ?h ?i ?j ?q); (case h => walk_at "hp"); (case i => infer_instance); (case j => infer_instance))
  | ((with_reducible refine' k_dispA ?h ?q); (case h => exact Nat.le_of_ble_eq_true rfl); intro p H' hp he hm)
  | with_reducible refine k_newK ?_
  | ((with_reducible refine' k_newDA ?q); intro p H' hp he hm)
  | with_reducible refine k_dget ?_
  | with_reducible refine k_dget2 ?_
  | ((with_reducible refine' k_rdgetC ?h ?e ?q); (case h => walk_at "hp"); (case e => infer_instance))
  | ((with_reducible refine' k_rdg2 ?h ?q); (case h => walk_at "hp"))
  | ((with_reducible refine' k_rdo ?h ?q); (case h => walk_at "hp"))
  | with_reducible refine k_dput ?_
  | ((with_reducible refine' k_rdputU ?hl ?e ?q); (case hl => exact Nat.le_of_ble_eq_true rfl); (case e => infer_instance))
  | ((with_reducible refine' k_rdputC ?h ?hl ?e ?q); (case h => walk_at "hp"); (case hl => exact Nat.le_of_ble_eq_true rfl); (case e => infer_instance))
  | with_reducible refine k_m1 ?_
  | with_reducible refine k_rm1 ?_
  | with_reducible refine k_bm ?_
  | ((with_reducible refine' k_rbmL ?h ?q); (case h => walk_at "sq"))
  | ((with_reducible refine' o_appendU ?hl ?q); (case hl => walk_at "len"))
  | ((with_reducible refine' o_append ?h ?hl ?q); (case h => walk_at "hp"); (case hl => walk_at "len"))
  | with_reducible refine k_ownIx ?_
  | ((with_reducible refine' k_rownIx ?h ?q); (case h => walk_at "hp"))
  | with_reducible refine k_ownPut ?_
  | ((with_reducible refine' k_rownPut ?h ?q); (case h => walk_at "hp"))
  | ((with_reducible refine' o_inT ?h ?q); (case h => walk_at "sq"))
  | ((with_reducible refine' o_ninT ?h ?q); (case h => walk_at "sq"))
  | ((with_reducible refine' o_inL ?h ?q); (case h => walk_at "sq"))
  | ((with_reducible refine' o_ninL ?h ?q); (case h => walk_at "sq"))
  | with_reducible refine o_pow18 ?_
  | with_reducible refine o_pow9 ?_
  | with_reducible refine o_pow30 ?_
  | with_reducible refine o_isB ?_
  | with_reducible refine o_neg ?_
  | with_reducible refine o_isN ?_
  | with_reducible refine o_notN ?_
  | with_reducible refine o_max ?_
  | with_reducible refine o_min ?_
  | with_reducible refine o_intI ?_
  | with_reducible refine o_intB ?_
  | with_reducible refine o_abs ?_
  | with_reducible refine k_forR1 ?_
  | with_reducible refine k_forR2 ?_
  | with_reducible refine k_forL ?_
  | with_reducible refine k_forT ?_
  | ((with_reducible refine' k_turnR ?e ?q); (case e => exact rfl))
  | with_reducible refine k_doneR ?_
  | ((with_reducible refine' k_turnL ?h ?q); (case h => walk_at "sq"))
  | ((with_reducible refine' k_doneL ?h ?q); (case h => walk_at "sq"))
  | ((with_reducible refine' k_turnT ?h ?q); (case h => walk_at "sq"))
  | ((with_reducible refine' k_doneT ?h ?q); (case h => walk_at "sq"))
  | with_reducible refine k_forA ?_
  | with_reducible refine k_lcA ?_
  | ((with_reducible refine' o_tupL ?h ?q); (case h => walk_at "sq"); intro p H' hp he hm)
  | ((with_reducible refine' o_lisL ?h ?q); (case h => walk_at "sq"); intro p H' hp he hm)
  | ((with_reducible refine' o_lisT ?h ?q); (case h => walk_at "sq"); intro p H' hp he hm)
  | ((with_reducible refine' o_tupT ?h ?q); (case h => walk_at "sq"))
  | with_reducible refine k_dyn ?_
  | ((with_reducible refine' k_rdyn ?h ?i ?c ?q); (case h => walk_at "hp"); (case i => infer_instance); (case c => infer_instance))
  | with_reducible refine k_brk ?_
  | with_reducible refine k_cont ?_
  | with_reducible refine k_raise ?_
  | with_reducible refine k_retN ?_
  | walk_at "un"
  | walk_at "cs"
  | ((with_reducible refine' k_itdT ?h ?q); (case h => first | with_reducible assumption | omega | decide))
  | ((with_reducible refine' k_itdF ?h ?q); (case h => first | with_reducible assumption | omega | decide))
  | ((with_reducible refine' k_ifT ?h ?q); (case h => walk_at "bt"))
  | ((with_reducible refine' k_ifF ?h ?q); (case h => walk_at "bt")))
local macro_rules | `(tactic| walk_at "go") => `(tactic| repeat walk_at "st")
local macro_rules | `(tactic| walk_at "sp") => `(tactic| repeat' (first | walk_at "st" | refine k_itd (fun h => ?_) (fun h => ?_) | refine k_itb (fun h => ?_) (fun h => ?_)))
local macro_rules | `(tactic| walk_at "cs") => `(tactic| ((with_reducible refine' s_law_names ?hv ?hS ?hl ?hr ?q); (case hv => exact rfl); (case hS => walk_at "sq"); (case hl => walk_at "len"); (case hr => assumption); intro p H' ns hp he hm hl hok))
section
variable {K : PySem.W.Frag} [TxtK K] {w : World}
/-- what is drawn stands in the heap: the draws, the names, the shape -/
structure Drn (K : PySem.W.Frag) (H : Hp) (da na sh : Addr) (ds : List Int) (ns : List Str) (ls : List Int) (top : Int) (lv : Bool) (kn : Int) : Prop where
  hd : SqL K H da (ds.map V.int)
  hr : rng60 ds
  hn : SqL K H na (ns.map V.str)
  hl : ns.length = 4
  hok : ∀ n ∈ ns, nmOk n
  hs : ∃ lp, H sh = some (.tup [.ref lp, .int top, .bl lv, .int kn]) ∧ SqL K H lp (ls.map V.int)
  ht : 0 ≤ top ∧ top ≤ 3
  hk : 0 < kn ∧ kn ≤ 12
  hll : ls.length ≤ 16
theorem Drn.ex {H H' : Hp} {da na sh : Addr} {ds : List Int} {ns : List Str} {ls : List Int} {top : Int} {lv : Bool} {kn : Int} (d : Drn K H da na sh ds ns ls top lv kn) (e : Ex H H') : Drn K H' da na sh ds ns ls top lv kn := by
  obtain ⟨a, b, c, d, e1, ⟨lp, f1, f2⟩, g, h, i⟩ := d
  exact ⟨e.sqL a, b, e.sqL c, d, e1, ⟨lp, e.at f1, e.sqL f2⟩, g, h, i⟩
def RowsS (K : PySem.W.Frag) [TxtK K] (w : World) (d : Nat) : Prop := ∀ (k : Nat), 3 * d + 3 ≤ k → ∀ (H : Hp) (Q : VK) (E : XK) (xs : List V) (da na sh : Addr) (ds : List Int) (ns : List Str) (ls : List Int) (top : Int) (lv : Bool) (kn at_ cnt : Int),
  xs = [.ref da, .int at_, .int cnt, .int d, .ref na, .ref sh] → Drn K H da na sh ds ns ls top lv kn → 0 ≤ at_ → at_ ≤ ds.length → ds.length ≤ 1000 → 0 ≤ cnt → cnt ≤ 9 →
  (∀ t p ys H' rs at2, Ex H H' → H' t = some (.tup [.ref p, .int at2]) → H' p = some (.tup ys) → RowsA true H' rs ys → wfs ls.length nmOk top lv rs → deps rs ≤ d → at_ + 4 * szs rs ≤ at2 → at2 ≤ ds.length → rs.length ≤ cnt → Q (.ref t) H') → Gam K w k .law_rows xs H Q E
def RowS (K : PySem.W.Frag) [TxtK K] (w : World) (d : Nat) : Prop := ∀ (k : Nat), 3 * d + 2 ≤ k → ∀ (H : Hp) (Q : VK) (E : XK) (xs : List V) (da na sh : Addr) (ds : List Int) (ns : List Str) (ls : List Int) (top : Int) (lv : Bool) (kn at_ : Int),
  xs = [.ref da, .int at_, .int d, .ref na, .ref sh] → Drn K H da na sh ds ns ls top lv kn → 0 ≤ at_ → at_ + 6 ≤ ds.length → ds.length ≤ 1000 →
  (∀ t v H' r at2, Ex H H' → H' t = some (.tup [v, .int at2]) → RowA true H' r v → r.wf ls.length nmOk top lv → r.dep ≤ d → at_ + 4 * r.sz ≤ at2 → at2 ≤ ds.length → Q (.ref t) H') → Gam K w k .law_row xs H Q E
def DeepS (K : PySem.W.Frag) [TxtK K] (w : World) (d : Nat) : Prop := ∀ (k : Nat), 3 * d + 1 ≤ k → ∀ (H : Hp) (Q : VK) (E : XK) (xs : List V) (da na sh : Addr) (ds : List Int) (ns : List Str) (ls : List Int) (top : Int) (lv : Bool) (kn at_ : Int),
  xs = [.ref da, .int at_, .int d, .ref na, .ref sh] → Drn K H da na sh ds ns ls top lv kn → 0 < d → 7 ≤ cellv ds at_ % kn → 0 ≤ at_ → at_ + 6 ≤ ds.length → ds.length ≤ 1000 →
  (∀ t v H' r at2, Ex H H' → H' t = some (.tup [v, .int at2]) → RowA true H' r v → r.wf ls.length nmOk top lv → r.dep ≤ d → at_ + 4 * r.sz ≤ at2 → at2 ≤ ds.length → Q (.ref t) H') → Gam K w k .law_deep_row xs H Q E
theorem rows_of_row {d : Nat} (hR : RowS K w d) : RowsS K w d := by
  intro k hk H Q E xs da na sh ds ns ls top lv kn at_ cnt hv D h0 h1 h2 c0 c9 q
  obtain ⟨k, rfl⟩ : ∃ m, k = m + 1 := ⟨k - 1, by omega⟩
  subst hv
  refine ⟨rfl, ?_⟩
  unfold rd_law_rows
  refine k_start ?_
  walk_at "go"
  rename_i p H1 hp he1 hm1
  have fin : ∀ (m : Nat) (σ : L2.St) (H' : Hp), (∃ (ys : List V) (rs : List Row) (at2 : Int) (u v : Option V), σ = [some (.ref da), some (.int at_), some (.int cnt), some (.int d), some (.ref na), some (.ref sh), some (.ref p), some (.int at2), u, v] ∧ Ex H H' ∧ H' p = some (.lst ys) ∧
      RowsA true H' rs ys ∧ wfs ls.length nmOk top lv rs ∧ deps rs ≤ d ∧ at_ + 4 * szs rs ≤ at2 ∧ at2 ≤ ds.length ∧ rs.length ≤ cnt) → tRet (tTup (tCons (tCB (rTupleA K) (tCons (tVar 6) tNil)) (tCons (tVar 7) tNil))) { nx := fun _ H' => Q .non H', rt := Q } σ H' := by
    rintro m σ H' ⟨ys, rs, at2, u, v, rfl, hx, hpl, hr, hw, hd, ha, hb, hc⟩
    walk_at "go"
    rename_i p2 H2 hp2 he2 hm2 p3 H3 hp3 he3 hm3
    exact q p3 p2 ys H3 rs at2 (by walk_at "ex") hm3 (by walk_at "hp") (RowsA.ex (he2.trans he3) rs hr) hw hd ha hb hc
  refine k_rr1I ⟨by omega, by omega⟩ (fun m σ H' => ∃ (ys : List V) (rs : List Row) (at2 : Int) (u v : Option V), σ = [some (.ref da), some (.int at_), some (.int cnt), some (.int d), some (.ref na), some (.ref sh), some (.ref p), some (.int at2), u, v] ∧ Ex H H' ∧ H' p = some (.lst ys) ∧
      RowsA true H' rs ys ∧ wfs ls.length nmOk top lv rs ∧ deps rs ≤ d ∧ at_ + 4 * szs rs ≤ at2 ∧ at2 ≤ ds.length ∧ rs.length ≤ m)
    ⟨[], [], at_, none, none, rfl, he1, hm1, rfl, True.intro, Nat.zero_le _, by simp [szs], h1, Nat.le_refl _⟩ ?_ ?_
  · rintro m σ H' hm ⟨ys, rs, at2, u, v, rfl, hx, hpl, hr, hw, hd, ha, hb, hc⟩
    have D' := D.ex hx
    have hdl := D'.hd
    dsimp only [List.set]
    walk_at "go"
    refine k_itd (fun h => ?_) (fun h => ?_)
    · refine k_brk ?_
      exact fin 0 _ H' ⟨ys, rs, at2, _, _, rfl, hx, hpl, hr, hw, hd, ha, hb, by omega⟩
    · walk_at "go"
      refine hR k (by omega) _ _ _ _ da na sh ds ns ls top lv kn at2 rfl D' (by omega) (by omega) h2 fun t v H2 r at3 he2 hm2 hr2 hw2 hd2 ha2 hb2 => ?_
      have hyl := hr.len
      have hpl2 := he2.at hpl
      walk_at "go"
      have hkp := Keep.lset (o := .lst (ys ++ [v])) hpl2
      have hz := sz_pos r
      refine ⟨ys ++ [v], rs ++ [r], at3, _, _, rfl, (hx.trans he2).new' hp, upd_same, (RowsA.kp hkp rs (RowsA.ex he2 rs hr)).snoc (RowA.kp hkp r hr2), (wfs_app rs [r]).mpr ⟨hw, hw2, True.intro⟩, by rw [deps_app]; simp only [deps]; omega, by rw [szs_app]; simp only [szs]; omega, hb2, by simp; omega⟩
  · rintro σ H' ⟨ys, rs, at2, u, v, rfl, hx, hpl, hr, hw, hd, ha, hb, hc⟩
    exact fin 0 _ H' ⟨ys, rs, at2, u, v, rfl, hx, hpl, hr, hw, hd, ha, hb, by omega⟩
theorem row_of_deep {d : Nat} (hD : DeepS K w d) : RowS K w d := by
  intro k hk H Q E xs da na sh ds ns ls top lv kn at_ hv D h0 h1 h2 q
  obtain ⟨k, rfl⟩ : ∃ m, k = m + 1 := ⟨k - 1, by omega⟩
  subst hv
  refine ⟨rfl, ?_⟩
  unfold rd_law_row
  refine k_start ?_
  obtain ⟨hd, hr, hn, hl, hok, ⟨lp, hsh, hlp⟩, ht, hkn, hll⟩ := id D
  obtain ⟨hk0, hk12⟩ := hkn
  walk_at "go"
  generalize hname : sv ns (cellv ds (at_ + 1) % 4) = nm
  have hnm : nmOk nm := by subst hname; exact hok _ (sv_mem (by walk_at "ib") (by rw [hl]; walk_at "ib"))
  have hrest := cell60 (i := at_ + 4) hr
  generalize cellv ds (at_ + 4) = rest at hrest ⊢
  refine k_itb (fun h => ?_) (fun h => ?_)
  · simp only [Bool.and_eq_true, decide_eq_true_eq] at h
    walk_at "go"
    exact hD k (by omega) _ _ _ _ da na sh ds ns ls top lv kn at_ rfl D (by omega) h.2 h0 h1 h2 q
  · clear h
    generalize cellv ds at_ % kn = kd
    walk_at "go"
    refine k_itd (fun h => ?pos) (fun h => ?neg)
    case' pos =>
      walk_at "go"
      refine o_neInil (by walk_at "sq") (by walk_at "sq") ?_
      walk_at "go"
      refine k_itb (fun h2 => ?pos2) (fun h2 => ?neg2)
      case neg2 =>
        have hne : ls ≠ [] := by simpa using h2
        have hpos : 0 < ls.length := List.length_pos_iff.mpr hne
        walk_at "go"
        rename_i p1 G1 hp1 he1 hm1 p2 G2 hp2 he2 hm2
        exact q p2 (.ref p1) G2 (.take nm (rest % (ls.length : Nat))) (at_ + 5) (by walk_at "ex") hm2 ⟨p1, rfl, he2.at hm1⟩ ⟨hnm, Int.emod_nonneg _ (by omega), Int.emod_lt_of_pos _ (by omega)⟩ (by simp [Row.dep]) (by simp only [Row.sz]; omega) (by omega)
    all_goals
      walk_at "go"
      refine k_itb (fun h3 => ?_) (fun h3 => ?_)
      · walk_at "go"
        rename_i p1 G1 hp1 he1 hm1 p2 G2 hp2 he2 hm2
        exact q p2 (.ref p1) G2 (.set nm (rest % 2)) (at_ + 5) (by walk_at "ex") hm2 ⟨p1, rfl, he2.at hm1⟩ ⟨hnm, by omega, by omega⟩ (by simp [Row.dep]) (by simp only [Row.sz]; omega) (by omega)
      walk_at "go"
      refine k_itb (fun h4 => ?_) (fun h4 => ?_)
      · walk_at "go"
        rename_i p1 G1 hp1 he1 hm1 p2 G2 hp2 he2 hm2
        exact q p2 (.ref p1) G2 (.prn (rest % (top + 1)) nm) (at_ + 5) (by walk_at "ex") hm2 ⟨p1, rfl, he2.at hm1⟩ ⟨hnm, Int.emod_nonneg _ (by omega), by have := Int.emod_lt_of_pos rest (show 0 < top + 1 by omega); omega⟩ (by simp [Row.dep]) (by simp only [Row.sz]; omega) (by omega)
      walk_at "go"
      refine k_itb (fun h5 => ?_) (fun h5 => ?_)
      · simp only [Bool.and_eq_true, decide_eq_true_eq] at h5
        walk_at "go"
        rename_i p1 G1 hp1 he1 hm1 p2 G2 hp2 he2 hm2
        exact q p2 (.ref p1) G2 .leave (at_ + 5) (by walk_at "ex") hm2 ⟨p1, rfl, he2.at hm1⟩ h5.2 (by simp [Row.dep]) (by simp only [Row.sz]; omega) (by omega)
      walk_at "go"
      rename_i p1 G1 hp1 he1 hm1 p2 G2 hp2 he2 hm2
      exact q p2 (.ref p1) G2 (.work nm (sv ns (cellv ds (at_ + 2) % 4)) (sv ns (cellv ds (at_ + 3) % 4)) (rest % 16)) (at_ + 5) (by walk_at "ex") hm2 ⟨p1, rfl, he2.at hm1⟩
        ⟨hnm, hok _ (sv_mem (by walk_at "ib") (by rw [hl]; walk_at "ib")), hok _ (sv_mem (by walk_at "ib") (by rw [hl]; walk_at "ib")), by omega, by omega⟩ (by simp [Row.dep]) (by simp only [Row.sz]; omega) (by omega)
theorem deep_of_rows {d : Nat} (hR : RowsS K w d) : DeepS K w (d + 1) := by
  intro k hk H Q E xs da na sh ds ns ls top lv kn at_ hv D hd1 h7 h0 h1 h2 q
  obtain ⟨k, rfl⟩ : ∃ m, k = m + 1 := ⟨k - 1, by omega⟩
  subst hv
  refine ⟨rfl, ?_⟩
  unfold rd_law_deep_row
  refine k_start ?_
  obtain ⟨hd, hr, hn, hl, hok, ⟨lp, hsh, hlp⟩, ht, hkn, hll⟩ := id D
  obtain ⟨hk0, hk12⟩ := hkn
  have hs1 : (((d + 1 : Nat) : Int) - 1) = (d : Int) := by omega
  walk_at "go"
  generalize hname : sv ns (cellv ds (at_ + 1) % 4) = nm
  have hnm : nmOk nm := by subst hname; exact hok _ (sv_mem (by walk_at "ib") (by rw [hl]; walk_at "ib"))
  have hrest := cell60 (i := at_ + 3) hr
  have hcnt := cell60 (i := at_ + 2) hr
  have hkd : cellv ds at_ % kn < 12 := by have := Int.emod_lt_of_pos (cellv ds at_) hk0; omega
  generalize cellv ds (at_ + 3) = rest at hrest ⊢
  generalize cellv ds (at_ + 2) = cn at hcnt ⊢
  generalize cellv ds at_ % kn = kd at h7 hkd ⊢
  refine k_itd (fun h => ?_) (fun h => ?_)
  · walk_at "go"
    rw [hs1]
    refine hR k (by omega) _ _ _ _ da na sh ds ns ls top lv kn (at_ + 4) (1 + cn % 3) rfl D (by omega) (by omega) h2 (by omega) (by omega) fun t1 p1 ys1 G1 rs1 at1 he1 hm1 hp1 hr1 hw1 hd1' ha1 hb1 _ => ?_
    walk_at "go"
    rw [hs1]
    refine hR k (by omega) _ _ _ _ da na sh ds ns ls top lv kn at1 (rest % 3) rfl (D.ex he1) (by omega) (by omega) h2 (by omega) (by omega) fun t2 p2 ys2 G2 rs2 at2 he2 hm2 hp2 hr2 hw2 hd2 ha2 hb2 _ => ?_
    have hm1' := he2.at hm1
    walk_at "go"
    rename_i p3 G3 hp3 he3 hm3 p4 G4 hp4 he4 hm4
    have e24 := he3.trans he4
    have e14 := he2.trans e24
    exact q p4 (.ref p3) G4 (.test nm rs1 rs2) at2 (by walk_at "ex") hm4 ⟨p3, p1, p2, rfl, he4.at hm3, ⟨ys1, .inl (e14.at hp1), RowsA.ex e14 rs1 hr1⟩, ys2, .inl (e24.at hp2), RowsA.ex e24 rs2 hr2⟩ ⟨hnm, hw1, hw2⟩ (by simp only [Row.dep]; omega) (by simp only [Row.sz]; omega) hb2
  · walk_at "go"
    rename_i ti G0 hti he0 hm0
    rw [hs1]
    have D1 : Drn K G0 da na ti ds ns ls top true kn := ⟨he0.sqL hd, hr, he0.sqL hn, hl, hok, ⟨lp, hm0, he0.sqL hlp⟩, ht, ⟨hk0, hk12⟩, hll⟩
    refine hR k (by omega) _ _ _ _ da na ti ds ns ls top true kn (at_ + 4) (1 + cn % 3) rfl D1 (by omega) (by omega) h2 (by omega) (by omega) fun t1 p1 ys1 G1 rs1 at1 he1 hm1 hp1 hr1 hw1 hd1' ha1 hb1 _ => ?_
    walk_at "go"
    refine k_itb (fun h3 => ?_) (fun h3 => ?_)
    · walk_at "go"
      rename_i p3 G3 hp3 he3 hm3 p4 G4 hp4 he4 hm4
      have e14 := he3.trans he4
      exact q p4 (.ref p3) G4 (.call rs1) at1 (by walk_at "ex") hm4 ⟨p3, p1, rfl, he4.at hm3, ys1, .inl (e14.at hp1), RowsA.ex e14 rs1 hr1⟩ hw1 (by simp only [Row.dep]; omega) (by simp only [Row.sz]; omega) hb1
    · walk_at "go"
      refine k_itd (fun h4 => ?_) (fun h4 => ?_)
      · walk_at "go"
        rename_i p3 G3 hp3 he3 hm3 p4 G4 hp4 he4 hm4
        have e14 := he3.trans he4
        exact q p4 (.ref p3) G4 (.loop nm (1 + rest / 2 % 3) rs1) at1 (by walk_at "ex") hm4 ⟨p3, p1, rfl, he4.at hm3, ys1, .inl (e14.at hp1), RowsA.ex e14 rs1 hr1⟩ ⟨hnm, by omega, by omega, hw1⟩ (by simp only [Row.dep]; omega) (by simp only [Row.sz]; omega) hb1
      · walk_at "go"
        rename_i to G5 hto he5 hm5
        have he15 := he0.trans (he1.trans he5)
        rw [hs1]
        have D2 : Drn K G5 da na to ds ns ls top false kn := ⟨he15.sqL hd, hr, he15.sqL hn, hl, hok, ⟨lp, hm5, he15.sqL hlp⟩, ht, ⟨hk0, hk12⟩, hll⟩
        refine hR k (by omega) _ _ _ _ da na to ds ns ls top false kn at1 (rest % 3) rfl D2 (by omega) (by omega) h2 (by omega) (by omega) fun t2 p2 ys2 G2 rs2 at2 he2 hm2 hp2 hr2 hw2 hd2 ha2 hb2 _ => ?_
        have hm1' := (he5.trans he2).at hm1
        walk_at "go"
        rename_i p3 G3 hp3 he3 hm3 p4 G4 hp4 he4 hm4
        have e24 := he3.trans he4
        have e14 := (he5.trans he2).trans e24
        exact q p4 (.ref p3) G4 (.guard rs1 rs2) at2 (by walk_at "ex") hm4 ⟨p3, p1, p2, rfl, he4.at hm3, ⟨ys1, .inl (e14.at hp1), RowsA.ex e14 rs1 hr1⟩, ys2, .inl (e24.at hp2), RowsA.ex e24 rs2 hr2⟩ ⟨hw1, hw2⟩ (by simp only [Row.dep]; omega) (by simp only [Row.sz]; omega) hb2
theorem deep_zero : DeepS K w 0 := fun k hk H Q E xs da na sh ds ns ls top lv kn at_ hv D hd => absurd hd (Nat.lt_irrefl 0)
theorem row_all : ∀ d, DeepS K w d
  | 0 => deep_zero
  | d + 1 => deep_of_rows (rows_of_row (row_of_deep (row_all d)))
theorem s_law_rows (d : Nat) : RowsS K w d := rows_of_row (row_of_deep (row_all d))
end
end L2.MP

set_option Elab.async false
set_option linter.all false
set_option maxRecDepth 100000
set_option maxHeartbeats 4000000
namespace L2.MP
open PySem PySem.Spec PyProof.Rows L2
/-! ### the stepping tactic -/
local macro_rules | `(tactic| walk_at "ne") => `(tactic| first
  | with_reducible assumption
  | ((with_reducible apply Ne.symm); with_reducible assumption)
  | ((with_reducible refine' ne_of_none ?a ?b); (case b => with_reducible assumption); (case a => walk_at "hp"))
  | ((with_reducible apply Ne.symm); (with_reducible refine' ne_of_none ?a ?b); (case b => with_reducible assumption); (case a => walk_at "hp"))
  | (refine' ne_of (by with_reducible assumption) (by with_reducible assumption) ?_; intro z; cases z))
local macro_rules | `(tactic| walk_at "hs") => `(tactic| first
  | with_reducible assumption
  | with_reducible exact upd_same
  | ((with_reducible apply up_new); (with_reducible assumption))
  | ((with_reducible apply Ex.at); (with_reducible assumption))
  | ((with_reducible apply up_ne); (walk_at "ne")))
local macro_rules | `(tactic| walk_at "hp") => `(tactic| ((repeat walk_at "hs"); done))
local macro_rules | `(tactic| walk_at "ss") => `(tactic| first
  | with_reducible assumption
  | ((with_reducible apply sqL_of); first | with_reducible assumption | with_reducible exact upd_same)
  | ((with_reducible apply sqT_of); first | with_reducible assumption | with_reducible exact upd_same)
  | ((with_reducible apply up_sqL); (with_reducible assumption))
  | ((with_reducible apply up_sqT); (with_reducible assumption))
  | ((with_reducible apply Ex.sqL); (with_reducible assumption))
  | ((with_reducible apply Ex.sqT); (with_reducible assumption))
  | ((with_reducible apply sqL_ne); (walk_at "ne"))
  | ((with_reducible apply sqT_ne); (walk_at "ne")))
local macro_rules | `(tactic| walk_at "sq") => `(tactic| ((repeat walk_at "ss"); done))
local macro_rules | `(tactic| walk_at "fl") => `(tactic| first
  | exact rfl
  | decide +kernel
  | (simp [flatOk, flat1]; done)
  | ((simp [flatOk, flat1]); decide +kernel))
local macro_rules | `(tactic| walk_at "ib") => `(tactic| first
  | omega
  | (refine Int.emod_nonneg _ ?_; omega)
  | (refine Int.emod_lt_of_pos _ ?_; omega))
local macro_rules | `(tactic| walk_at "ex") => `(tactic| first
  | with_reducible exact Ex.refl _
  | with_reducible assumption
  | ((with_reducible refine' Ex.trans ?a ?b); (case b => with_reducible assumption); (case a => walk_at "ex"))
  | ((with_reducible refine' Ex.new' ?a ?b); (case b => walk_at "nn"); (case a => walk_at "ex")))
local macro_rules | `(tactic| walk_at "nn") => `(tactic| first
  | with_reducible assumption
  | ((with_reducible refine' Ex.none ?a ?b); (case b => with_reducible assumption); (case a => walk_at "ex")))
local macro_rules | `(tactic| walk_at "bt") => `(tactic| first
  | exact rfl
  | (simp only [Bool.not_true, Bool.not_false, Bool.true_or, Bool.false_or, Bool.true_and, Bool.false_and, Bool.or_true, Bool.or_false, Bool.and_true, Bool.and_false, Bool.not_eq_true', Bool.not_eq_false', Bool.or_eq_true, Bool.or_eq_false_iff, Bool.and_eq_true, Bool.and_eq_false_iff, decide_eq_true_eq, decide_eq_false_iff_not] <;> omega)
  | (simp; done)
  | (simp; omega))
local macro_rules | `(tactic| walk_at "len") => `(tactic| first
  | exact Nat.le_of_ble_eq_true rfl
  | (simp only [List.length_cons, List.length_nil, List.length_append, List.length_map]; omega)
  | omega)
local macro_rules | `(tactic| walk_at "un") => `(tactic| fail)
local macro_rules | `(tactic| walk_at "cs") => `(tactic| fail)
local macro_rules | `(tactic| walk_at "st") => `(tactic| first
  | with_reducible refine k_var ?_
  | with_reducible refine k_asgS ?_
  | with_reducible refine k_c ?_
  | with_reducible refine k_op ?_
  | with_reducible refine k_cons ?_
  | with_reducible refine k_nil ?_
  | with_reducible refine k_seq ?_
  | with_reducible refine k_asg ?_
  | with_reducible refine k_cb ?_
  | with_reducible refine k_fld ?_
  | ((with_reducible refine' k_rfld ?h ?i ?j ?q); (case h => walk_at "hp"); (case i => infer_instance); (case j => infer_instance))
  | with_reducible refine k_if ?_
  | with_reducible refine k_test ?_
  | with_reducible refine k_bl ?_
  | with_reducible refine k_tB ?_
  | with_reducible refine k_itT ?_
  | with_reducible refine k_itF ?_
  | with_reducible refine k_next ?_
  | with_reducible refine k_ret ?_
  | with_reducible refine k_call ?_
  | with_reducible refine k_tup ?_
  | ((with_reducible refine' k_newTA ?h ?q); (case h => walk_at "len"); intro p H' hp he hm)
  | with_reducible refine k_lst ?_
  | ((with_reducible refine' k_newLA ?h ?q); (case h => walk_at "len"); intro p H' hp he hm)
  | with_reducible refine k_and ?_
  | with_reducible refine k_or ?_
  | with_reducible refine k_not ?_
  | with_reducible refine k_inot ?_
  | with_reducible refine o_eqI ?_
  | with_reducible refine o_eqB ?_
  | with_reducible refine o_eqS ?_
  | with_reducible refine o_neI ?_
  | with_reducible refine o_neB ?_
  | with_reducible refine o_neS ?_
  | with_reducible refine o_lt ?_
  | with_reducible refine o_le ?_
  | with_reducible refine o_gt ?_
  | with_reducible refine o_ge ?_
  | with_reducible refine o_addI ?_
  | ((with_reducible refine' o_addLA ?h1 ?h2 ?h ?q); (case h1 => walk_at "hp"); (case h2 => walk_at "hp"); (case h => walk_at "len"); intro p H' hp he hm; dsimp only [List.cons_append, List.nil_append] at hm)
  | with_reducible refine o_subI ?_
  | ((with_reducible refine' o_mod ?h ?q); (case h => first | decide | omega))
  | ((with_reducible refine' o_fdiv ?h ?q); (case h => first | exact ⟨by first | decide | omega, by first | decide | omega⟩ | exact ⟨by split <;> decide, by split <;> decide⟩))
  | ((with_reducible refine' o_mulI ?h ?q); (case h => first | exact .inl ⟨by first | decide | omega, by first | decide | omega⟩ | exact .inr ⟨by first | decide | omega, by first | decide | omega⟩))
  | ((with_reducible refine' o_ixTn ?h ?h0 ?e ?q); (case h => walk_at "sq"); (case h0 => decide); (case e => exact rfl))
  | ((with_reducible refine' o_ixLn ?h ?h0 ?e ?q); (case h => walk_at "sq"); (case h0 => decide); (case e => exact rfl))
  | ((with_reducible refine' o_ixD ?h ?h0 ?h1 ?q); (case h => walk_at "sq"); (case h0 => walk_at "ib"); (case h1 => walk_at "ib"))
  | ((with_reducible refine' o_ixSv ?h ?h0 ?h1 ?q); (case h => walk_at "sq"); (case h0 => walk_at "ib"); (case h1 => walk_at "ib"))
  | ((with_reducible refine' o_ix2S ?h ?q); (case h => walk_at "sq"))
  | ((with_reducible refine' o_ix2PT ?h ?hp ?q); (case h => walk_at "sq"); (case hp => omega))
  | ((with_reducible refine' o_ix2PL ?h ?hp ?q); (case h => walk_at "sq"); (case hp => omega))
  | ((with_reducible refine' o_inTI ?h ?c ?q); (case h => walk_at "sq"); (case c => infer_instance))
  | ((with_reducible refine' o_inLI ?h ?c ?q); (case h => walk_at "sq"); (case c => infer_instance))
  | ((with_reducible refine' o_ix2I ?h ?q); (case h => walk_at "sq"))
  | ((with_reducible refine' o_lenLS ?h ?q); (case h => walk_at "sq"))
  | ((with_reducible refine' o_lenLI ?h ?q); (case h => walk_at "sq"))
  | ((with_reducible refine' o_lenL ?h ?q); (case h => walk_at "sq"))
  | ((with_reducible refine' o_lenT ?h ?q); (case h => walk_at "sq"))
  | with_reducible refine' i_plain ?_
  | with_reducible refine' i_plainC ?_
  | ((with_reducible refine' i_insC ?h ?i ?c ?q); (case h => walk_at "hp"); (case i => infer_instance); (case c => infer_instance))
  | ((with_reducible refine' i_lst ?h ?c ?q); (case h => walk_at "hp"); (case c => infer_instance))
  | ((with_reducible refine' i_tup ?h ?c ?q); (case h => walk_at "hp"); (case c => infer_instance))
  | with_reducible refine k_prop ?_
  | ((with_reducible refine' k_rprop ?h ?q); (case h => walk_at "hp"))
  | with_reducible refine k_make ?_
  | with_reducible refine k_makeKS ?_
  | ((with_reducible refine' k_rmkK ?hl ?hg ?q); (case hl => exact rfl); (case hg => exact fun _ => rfl))
  | with_reducible refine k_meth ?_
  | ((with_reducible refine' k_rmeth ?h ?i ?q); (case h => walk_at "hp"); (case i => infer_instance))
  | with_reducible refine k_andV ?_
  | with_reducible refine k_orV ?_
  | with_reducible refine k_notV ?_
  | with_reducible refine k_rand ?_
  | with_reducible refine k_rnot ?_
  | with_reducible refine k_un ?_
  | with_reducible refine k_ifE ?_
  | with_reducible refine k_randT ?_
  | with_reducible refine k_randF ?_
  | with_reducible refine k_rorT ?_
  | with_reducible refine k_rorF ?_
  | with_reducible refine k_randtT ?_
  | with_reducible refine k_randtF ?_
  | with_reducible refine k_rortT ?_
  | with_reducible refine k_rortF ?_
  | ((with_reducible refine' k_randP ?h2 ?q); (case h2 => intro _ hq; (walk_at "go"); with_reducible exact hq))
  | ((with_reducible refine' k_rorP ?h2 ?q); (case h2 => intro _ hq; (walk_at "go"); with_reducible exact hq))
  | with_reducible refine k_randS ?_
  | with_reducible refine k_rorS ?_
  | ((with_reducible refine' k_rifI ?h1 ?h2 ?q); (case h1 => intro _ hq; (walk_at "go"); with_reducible exact hq); (case h2 => intro _ hq; (walk_at "go"); with_reducible exact hq))
  | with_reducible refine k_rifS ?_
  | ((with_reducible refine' k_randtP ?h2 ?q); (case h2 => intro _ hq; (walk_at "go"); with_reducible exact hq))
  | ((with_reducible refine' k_rortP ?h2 ?q); (case h2 => intro _ hq; (walk_at "go"); with_reducible exact hq))
  | with_reducible refine k_randtS ?_
  | with_reducible refine k_rortS ?_
  | ((with_reducible refine' k_own ?h ?i ?q); (case h => walk_at "hp"); (case i => walk_at "hp"))
  | ((with_reducible refine' k_ownI ?h ?q); (case h => walk_at "hp"))
  | ((with_reducible refine' k_ownA ?h ?q); (case h => walk_at "hp"))
  | with_reducible refine k_aug ?_
  | with_reducible refine o_addIp ?_
  | with_reducible refine k_drop ?_
  | with_reducible refine k_fldp ?_
  | ((with_reducible refine' k_rputU ?i ?j ?q); (case i => infer_instance); (case j => infer_instance))
  | ((with_reducible refine' k_rput ?h ?i ?j ?q); (case h => walk_at "hp"); (case i => infer_instance); (case j => infer_instance))
  | ((with_reducible refine' k_dispA ?h ?q); (case h => exact Nat.le_of_ble_eq_true rfl); intro p H' hp he hm)
  | with_reducible refine k_newK ?_
  | ((with_reducible refine' k_newDA ?q); intro p H' hp he hm)
  | with_reducible refine k_dget ?_
  | with_reducible refine k_dget2 ?_
  | ((with_reducible refine' k_rdgetC ?h ?e ?q); (case h => walk_at "hp"); (case e => infer_instance))
  | ((with_reducible refine' k_rdg2 ?h ?q); (case h => walk_at "hp"))
  | ((with_reducible refine' k_rdo ?h ?q); (case h => walk_at "hp"))
  | with_reducible refine k_dput ?_
  | ((with_reducible refine' k_rdputU ?hl ?e ?q); (case hl => exact Nat.le_of_ble_eq_true rfl); (case e => infer_instance))
  | ((with_reducible refine' k_rdputC ?h ?hl ?e ?q); (case h => walk_at "hp"); (case hl => exact Nat.le_of_ble_eq_true rfl); (case e => infer_instance))
  | with_reducible refine k_m1 ?_
  | with_reducible refine k_rm1 ?_
  | with_reducible refine k_bm ?_
  | ((with_reducible refine' k_rbmL ?h ?q); (case h => walk_at "sq"))
  | ((with_reducible refine' o_appendU ?hl ?q); (case hl => walk_at "len"))
  | ((with_reducible refine' o_append ?h ?hl ?q); (case h => walk_at "hp"); (case hl => walk_at "len"))
  | with_reducible refine k_ownIx ?_
  | ((with_reducible refine' k_rownIx ?h ?q); (case h => walk_at "hp"))
  | with_reducible refine k_ownPut ?_
  | ((with_reducible refine' k_rownPut ?h ?q); (case h => walk_at "hp"))
  | ((with_reducible refine' o_inT ?h ?q); (case h => walk_at "sq"))
  | ((with_reducible refine' o_ninT ?h ?q); (case h => walk_at "sq"))
  | ((with_reducible refine' o_inL ?h ?q); (case h => walk_at "sq"))
  | ((with_reducible refine' o_ninL ?h ?q); (case h => walk_at "sq"))
  | with_reducible refine o_pow18 ?_
  | with_reducible refine o_pow9 ?_
  | with_reducible refine o_pow30 ?_
  | with_reducible refine o_isB ?_
  | with_reducible refine o_neg ?_
  | with_reducible refine o_isN ?_
  | with_reducible refine o_notN ?_
  | with_reducible refine o_max ?_
  | with_reducible refine o_min ?_
  | with_reducible refine o_intI ?_
  | with_reducible refine o_intB ?_
  | with_reducible refine o_abs ?_
  | with_reducible refine k_forR1 ?_
  | with_reducible refine k_forR2 ?_
  | with_reducible refine k_forL ?_
  | with_reducible refine k_forT ?_
  | ((with_reducible refine' k_turnR ?e ?q); (case e => exact rfl))
  | with_reducible refine k_doneR ?_
  | ((with_reducible refine' k_turnL ?h ?q); (case h => walk_at "sq"))
  | ((with_reducible refine' k_doneL ?h ?q); (case h => walk_at "sq"))
  | ((with_reducible refine' k_turnT ?h ?q); (case h => walk_at "sq"))
  | ((with_reducible refine' k_doneT ?h ?q); (case h => walk_at "sq"))
  | with_reducible refine k_forA ?_
  | with_reducible refine k_lcA ?_
  | ((with_reducible refine' o_tupL ?h ?q); (case h => walk_at "sq"); intro p H' hp he hm)
  | ((with_reducible refine' o_lisL ?h ?q); (case h => walk_at "sq"); intro p H' hp he hm)
  | ((with_reducible refine' o_lisT ?h ?q); (case h => walk_at "sq"); intro p H' hp he hm)
  | ((with_reducible refine' o_tupT ?h ?q); (case h => walk_at "sq"))
  | with_reducible refine k_dyn ?_
  | ((with_reducible refine' k_rdyn ?h ?i ?c ?q); (case h => walk_at "hp"); (case i => infer_instance); (case c => infer_instance))
  | with_reducible refine k_brk ?_
  | with_reducible refine k_cont ?_
  | with_reducible refine k_raise ?_
  | with_reducible refine k_retN ?_
  | walk_at "un"
  | walk_at "cs"
  | ((with_reducible refine' k_itdT ?h ?q); (case h => first | with_reducible assumption | omega | decide))
  | ((with_reducible refine' k_itdF ?h ?q); (case h => first | with_reducible assumption | omega | decide))
  | ((with_reducible refine' k_ifT ?h ?q); (case h => walk_at "bt"))
  | ((with_reducible refine' k_ifF ?h ?q); (case h => walk_at "bt")))
local macro_rules | `(tactic| walk_at "go") => `(tactic| repeat walk_at "st")
local macro_rules | `(tactic| walk_at "sp") => `(tactic| repeat' (first | walk_at "st" | refine k_itd (fun h => ?_) (fun h => ?_) | refine k_itb (fun h => ?_) (fun h => ?_)))
/-! ### steps in the heap -/
section
def clsN : Row → Str
  | .take _ _ => ("Take" : Str) | .set _ _ => ("Set" : Str) | .work _ _ _ _ => ("Work" : Str) | .prn _ _ => ("Print" : Str) | .test _ _ _ => ("Test" : Str) | .loop _ _ _ => ("Loop" : Str) | .guard _ _ => ("Guard" : Str) | .call _ => ("Call" : Str) | .leave => ("Leave" : Str)
def rds : Row → List Str
  | .work _ l r _ => [l, r] | .prn _ n => [n] | .test n _ _ => [n] | .loop n _ _ => [n] | _ => []
def stepF (w rd p : Addr) : Row → List (Str × V)
  | .take _ i => fs_Take (.ref w) (.ref rd) (.ref p) (.bl false) (.int 0) (.int i)
  | .set _ b => fs_Set (.ref w) (.ref rd) (.ref p) (.bl false) (.int 0) (.int b)
  | .work _ _ _ t => fs_Work (.ref w) (.ref rd) (.ref p) (.bl false) (.int 0) (.int t)
  | .prn c _ => fs_Print (.ref w) (.ref rd) (.ref p) (.bl false) (.int 0) (.int c)
  | .test _ a b => fs_Step (.ref w) (.ref rd) (.ref p) (.bl (lvs a || lvs b)) (.int (los (los 0 a) b))
  | .loop _ k b => fs_Loop (.ref w) (.ref rd) (.ref p) (.bl false) (.int (1 + los 0 b)) (.str ("loop" : Str)) (.bl (lvs b)) (.int k)
  | .guard b h => fs_Block (.ref w) (.ref rd) (.ref p) (.bl false) (.int (los (los 0 b) h)) (.str ("guard" : Str)) (.bl (lvs b || lvs h))
  | .call b => fs_Block (.ref w) (.ref rd) (.ref p) (.bl false) (.int (los 0 b)) (.str ("call" : Str)) (.bl (lvs b))
  | .leave => fs_Step (.ref w) (.ref rd) (.ref p) (.bl true) (.int 0)
/-- the step itself, its names, the refs of its parts -/
def StH (K : PySem.W.Frag) (H : Hp) (r : Row) (v : V) (ps : List V) : Prop := ∃ a dx w rd p, v = .ref a ∧ H a = some (.ins (He.ga K (clsN r)) dx (stepF w rd p r)) ∧ H w = some (.tup (r.wr.map V.str)) ∧ H rd = some (.tup ((rds r).map V.str)) ∧ H p = some (.tup ps)
mutual
/-- v is the step of the row r -/
def StA (K : PySem.W.Frag) (H : Hp) : Row → V → Prop
  | .take n i, v => StH K H (.take n i) v []
  | .set n b, v => StH K H (.set n b) v []
  | .work n l r t, v => StH K H (.work n l r t) v []
  | .prn c n, v => StH K H (.prn c n) v []
  | .leave, v => StH K H .leave v []
  | .test n x y, v => ∃ px py xs ys, StH K H (.test n x y) v [.ref px, .ref py] ∧ (H px = some (.tup xs) ∧ StsA K H x xs) ∧ H py = some (.tup ys) ∧ StsA K H y ys
  | .loop n k x, v => ∃ px xs, StH K H (.loop n k x) v [.ref px] ∧ H px = some (.tup xs) ∧ StsA K H x xs
  | .guard x y, v => ∃ px py xs ys, StH K H (.guard x y) v [.ref px, .ref py] ∧ (H px = some (.tup xs) ∧ StsA K H x xs) ∧ H py = some (.tup ys) ∧ StsA K H y ys
  | .call x, v => ∃ px xs, StH K H (.call x) v [.ref px] ∧ H px = some (.tup xs) ∧ StsA K H x xs
def StsA (K : PySem.W.Frag) (H : Hp) : List Row → List V → Prop
  | [], xs => xs = []
  | r :: rs, xs => ∃ x ys, xs = x :: ys ∧ StA K H r x ∧ StsA K H rs ys
end
theorem StA.hd {K : PySem.W.Frag} {H : Hp} {r : Row} {v : V} (h : StA K H r v) : ∃ ps, StH K H r v ps := by
  cases r <;> first
    | exact ⟨_, h⟩
    | (obtain ⟨_, _, _, _, h, _⟩ := h; exact ⟨_, h⟩)
    | (obtain ⟨_, _, h, _⟩ := h; exact ⟨_, h⟩)
/-- tuples and steps stay -/
structure KpS (H H' : Hp) : Prop where
  tup : ∀ a xs, H a = some (.tup xs) → H' a = some (.tup xs)
  ins : ∀ a C dx fs, H a = some (.ins C dx fs) → fs.head?.map (·.1) = some ("writes" : Str) → H' a = some (.ins C dx fs)
theorem KpS.of {H H' : Hp} (e : Ex H H') : KpS H H' := ⟨fun a xs h => e.at h, fun a C dx fs h _ => e.at h⟩
theorem KpS.trans {H H1 H2 : Hp} (a : KpS H H1) (b : KpS H1 H2) : KpS H H2 := ⟨fun x xs h => b.tup x xs (a.tup x xs h), fun x C dx fs h e => b.ins x C dx fs (a.ins x C dx fs h e) e⟩
theorem KpS.lset {H : Hp} {a : Addr} {xs : List V} {o : HO} (h : H a = some (.lst xs)) : KpS H (upd H a o) := ⟨fun b ys q => by rw [upd_ne (fun z => by rw [z, h] at q; cases q)]; exact q, fun b C dx fs q _ => by rw [upd_ne (fun z => by rw [z, h] at q; cases q)]; exact q⟩
theorem KpS.dset {H : Hp} {a : Addr} {kvs : List (Key × V)} {o : HO} (h : H a = some (.dK kvs)) : KpS H (upd H a o) := ⟨fun b ys q => by rw [upd_ne (fun z => by rw [z, h] at q; cases q)]; exact q, fun b C dx fs q _ => by rw [upd_ne (fun z => by rw [z, h] at q; cases q)]; exact q⟩
theorem stepF_hd {w rd p : Addr} (r : Row) : (stepF w rd p r).head?.map (·.1) = some ("writes" : Str) := by cases r <;> rfl
theorem StH.kp {K : PySem.W.Frag} {H H' : Hp} (e : KpS H H') {r : Row} {v : V} {ps : List V} (h : StH K H r v ps) : StH K H' r v ps := by
  obtain ⟨a, dx, w, rd, p, e1, h1, h2, h3, h4⟩ := h
  exact ⟨a, dx, w, rd, p, e1, e.ins _ _ _ _ h1 (stepF_hd r), e.tup _ _ h2, e.tup _ _ h3, e.tup _ _ h4⟩
mutual
theorem StA.kp {K : PySem.W.Frag} {H H' : Hp} (e : KpS H H') : ∀ (r : Row) {v : V}, StA K H r v → StA K H' r v
  | .take n i, v, h => StH.kp e h
  | .set n b, v, h => StH.kp e h
  | .work n l r t, v, h => StH.kp e h
  | .prn c n, v, h => StH.kp e h
  | .leave, v, h => StH.kp e h
  | .test n x y, v, ⟨px, py, xs, ys, h, ⟨h1, h2⟩, h3, h4⟩ => ⟨px, py, xs, ys, h.kp e, ⟨e.tup _ _ h1, StsA.kp e x h2⟩, e.tup _ _ h3, StsA.kp e y h4⟩
  | .loop n k x, v, ⟨px, xs, h, h1, h2⟩ => ⟨px, xs, h.kp e, e.tup _ _ h1, StsA.kp e x h2⟩
  | .guard x y, v, ⟨px, py, xs, ys, h, ⟨h1, h2⟩, h3, h4⟩ => ⟨px, py, xs, ys, h.kp e, ⟨e.tup _ _ h1, StsA.kp e x h2⟩, e.tup _ _ h3, StsA.kp e y h4⟩
  | .call x, v, ⟨px, xs, h, h1, h2⟩ => ⟨px, xs, h.kp e, e.tup _ _ h1, StsA.kp e x h2⟩
theorem StsA.kp {K : PySem.W.Frag} {H H' : Hp} (e : KpS H H') : ∀ (rs : List Row) {xs : List V}, StsA K H rs xs → StsA K H' rs xs
  | [], xs, h => h
  | r :: rs, xs, ⟨x, ys, e1, h1, h2⟩ => ⟨x, ys, e1, StA.kp e r h1, StsA.kp e rs h2⟩
end
theorem StA.ex {K : PySem.W.Frag} {H H' : Hp} (e : Ex H H') {r : Row} {v : V} (h : StA K H r v) : StA K H' r v := StA.kp (.of e) r h
theorem StsA.ex {K : PySem.W.Frag} {H H' : Hp} (e : Ex H H') {rs : List Row} {xs : List V} (h : StsA K H rs xs) : StsA K H' rs xs := StsA.kp (.of e) rs h
theorem StsA.len {K : PySem.W.Frag} {H : Hp} : ∀ {rs : List Row} {xs : List V}, StsA K H rs xs → xs.length = rs.length
  | [], xs, h => by rw [show xs = [] from h]; rfl
  | r :: rs, xs, ⟨x, ys, e1, _, h2⟩ => by rw [e1, List.length_cons, List.length_cons, StsA.len h2]
theorem StsA.at {K : PySem.W.Frag} {H : Hp} : ∀ {rs : List Row} {xs : List V} {i : Nat} {x : V}, StsA K H rs xs → xs[i]? = some x → ∃ r, rs[i]? = some r ∧ StA K H r x
  | [], xs, i, x, h, e => by rw [show xs = [] from h] at e; simp at e
  | r :: rs, xs, 0, x, ⟨y, ys, e1, h1, _⟩, e => by rw [e1] at e; simp at e; subst e; exact ⟨r, rfl, h1⟩
  | r :: rs, xs, i + 1, x, ⟨y, ys, e1, _, h2⟩, e => by
    rw [e1] at e
    obtain ⟨r', q1, q2⟩ := StsA.at (i := i) h2 (by simpa using e)
    exact ⟨r', by simpa using q1, q2⟩
theorem StsA.snoc {K : PySem.W.Frag} {H : Hp} : ∀ {rs : List Row} {xs : List V} {r : Row} {x : V}, StsA K H rs xs → StA K H r x → StsA K H (rs ++ [r]) (xs ++ [x])
  | [], xs, r, x, h, h1 => by rw [show xs = [] from h]; exact ⟨x, [], rfl, h1, rfl⟩
  | r' :: rs, xs, r, x, ⟨y, ys, e1, h2, h3⟩, h1 => ⟨y, ys ++ [x], by rw [e1]; rfl, h2, StsA.snoc h3 h1⟩
/-- the parts of a step -/
def PtsA (K : PySem.W.Frag) (H : Hp) : List (List Row) → List V → Prop
  | [], vs => vs = []
  | x :: l, vs => ∃ px xs rest, vs = .ref px :: rest ∧ (H px = some (.tup xs) ∧ StsA K H x xs) ∧ PtsA K H l rest
theorem PtsA.kp {K : PySem.W.Frag} {H H' : Hp} (e : KpS H H') : ∀ (l : List (List Row)) {vs : List V}, PtsA K H l vs → PtsA K H' l vs
  | [], vs, h => h
  | x :: l, vs, ⟨px, xs, rest, e1, ⟨h1, h2⟩, h3⟩ => ⟨px, xs, rest, e1, ⟨e.tup _ _ h1, StsA.kp e x h2⟩, PtsA.kp e l h3⟩
theorem PtsA.at {K : PySem.W.Frag} {H : Hp} : ∀ {l : List (List Row)} {vs : List V} {i : Nat} {v : V}, PtsA K H l vs → vs[i]? = some v → ∃ x px xs, l[i]? = some x ∧ v = .ref px ∧ H px = some (.tup xs) ∧ StsA K H x xs
  | [], vs, i, v, h, e => by rw [show vs = [] from h] at e; simp at e
  | x :: l, vs, 0, v, ⟨px, xs, rest, e1, ⟨h1, h2⟩, h3⟩, e => by rw [e1] at e; simp at e; subst e; exact ⟨x, px, xs, rfl, rfl, h1, h2⟩
  | x :: l, vs, i + 1, v, ⟨px, xs, rest, e1, _, h3⟩, e => by
    rw [e1] at e
    obtain ⟨x', px', xs', q1, q2⟩ := PtsA.at (i := i) h3 (by simpa using e)
    exact ⟨x', px', xs', by simpa using q1, q2⟩
theorem PtsA.len {K : PySem.W.Frag} {H : Hp} : ∀ {l : List (List Row)} {vs : List V}, PtsA K H l vs → vs.length = l.length
  | [], vs, h => by rw [show vs = [] from h]; rfl
  | x :: l, vs, ⟨px, xs, rest, e1, _, h3⟩ => by rw [e1, List.length_cons, List.length_cons, PtsA.len h3]
end
section
variable {K : PySem.W.Frag} [TxtK K] {w : World} {k : Nat} {H : Hp} {Q : VK} {E : XK} {xs : List V} {a b : Addr}
/-- a class of steps -/
class StepC (K : PySem.W.Frag) (C : Addr) : Prop where
  w : HasF K C ("writes" : Str)
  r : HasF K C ("reads" : Str)
  p : HasF K C ("parts" : Str)
  l : HasF K C ("leaves" : Str)
  o : HasF K C ("loops" : Str)
instance (priority := low) {C : Addr} [c : StepC K C] : HasF K C ("writes" : Str) := c.w
instance (priority := low) {C : Addr} [c : StepC K C] : HasF K C ("reads" : Str) := c.r
instance (priority := low) {C : Addr} [c : StepC K C] : HasF K C ("parts" : Str) := c.p
instance (priority := low) {C : Addr} [c : StepC K C] : HasF K C ("leaves" : Str) := c.l
instance (priority := low) {C : Addr} [c : StepC K C] : HasF K C ("loops" : Str) := c.o
instance : StepC K (He.ga K ("Take" : Str)) := ⟨inferInstance, inferInstance, inferInstance, inferInstance, inferInstance⟩
instance : StepC K (He.ga K ("Set" : Str)) := ⟨inferInstance, inferInstance, inferInstance, inferInstance, inferInstance⟩
instance : StepC K (He.ga K ("Work" : Str)) := ⟨inferInstance, inferInstance, inferInstance, inferInstance, inferInstance⟩
instance : StepC K (He.ga K ("Print" : Str)) := ⟨inferInstance, inferInstance, inferInstance, inferInstance, inferInstance⟩
instance : StepC K (He.ga K ("Test" : Str)) := ⟨inferInstance, inferInstance, inferInstance, inferInstance, inferInstance⟩
instance : StepC K (He.ga K ("Loop" : Str)) := ⟨inferInstance, inferInstance, inferInstance, inferInstance, inferInstance⟩
instance : StepC K (He.ga K ("Guard" : Str)) := ⟨inferInstance, inferInstance, inferInstance, inferInstance, inferInstance⟩
instance : StepC K (He.ga K ("Call" : Str)) := ⟨inferInstance, inferInstance, inferInstance, inferInstance, inferInstance⟩
instance : StepC K (He.ga K ("Leave" : Str)) := ⟨inferInstance, inferInstance, inferInstance, inferInstance, inferInstance⟩
theorem StH.fw {r : Row} {v : V} {ps : List V} (h : StH K H r v ps) (q : ∀ x, H x = some (.tup (r.wr.map V.str)) → Q (.ref x) H) : RFld K ("writes" : Str) v H Q := by
  obtain ⟨a, dx, x, rd, p, rfl, h1, h2, h3, h4⟩ := h
  cases r <;> (dsimp only [stepF, clsN] at h1; exact k_rfld h1 inferInstance inferInstance (q x h2))
theorem StH.fr {r : Row} {v : V} {ps : List V} (h : StH K H r v ps) (q : ∀ x, H x = some (.tup ((rds r).map V.str)) → Q (.ref x) H) : RFld K ("reads" : Str) v H Q := by
  obtain ⟨a, dx, x, rd, p, rfl, h1, h2, h3, h4⟩ := h
  cases r <;> (dsimp only [stepF, clsN] at h1; exact k_rfld h1 inferInstance inferInstance (q rd h3))
theorem StH.fp {r : Row} {v : V} {ps : List V} (h : StH K H r v ps) (q : ∀ x, H x = some (.tup ps) → Q (.ref x) H) : RFld K ("parts" : Str) v H Q := by
  obtain ⟨a, dx, x, rd, p, rfl, h1, h2, h3, h4⟩ := h
  cases r <;> (dsimp only [stepF, clsN] at h1; exact k_rfld h1 inferInstance inferInstance (q p h4))
theorem StH.fl {r : Row} {v : V} {ps : List V} (h : StH K H r v ps) (q : Q (.bl r.lv) H) : RFld K ("leaves" : Str) v H Q := by
  obtain ⟨a, dx, x, rd, p, rfl, h1, h2, h3, h4⟩ := h
  cases r <;> (dsimp only [stepF, clsN] at h1; exact k_rfld h1 inferInstance inferInstance (by simpa only [Row.lv] using q))
theorem StH.fo {r : Row} {v : V} {ps : List V} (h : StH K H r v ps) (q : Q (.int r.lo) H) : RFld K ("loops" : Str) v H Q := by
  obtain ⟨a, dx, x, rd, p, rfl, h1, h2, h3, h4⟩ := h
  cases r <;> (dsimp only [stepF, clsN] at h1; exact k_rfld h1 inferInstance inferInstance (by simpa only [Row.lo] using q))
end
section
variable {K : PySem.W.Frag} [TxtK K] {w : World} {k : Nat} {H : Hp} {Q : VK} {E : XK} {xs : List V} {a b : Addr}
theorem ExB.kps {H H' : Hp} {a C dx : Addr} (h : H a = some (.ins C dx [])) (e : ExB a H H') : KpS H H' :=
  ⟨fun b ys q => e b _ (fun z => by rw [z, h] at q; cases q) q, fun b C' dx' fs q hq => e b _ (fun z => by rw [z, h] at q; cases q; cases hq) q⟩
/-- what Step.__init__ has made so far -/
def St5 (H : Hp) (a C dx rd p : Addr) (W : List Str) (L : Bool) (O : Int) : Prop := ∃ w', H a = some (.ins C dx (fs_Step (.ref w') (.ref rd) (.ref p) (.bl L) (.int O))) ∧ H w' = some (.tup (W.map V.str))
theorem comp_add {l W : List Str} {m : Nat} {n : Str} (h : l[m]? = some n) : (l.take (m + 1)).filter (fun n => !decide (n ∈ W)) = (l.take m).filter (fun n => !decide (n ∈ W)) ++ (if n ∈ W then [] else [n]) := by
  rw [List.take_succ, h, List.filter_append]
  congr 1
  by_cases z : n ∈ W <;> simp [z]
local macro_rules | `(tactic| walk_at "cs") => `(tactic| ((with_reducible refine' StH.fl ?h ?q); (case h => with_reducible assumption)))
local macro_rules | `(tactic| walk_at "cs") => `(tactic| ((with_reducible refine' StH.fo ?h ?q); (case h => with_reducible assumption)))
theorem s_Step_init {C dx wa rd p : Addr} {ws : List Str} {pss : List (List Row)} {ps : List V} (hv : xs = [.ref a, .ref wa, .ref rd, .ref p]) (hC : StepC K C) (ha : H a = some (.ins C dx [])) (hw : H wa = some (.tup (ws.map V.str))) (hp : H p = some (.tup ps)) (hps : PtsA K H pss ps)
    (hbig : ∀ (i j : Nat) (x : List Row) (r : Row), pss[i]? = some x → x[j]? = some r → (wrs ((pss.take i).foldl wrs ws) (x.take j)).length + r.wr.length ≤ 90000)
    (q : ∀ H', ExB a H H' → St5 H' a C dx rd p (pss.foldl wrs ws) (pss.any lvs) (pss.foldl los 0) → Q .non H') : Gam K w (k + 1) .Step_init xs H Q E := by
  subst hv
  refine ⟨rfl, ?_⟩
  unfold rd_Step_init
  refine k_start ?_
  walk_at "go"
  have npa : p ≠ a := fun z => by rw [z, ha] at hp; cases hp
  have nwa : wa ≠ a := fun z => by rw [z, ha] at hw; cases hw
  refine k_raI' (xs := ps) (.inr (sqT_of (by rw [upd_ne npa]; exact hp))) (fun m σ H' => ∃ (u4 u5 u6 : Option V), σ = [some (.ref a), some (.ref wa), some (.ref rd), some (.ref p), u4, u5, u6] ∧ ExB a H H' ∧ St5 H' a C dx rd p ((pss.take m).foldl wrs ws) ((pss.take m).any lvs) ((pss.take m).foldl los 0))
    ⟨none, none, none, rfl, ExB.set, wa, upd_same, by rw [upd_ne nwa]; exact hw⟩ ?_ ?_ ?_
  · rintro m σ H' _ ⟨u4, u5, u6, rfl, hx, _⟩
    refine ⟨fun z => ?_, fun _ => sqT_of (hx p _ npa hp)⟩
    rcases z with (z | ⟨_, z⟩) | z
    · rw [upd_ne npa, hp] at z; cases z
    · rw [upd_ne npa, hp] at z; cases z
    · exact .inr z
  · rintro m x σ H' hm ⟨u4, u5, u6, rfl, hx, w1, h1, h2⟩
    obtain ⟨rs, px, ys, hrs, rfl, hpx, hys⟩ := hps.at hm
    have npx : px ≠ a := fun z => by rw [z, ha] at hpx; cases hpx
    have hks := hx.kps ha
    have hys' := hys.kp hks rs
    have htk : pss.take (m + 1) = pss.take m ++ [rs] := by rw [List.take_succ, hrs]; rfl
    dsimp only [List.set]
    generalize hW : (pss.take m).foldl wrs ws = W at h1 h2
    generalize hL : (pss.take m).any lvs = L at h1
    generalize hO : (pss.take m).foldl los 0 = O at h1
    walk_at "go"
    refine k_raI' (xs := ys) (.inr (sqT_of (hks.tup _ _ hpx))) (fun j σ G => ∃ (u5 u6 : Option V), σ = [some (.ref a), some (.ref wa), some (.ref rd), some (.ref p), some (.ref px), u5, u6] ∧ ExB a H' G ∧ St5 G a C dx rd p (wrs W (rs.take j)) (L || lvs (rs.take j)) (los O (rs.take j)))
      ⟨u5, u6, rfl, ExB.refl _, w1, by simpa [wrs, lvs, los] using h1, by simpa [wrs] using h2⟩ ?_ ?_ ?_
    · rintro j σ G _ ⟨u5, u6, rfl, hg, _⟩
      refine ⟨fun z => ?_, fun _ => sqT_of (hg px _ npx (hks.tup _ _ hpx))⟩
      rcases z with (z | ⟨_, z⟩) | z
      · rw [hks.tup _ _ hpx] at z; cases z
      · rw [hks.tup _ _ hpx] at z; cases z
      · exact .inr z
    · rintro j x σ G hj ⟨u5, u6, rfl, hg, w2, h3, h4⟩
      obtain ⟨r, hr, hst0⟩ := hys.at hj
      have hgk := (hx.trans hg).kps ha
      have hst := StA.kp hgk r hst0
      obtain ⟨ps', hh⟩ := hst.hd
      have hlen := hbig m j rs r hrs hr
      rw [hW] at hlen
      have ht1 : rs.take (j + 1) = rs.take j ++ [r] := by rw [List.take_succ, hr]; rfl
      generalize hW2 : wrs W (rs.take j) = W2 at h3 h4 hlen
      dsimp only [List.set]
      walk_at "go"
      refine hh.fw fun x1 hx1 => ?_
      refine k_lcI (j := 0) (.inr (sqT_of hx1)) (fun D m G' => G' = upd G D (.lst (((r.wr.take m).filter fun n => !decide (n ∈ W2)).map V.str))) (fun D hD => rfl) (fun D m G' hD _ e => ?_) (fun D m v G' hD hm e => ?_) (fun D G' hD e => ?_)
      · rw [e]
        exact ⟨(Ex.new hD).sqL, (Ex.new hD).sqT⟩
      · subst e
        rw [List.getElem?_map] at hm
        obtain ⟨n, hn, rfl⟩ := Option.map_eq_some_iff.mp hm
        refine ⟨rfl, ?_⟩
        dsimp only [wipe, List.set]
        walk_at "go"
        have hfl : (((r.wr.take m).filter fun n => !decide (n ∈ W2)).map V.str).length < sizeLine := by
          rw [List.length_map]
          exact szl_of (by have h8 := List.length_filter_le (fun n => !decide (n ∈ W2)) (r.wr.take m); have h9 := List.length_take_le' m r.wr; omega)
        rw [comp_add hn]
        by_cases z : n ∈ W2
        · rw [decide_eq_true z]
          simp only [Bool.not_true, Bool.false_eq_true, if_false, z, if_true, List.append_nil]
        · rw [decide_eq_false z]
          simp only [Bool.not_false, if_true, z, if_false]
          walk_at "go"
          refine ⟨_, upd_same, hfl, ?_⟩
          rw [upd_upd, List.map_append]
          rfl
      · rw [show (r.wr.map V.str).length = r.wr.length from List.length_map _, List.take_length] at e
        have hGD : Ex G G' := by rw [e]; exact Ex.new hD
        have hD' : G' D = some (.lst ((r.wr.filter fun n => !decide (n ∈ W2)).map V.str)) := by rw [e]; exact upd_same
        clear e
        walk_at "go"
        rename_i p2 G2 hp2 he2 hm2
        have hfl := List.length_filter_le (fun n => !decide (n ∈ W2)) r.wr
        refine o_addT (he2.at (hGD.at h4)) hm2 (by rw [List.length_map, List.length_map]; omega) fun p3 G3 he3 hm3 => ?_
        rw [← List.map_append] at hm3
        have hg3 : Ex G G3 := (hGD.trans he2).trans he3
        have h3' := hg3.at h3
        obtain ⟨ps0, hh0⟩ := hst0.hd
        have hxB : ∀ o, ExB a H (upd G3 a o) := fun o => ((hx.trans hg).trans (ExB.of hg3)).trans ExB.set
        have hxG : ∀ o, ExB a H' (upd G3 a o) := fun o => (hg.trans (ExB.of hg3)).trans ExB.set
        have hh9 := hh0.kp ((hxB (.ins C dx (fs_Step (.ref p3) (.ref rd) (.ref p) (.bl (L || lvs (rs.take j))) (.int (los O (rs.take j)))))).kps ha)
        have hh10 := hh0.kp ((hxB (.ins C dx (fs_Step (.ref p3) (.ref rd) (.ref p) (.bl ((L || lvs (rs.take j)) || r.lv)) (.int (los O (rs.take j)))))).kps ha)
        clear hg3 hD' hGD hm2 he2 he3 h3 hp2 hD
        walk_at "go"
        have n3 : p3 ≠ a := fun z => by rw [z, h3'] at hm3; cases hm3
        refine ⟨_, _, rfl, hxG _, p3, ?_, by rw [upd_ne n3, hm3, ht1, wrs_app, hW2]; rfl⟩
        rw [upd_same, ht1, lvs_app, los_app]
        simp only [lvs, los, Bool.or_false, Bool.or_assoc]
    · rintro σ G ⟨u5, u6, rfl, hg, hst⟩
      rw [hys.len, List.take_length] at hst
      refine ⟨_, _, _, rfl, hx.trans hg, ?_⟩
      rw [htk, List.foldl_append, List.any_append, List.foldl_append, hW, hL, hO]
      simpa using hst
  · rintro σ H' ⟨u4, u5, u6, rfl, hx, hst⟩
    rw [hps.len, List.take_length] at hst
    exact q H' hx hst
end
end L2.MP

set_option Elab.async false
set_option linter.all false
set_option maxRecDepth 100000
set_option maxHeartbeats 4000000
namespace L2.MP
open PySem PySem.Spec PyProof.Rows L2
/-! ### the stepping tactic -/
local macro_rules | `(tactic| walk_at "ne") => `(tactic| first
  | with_reducible assumption
  | ((with_reducible apply Ne.symm); with_reducible assumption)
  | ((with_reducible refine' ne_of_none ?a ?b); (case b => with_reducible assumption); (case a => walk_at "hp"))
  | ((with_reducible apply Ne.symm); (with_reducible refine' ne_of_none ?a ?b); (case b => with_reducible assumption); (case a => walk_at "hp"))
  | (refine' ne_of (by with_reducible assumption) (by with_reducible assumption) ?_; intro z; cases z))
local macro_rules | `(tactic| walk_at "hs") => `(tactic| first
  | with_reducible assumption
  | with_reducible exact upd_same
  | ((with_reducible apply up_new); (with_reducible assumption))
  | ((with_reducible apply Ex.at); (with_reducible assumption))
  | ((with_reducible apply up_ne); (walk_at "ne")))
local macro_rules | `(tactic| walk_at "hp") => `(tactic| ((repeat walk_at "hs"); done))
local macro_rules | `(tactic| walk_at "ss") => `(tactic| first
  | with_reducible assumption
  | ((with_reducible apply sqL_of); first | with_reducible assumption | with_reducible exact upd_same)
  | ((with_reducible apply sqT_of); first | with_reducible assumption | with_reducible exact upd_same)
  | ((with_reducible apply up_sqL); (with_reducible assumption))
  | ((with_reducible apply up_sqT); (with_reducible assumption))
  | ((with_reducible apply Ex.sqL); (with_reducible assumption))
  | ((with_reducible apply Ex.sqT); (with_reducible assumption))
  | ((with_reducible apply sqL_ne); (walk_at "ne"))
  | ((with_reducible apply sqT_ne); (walk_at "ne")))
local macro_rules | `(tactic| walk_at "sq") => `(tactic| ((repeat walk_at "ss"); done))
local macro_rules | `(tactic| walk_at "fl") => `(tactic| first
  | exact rfl
  | decide +kernel
  | (simp [flatOk, flat1]; done)
  | ((simp [flatOk, flat1]); decide +kernel))
local macro_rules | `(tactic| walk_at "ib") => `(tactic| first
  | omega
  | (refine Int.emod_nonneg _ ?_; omega)
  | (refine Int.emod_lt_of_pos _ ?_; omega))
local macro_rules | `(tactic| walk_at "ex") => `(tactic| first
  | with_reducible exact Ex.refl _
  | with_reducible assumption
  | ((with_reducible refine' Ex.trans ?a ?b); (case b => with_reducible assumption); (case a => walk_at "ex"))
  | ((with_reducible refine' Ex.new' ?a ?b); (case b => walk_at "nn"); (case a => walk_at "ex")))
local macro_rules | `(tactic| walk_at "nn") => `(tactic| first
  | with_reducible assumption
  | ((with_reducible refine' Ex.none ?a ?b); (case b => with_reducible assumption); (case a => walk_at "ex")))
local macro_rules | `(tactic| walk_at "bt") => `(tactic| first
  | exact rfl
  | (simp only [Bool.not_true, Bool.not_false, Bool.true_or, Bool.false_or, Bool.true_and, Bool.false_and, Bool.or_true, Bool.or_false, Bool.and_true, Bool.and_false, Bool.not_eq_true', Bool.not_eq_false', Bool.or_eq_true, Bool.or_eq_false_iff, Bool.and_eq_true, Bool.and_eq_false_iff, decide_eq_true_eq, decide_eq_false_iff_not] <;> omega)
  | (simp; done)
  | (simp; omega))
local macro_rules | `(tactic| walk_at "len") => `(tactic| first
  | exact Nat.le_of_ble_eq_true rfl
  | (simp only [List.length_cons, List.length_nil, List.length_append, List.length_map]; omega)
  | omega)
local macro_rules | `(tactic| walk_at "un") => `(tactic| fail)
local macro_rules | `(tactic| walk_at "cs") => `(tactic| fail)
local macro_rules | `(tactic| walk_at "st") => `(tactic| first
  | with_reducible refine k_var ?_
  | with_reducible refine k_asgS ?_
  | with_reducible refine k_c ?_
  | with_reducible refine k_op ?_
  | with_reducible refine k_cons ?_
  | with_reducible refine k_nil ?_
  | with_reducible refine k_seq ?_
  | with_reducible refine k_asg ?_
  | with_reducible refine k_cb ?_
  | with_reducible refine k_fld ?_
  | ((with_reducible refine' k_rfld ?h ?i ?j ?q); (case h => walk_at "hp"); (case i => infer_instance); (case j => infer_instance))
  | with_reducible refine k_if ?_
  | with_reducible refine k_test ?_
  | with_reducible refine k_bl ?_
  | with_reducible refine k_tB ?_
  | with_reducible refine k_itT ?_
  | with_reducible refine k_itF ?_
  | with_reducible refine k_next ?_
  | with_reducible refine k_ret ?_
  | with_reducible refine k_call ?_
  | with_reducible refine k_tup ?_
  | ((with_reducible refine' k_newTA ?h ?q); (case h => walk_at "len"); intro p H' hp he hm)
  | with_reducible refine k_lst ?_
  | ((with_reducible refine' k_newLA ?h ?q); (case h => walk_at "len"); intro p H' hp he hm)
  | with_reducible refine k_and ?_
  | with_reducible refine k_or ?_
  | with_reducible refine k_not ?_
  | with_reducible refine k_inot ?_
  | with_reducible refine o_eqI ?_
  | with_reducible refine o_eqB ?_
  | with_reducible refine o_eqS ?_
  | with_reducible refine o_neI ?_
  | with_reducible refine o_neB ?_
  | with_reducible refine o_neS ?_
  | with_reducible refine o_lt ?_
  | with_reducible refine o_le ?_
  | with_reducible refine o_gt ?_
  | with_reducible refine o_ge ?_
  | with_reducible refine o_addI ?_
  | ((with_reducible refine' o_addLA ?h1 ?h2 ?h ?q); (case h1 => walk_at "hp"); (case h2 => walk_at "hp"); (case h => walk_at "len"); intro p H' hp he hm; dsimp only [List.cons_append, List.nil_append] at hm)
  | with_reducible refine o_subI ?_
  | ((with_reducible refine' o_mod ?h ?q); (case h => first | decide | omega))
  | ((with_reducible refine' o_fdiv ?h ?q); (case h => first | exact ⟨by first | decide | omega, by first | decide | omega⟩ | exact ⟨by split <;> decide, by split <;> decide⟩))
  | ((with_reducible refine' o_mulI ?h ?q); (case h => first | exact .inl ⟨by first | decide | omega, by first | decide | omega⟩ | exact .inr ⟨by first | decide | omega, by first | decide | omega⟩))
  | ((with_reducible refine' o_ixTn ?h ?h0 ?e ?q); (case h => walk_at "sq"); (case h0 => decide); (case e => exact rfl))
  | ((with_reducible refine' o_ixLn ?h ?h0 ?e ?q); (case h => walk_at "sq"); (case h0 => decide); (case e => exact rfl))
  | ((with_reducible refine' o_ixD ?h ?h0 ?h1 ?q); (case h => walk_at "sq"); (case h0 => walk_at "ib"); (case h1 => walk_at "ib"))
  | ((with_reducible refine' o_ixSv ?h ?h0 ?h1 ?q); (case h => walk_at "sq"); (case h0 => walk_at "ib"); (case h1 => walk_at "ib"))
  | ((with_reducible refine' o_ix2S ?h ?q); (case h => walk_at "sq"))
  | ((with_reducible refine' o_ix2PT ?h ?hp ?q); (case h => walk_at "sq"); (case hp => omega))
  | ((with_reducible refine' o_ix2PL ?h ?hp ?q); (case h => walk_at "sq"); (case hp => omega))
  | ((with_reducible refine' o_inTI ?h ?c ?q); (case h => walk_at "sq"); (case c => infer_instance))
  | ((with_reducible refine' o_inLI ?h ?c ?q); (case h => walk_at "sq"); (case c => infer_instance))
  | ((with_reducible refine' o_ix2I ?h ?q); (case h => walk_at "sq"))
  | ((with_reducible refine' o_lenLS ?h ?q); (case h => walk_at "sq"))
  | ((with_reducible refine' o_lenLI ?h ?q); (case h => walk_at "sq"))
  | ((with_reducible refine' o_lenL ?h ?q); (case h => walk_at "sq"))
  | ((with_reducible refine' o_lenT ?h ?q); (case h => walk_at "sq"))
  | with_reducible refine' i_plain ?_
  | with_reducible refine' i_plainC ?_
  | ((with_reducible refine' i_insC ?h ?i ?c ?q); (case h => walk_at "hp"); (case i => infer_instance); (case c => infer_instance))
  | ((with_reducible refine' i_lst ?h ?c ?q); (case h => walk_at "hp"); (case c => infer_instance))
  | ((with_reducible refine' i_tup ?h ?c ?q); (case h => walk_at "hp"); (case c => infer_instance))
  | with_reducible refine k_prop ?_
  | ((with_reducible refine' k_rprop ?h ?q); (case h => walk_at "hp"))
  | with_reducible refine k_make ?_
  | with_reducible refine k_makeKS ?_
  | ((with_reducible refine' k_rmkK ?hl ?hg ?q); (case hl => exact rfl); (case hg => exact fun _ => rfl))
  | with_reducible refine k_meth ?_
  | ((with_reducible refine' k_rmeth ?h ?i ?q); (case h => walk_at "hp"); (case i => infer_instance))
  | with_reducible refine k_andV ?_
  | with_reducible refine k_orV ?_
  | with_reducible refine k_notV ?_
  | with_reducible refine k_rand ?_
  | with_reducible refine k_rnot ?_
  | with_reducible refine k_un ?_
  | with_reducible refine k_ifE ?_
  | with_reducible refine k_randT ?_
  | with_reducible refine k_randF ?_
  | with_reducible refine k_rorT ?_
  | with_reducible refine k_rorF ?_
  | with_reducible refine k_randtT ?_
  | with_reducible refine k_randtF ?_
  | with_reducible refine k_rortT ?_
  | with_reducible refine k_rortF ?_
  | ((with_reducible refine' k_randP ?h2 ?q); (case h2 => intro _ hq; (walk_at "go"); with_reducible exact hq))
  | ((with_reducible refine' k_rorP ?h2 ?q); (case h2 => intro _ hq; (walk_at "go"); with_reducible exact hq))
  | with_reducible refine k_randS ?_
  | with_reducible refine k_rorS ?_
  | ((with_reducible refine' k_rifI ?h1 ?h2 ?q); (case h1 => intro _ hq; (walk_at "go"); with_reducible exact hq); (case h2 => intro _ hq; (walk_at "go"); with_reducible exact hq))
  | with_reducible refine k_rifS ?_
  | ((with_reducible refine' k_randtP ?h2 ?q); (case h2 => intro _ hq; (walk_at "go"); with_reducible exact hq))
  | ((with_reducible refine' k_rortP ?h2 ?q); (case h2 => intro _ hq; (walk_at "go"); with_reducible exact hq))
  | with_reducible refine k_randtS ?_
  | with_reducible refine k_rortS ?_
  | ((with_reducible refine' k_own ?h ?i ?q); (case h => walk_at "hp"); (case i => walk_at "hp"))
  | ((with_reducible refine' k_ownI ?h ?q); (case h => walk_at "hp"))
  | ((with_reducible refine' k_ownA ?h ?q); (case h => walk_at "hp"))
  | with_reducible refine k_aug ?_
  | with_reducible refine o_addIp ?_
  | with_reducible refine k_drop ?_
  | with_reducible refine k_fldp ?_
  | ((with_reducible refine' k_rputU ?i ?j ?q); (case i => infer_instance); (case j => infer_instance))
  | ((with_reducible refine' k_rput ?h ?i ?j ?q); (case h => walk_at "hp"); (case i => infer_instance); (case j => infer_instance))
  | ((with_reducible refine' k_dispA ?h ?q); (case h => exact Nat.le_of_ble_eq_true rfl); intro p H' hp he hm)
  | with_reducible refine k_newK ?_
  | ((with_reducible refine' k_newDA ?q); intro p H' hp he hm)
  | with_reducible refine k_dget ?_
  | with_reducible refine k_dget2 ?_
  | ((with_reducible refine' k_rdgetC ?h ?e ?q); (case h => walk_at "hp"); (case e => infer_instance))
  | ((with_reducible refine' k_rdg2 ?h ?q); (case h => walk_at "hp"))
  | ((with_reducible refine' k_rdo ?h ?q); (case h => walk_at "hp"))
  | with_reducible refine k_dput ?_
  | ((with_reducible refine' k_rdputU ?hl ?e ?q); (case hl => exact Nat.le_of_ble_eq_true rfl); (case e => infer_instance))
  | ((with_reducible refine' k_rdputC ?h ?hl ?e ?q); (case h => walk_at "hp"); (case hl => exact Nat.le_of_ble_eq_true rfl); (case e => infer_instance))
  | with_reducible refine k_m1 ?_
  | with_reducible refine k_rm1 ?_
  | with_reducible refine k_bm ?_
  | ((with_reducible refine' k_rbmL ?h ?q); (case h => walk_at "sq"))
  | ((with_reducible refine' o_appendU ?hl ?q); (case hl => walk_at "len"))
  | ((with_reducible refine' o_append ?h ?hl ?q); (case h => walk_at "hp"); (case hl => walk_at "len"))
  | with_reducible refine k_ownIx ?_
  | ((with_reducible refine' k_rownIx ?h ?q); (case h => walk_at "hp"))
  | with_reducible refine k_ownPut ?_
  | ((with_reducible refine' k_rownPut ?h ?q); (case h => walk_at "hp"))
  | ((with_reducible refine' o_inT ?h ?q); (case h => walk_at "sq"))
  | ((with_reducible refine' o_ninT ?h ?q); (case h => walk_at "sq"))
  | ((with_reducible refine' o_inL ?h ?q); (case h => walk_at "sq"))
  | ((with_reducible refine' o_ninL ?h ?q); (case h => walk_at "sq"))
  | with_reducible refine o_pow18 ?_
  | with_reducible refine o_pow9 ?_
  | with_reducible refine o_pow30 ?_
  | with_reducible refine o_isB ?_
  | with_reducible refine o_neg ?_
  | with_reducible refine o_isN ?_
  | with_reducible refine o_notN ?_
  | with_reducible refine o_max ?_
  | with_reducible refine o_min ?_
  | with_reducible refine o_intI ?_
  | with_reducible refine o_intB ?_
  | with_reducible refine o_abs ?_
  | with_reducible refine k_forR1 ?_
  | with_reducible refine k_forR2 ?_
  | with_reducible refine k_forL ?_
  | with_reducible refine k_forT ?_
  | ((with_reducible refine' k_turnR ?e ?q); (case e => exact rfl))
  | with_reducible refine k_doneR ?_
  | ((with_reducible refine' k_turnL ?h ?q); (case h => walk_at "sq"))
  | ((with_reducible refine' k_doneL ?h ?q); (case h => walk_at "sq"))
  | ((with_reducible refine' k_turnT ?h ?q); (case h => walk_at "sq"))
  | ((with_reducible refine' k_doneT ?h ?q); (case h => walk_at "sq"))
  | with_reducible refine k_forA ?_
  | with_reducible refine k_lcA ?_
  | ((with_reducible refine' o_tupL ?h ?q); (case h => walk_at "sq"); intro p H' hp he hm)
  | ((with_reducible refine' o_lisL ?h ?q); (case h => walk_at "sq"); intro p H' hp he hm)
  | ((with_reducible refine' o_lisT ?h ?q); (case h => walk_at "sq"); intro p H' hp he hm)
  | ((with_reducible refine' o_tupT ?h ?q); (case h => walk_at "sq"))
  | with_reducible refine k_dyn ?_
  | ((with_reducible refine' k_rdyn ?h ?i ?c ?q); (case h => walk_at "hp"); (case i => infer_instance); (case c => infer_instance))
  | with_reducible refine k_brk ?_
  | with_reducible refine k_cont ?_
  | with_reducible refine k_raise ?_
  | with_reducible refine k_retN ?_
  | walk_at "un"
  | walk_at "cs"
  | ((with_reducible refine' k_itdT ?h ?q); (case h => first | with_reducible assumption | omega | decide))
  | ((with_reducible refine' k_itdF ?h ?q); (case h => first | with_reducible assumption | omega | decide))
  | ((with_reducible refine' k_ifT ?h ?q); (case h => walk_at "bt"))
  | ((with_reducible refine' k_ifF ?h ?q); (case h => walk_at "bt")))
local macro_rules | `(tactic| walk_at "go") => `(tactic| repeat walk_at "st")
local macro_rules | `(tactic| walk_at "sp") => `(tactic| repeat' (first | walk_at "st" | refine k_itd (fun h => ?_) (fun h => ?_) | refine k_itb (fun h => ?_) (fun h => ?_)))
local macro_rules | `(tactic| walk_at "cs") => `(tactic| ((with_reducible refine' k_sup ?h ?i ?q); (case h => walk_at "hp"); (case i => infer_instance)))
section
variable {K : PySem.W.Frag} [TxtK K] {w : World} {k : Nat} {H : Hp} {Q : VK} {E : XK} {xs : List V} {a b : Addr}
theorem s_Step_init0 {C dx wa rd p : Addr} {ws : List Str} (hv : xs = [.ref a, .ref wa, .ref rd, .ref p]) (hC : StepC K C) (ha : H a = some (.ins C dx [])) (hw : H wa = some (.tup (ws.map V.str))) (hp : H p = some (.tup []))
    (q : ∀ H', ExB a H H' → St5 H' a C dx rd p ws false 0 → Q .non H') : Gam K w (k + 1) .Step_init xs H Q E :=
  s_Step_init (pss := []) hv hC ha hw hp rfl (fun i j x r h => by simp at h) q
theorem exB_mk {H H1 H2 : Hp} {x dx : Addr} {o u : HO} (hx : H x = none) (hd : H dx = none) (e1 : Ex (upd (upd H dx o) x u) H1) (e2 : ExB x H1 H2) : Ex H H2 := fun b v hb => by
  have nb : b ≠ x := ne_of_none hb hx
  have nd : b ≠ dx := ne_of_none hb hd
  exact e2 b v nb (e1 b v (by rw [upd_ne nb, upd_ne nd]; exact hb))
theorem exB_tup {H H' : Hp} {x C dx : Addr} {fs : List (Str × V)} {ys : List V} (e : ExB x H H') (h : H x = some (.ins C dx fs)) (ht : H b = some (.tup ys)) : H' b = some (.tup ys) := e b _ (fun z => by rw [z, h] at ht; cases ht) ht
theorem sth_of {G : Hp} {x C dx wa rd p : Addr} {fs : List (Str × V)} {r : Row} {ps : List V} (h : G x = some (.ins C dx fs)) (h1 : G wa = some (.tup (r.wr.map V.str))) (h2 : G rd = some (.tup ((rds r).map V.str))) (h3 : G p = some (.tup ps)) :
    StH K (upd G x (.ins (He.ga K (clsN r)) dx (stepF wa rd p r))) r (.ref x) ps := by
  have n : ∀ b ys, G b = some (.tup ys) → b ≠ x := fun b ys hb z => by rw [z, h] at hb; cases hb
  exact ⟨x, dx, wa, rd, p, rfl, upd_same, by rw [upd_ne (n _ _ h1)]; exact h1, by rw [upd_ne (n _ _ h2)]; exact h2, by rw [upd_ne (n _ _ h3)]; exact h3⟩
theorem s_mkTake {n : Str} {i : Int} (hv : xs = [.str n, .int i]) (q : ∀ x H', Ex H H' → StA K H' (.take n i) (.ref x) → Q (.ref x) H') : RMk (He.ga K "Take") (Gam K w (k + 2) .Take_init) xs E H Q := by
  subst hv
  intro x dx hx hd hn
  refine ⟨rfl, ?_⟩
  unfold rd_Take_init
  refine k_start ?_
  walk_at "go"
  rename_i pw G1 hpw he1 hm1 pr G2 hpr he2 hm2 pp G3 hpp he3 hm3
  have ha : G3 x = some (.ins (He.ga K "Take") dx []) := by walk_at "hp"
  have hr := he3.at hm2
  have hw := (he2.trans he3).at hm1
  have hb := he1.trans (he2.trans he3)
  refine s_Step_init0 (ws := [n]) rfl inferInstance ha hw hm3 fun G4 hx4 ⟨w', h5, h6⟩ => ?_
  have hr4 := exB_tup hx4 ha hr
  have hp4 := exB_tup hx4 ha hm3
  clear hm1 hm2 hm3 he1 he2 he3
  walk_at "go"
  exact ⟨rfl, q x _ (exB_mk hx hd hb (hx4.trans ExB.set)) (sth_of (r := .take n i) h5 h6 hr4 hp4)⟩
theorem s_mkSet {n : Str} {i : Int} (hv : xs = [.str n, .int i]) (q : ∀ x H', Ex H H' → StA K H' (.set n i) (.ref x) → Q (.ref x) H') : RMk (He.ga K "Set") (Gam K w (k + 2) .Set_init) xs E H Q := by
  subst hv
  intro x dx hx hd hn
  refine ⟨rfl, ?_⟩
  unfold rd_Set_init
  refine k_start ?_
  walk_at "go"
  rename_i pw G1 hpw he1 hm1 pr G2 hpr he2 hm2 pp G3 hpp he3 hm3
  have ha : G3 x = some (.ins (He.ga K "Set") dx []) := by walk_at "hp"
  have hr := he3.at hm2
  have hw := (he2.trans he3).at hm1
  have hb := he1.trans (he2.trans he3)
  refine s_Step_init0 (ws := [n]) rfl inferInstance ha hw hm3 fun G4 hx4 ⟨w', h5, h6⟩ => ?_
  have hr4 := exB_tup hx4 ha hr
  have hp4 := exB_tup hx4 ha hm3
  clear hm1 hm2 hm3 he1 he2 he3
  walk_at "go"
  exact ⟨rfl, q x _ (exB_mk hx hd hb (hx4.trans ExB.set)) (sth_of (r := .set n i) h5 h6 hr4 hp4)⟩
theorem s_mkWork {n l r : Str} {i : Int} (hv : xs = [.str n, .str l, .str r, .int i]) (q : ∀ x H', Ex H H' → StA K H' (.work n l r i) (.ref x) → Q (.ref x) H') : RMk (He.ga K "Work") (Gam K w (k + 2) .Work_init) xs E H Q := by
  subst hv
  intro x dx hx hd hn
  refine ⟨rfl, ?_⟩
  unfold rd_Work_init
  refine k_start ?_
  walk_at "go"
  rename_i pw G1 hpw he1 hm1 pr G2 hpr he2 hm2 pp G3 hpp he3 hm3
  have ha : G3 x = some (.ins (He.ga K "Work") dx []) := by walk_at "hp"
  have hr := he3.at hm2
  have hw := (he2.trans he3).at hm1
  have hb := he1.trans (he2.trans he3)
  refine s_Step_init0 (ws := [n]) rfl inferInstance ha hw hm3 fun G4 hx4 ⟨w', h5, h6⟩ => ?_
  have hr4 := exB_tup hx4 ha hr
  have hp4 := exB_tup hx4 ha hm3
  clear hm1 hm2 hm3 he1 he2 he3
  walk_at "go"
  exact ⟨rfl, q x _ (exB_mk hx hd hb (hx4.trans ExB.set)) (sth_of (r := .work n l r i) h5 h6 hr4 hp4)⟩
theorem s_mkPrint {n : Str} {i : Int} (hv : xs = [.int i, .str n]) (q : ∀ x H', Ex H H' → StA K H' (.prn i n) (.ref x) → Q (.ref x) H') : RMk (He.ga K "Print") (Gam K w (k + 2) .Print_init) xs E H Q := by
  subst hv
  intro x dx hx hd hn
  refine ⟨rfl, ?_⟩
  unfold rd_Print_init
  refine k_start ?_
  walk_at "go"
  rename_i pw G1 hpw he1 hm1 pr G2 hpr he2 hm2 pp G3 hpp he3 hm3
  have ha : G3 x = some (.ins (He.ga K "Print") dx []) := by walk_at "hp"
  have hr := he3.at hm2
  have hw := (he2.trans he3).at hm1
  have hb := he1.trans (he2.trans he3)
  refine s_Step_init0 (ws := []) rfl inferInstance ha hw hm3 fun G4 hx4 ⟨w', h5, h6⟩ => ?_
  have hr4 := exB_tup hx4 ha hr
  have hp4 := exB_tup hx4 ha hm3
  clear hm1 hm2 hm3 he1 he2 he3
  walk_at "go"
  exact ⟨rfl, q x _ (exB_mk hx hd hb (hx4.trans ExB.set)) (sth_of (r := .prn i n) h5 h6 hr4 hp4)⟩
theorem s_mkLeave (hv : xs = []) (q : ∀ x H', Ex H H' → StA K H' (.leave) (.ref x) → Q (.ref x) H') : RMk (He.ga K "Leave") (Gam K w (k + 2) .Leave_init) xs E H Q := by
  subst hv
  intro x dx hx hd hn
  refine ⟨rfl, ?_⟩
  unfold rd_Leave_init
  refine k_start ?_
  walk_at "go"
  rename_i pw G1 hpw he1 hm1 pr G2 hpr he2 hm2 pp G3 hpp he3 hm3
  have ha : G3 x = some (.ins (He.ga K "Leave") dx []) := by walk_at "hp"
  have hr := he3.at hm2
  have hw := (he2.trans he3).at hm1
  have hb := he1.trans (he2.trans he3)
  refine s_Step_init0 (ws := []) rfl inferInstance ha hw hm3 fun G4 hx4 ⟨w', h5, h6⟩ => ?_
  have hr4 := exB_tup hx4 ha hr
  have hp4 := exB_tup hx4 ha hm3
  clear hm1 hm2 hm3 he1 he2 he3
  walk_at "go"
  exact ⟨rfl, q x _ (exB_mk hx hd hb (hx4.trans ExB.set)) (sth_of (r := .leave) h5 h6 hr4 hp4)⟩
theorem s_mkTest {n : Str} {x y : List Row} {px py : Addr} {as bs : List V} (hv : xs = [.str n, .ref px, .ref py]) (hx' : H px = some (.tup as)) (hxs : StsA K H x as) (hy' : H py = some (.tup bs)) (hys : StsA K H y bs)
    (hbig : szs x + szs y ≤ 40000) (q : ∀ z H', Ex H H' → StA K H' (.test n x y) (.ref z) → Q (.ref z) H') : RMk (He.ga K "Test") (Gam K w (k + 2) .Test_init) xs E H Q := by
  subst hv
  intro z dx hx hd hn
  refine ⟨rfl, ?_⟩
  unfold rd_Test_init
  refine k_start ?_
  walk_at "go"
  rename_i pw G1 hpw he1 hm1 pr G2 hpr he2 hm2 pp G3 hpp he3 hm3
  have ha : G3 z = some (.ins (He.ga K "Test") dx []) := by walk_at "hp"
  have hr := he3.at hm2
  have hw := (he2.trans he3).at hm1
  have hb := he1.trans (he2.trans he3)
  have hb0 := exB_mk hx hd hb (ExB.refl _)
  refine s_Step_init (ws := []) (pss := [x, y]) rfl inferInstance ha hw hm3 ⟨px, as, _, rfl, ⟨hb0.at hx', hxs.ex hb0⟩, py, bs, [], rfl, ⟨hb0.at hy', hys.ex hb0⟩, rfl⟩ (big_of (by simpa using hbig)) fun G4 hx4 ⟨w', h5, h6⟩ => ?_
  have hr4 := exB_tup hx4 ha hr
  have hp4 := exB_tup hx4 ha hm3
  have hbe := exB_mk hx hd hb hx4
  clear hm1 hm2 hm3 he1 he2 he3
  refine k_next ⟨rfl, q z _ hbe ⟨px, py, as, bs, ⟨z, dx, w', pr, pp, rfl, ?_, h6, hr4, hp4⟩, ⟨hbe.at hx', hxs.ex hbe⟩, hbe.at hy', hys.ex hbe⟩⟩
  simpa [stepF, clsN] using h5
/-- a class of blocks -/
class BlkC (K : PySem.W.Frag) (C : Addr) : Prop where
  s : StepC K C
  kf : HasF K C ("kind" : Str)
  of : HasF K C ("opened" : Str)
  m : MemC C [He.ga K ("Block" : Str), He.ga K ("Loop" : Str), He.ga K ("Guard" : Str), He.ga K ("Call" : Str)]
instance (priority := low) {C : Addr} [c : BlkC K C] : HasF K C ("kind" : Str) := c.kf
instance (priority := low) {C : Addr} [c : BlkC K C] : HasF K C ("opened" : Str) := c.of
instance (priority := low) {C : Addr} [c : BlkC K C] : StepC K C := c.s
instance (priority := low) {C : Addr} [c : BlkC K C] : MemC C [He.ga K ("Block" : Str), He.ga K ("Loop" : Str), He.ga K ("Guard" : Str), He.ga K ("Call" : Str)] := c.m
instance : BlkC K (He.ga K ("Loop" : Str)) := ⟨inferInstance, inferInstance, inferInstance, inferInstance⟩
instance : BlkC K (He.ga K ("Guard" : Str)) := ⟨inferInstance, inferInstance, inferInstance, inferInstance⟩
instance : BlkC K (He.ga K ("Call" : Str)) := ⟨inferInstance, inferInstance, inferInstance, inferInstance⟩
theorem s_Block_init {C dx rd p : Addr} {kd : Str} {pss : List (List Row)} {ps : List V} (hv : xs = [.ref a, .str kd, .ref rd, .ref p]) (hC : BlkC K C) (ha : H a = some (.ins C dx [])) (hp : H p = some (.tup ps)) (hps : PtsA K H pss ps) (hbig : (pss.map szs).sum ≤ 40000)
    (q : ∀ H' w', ExB a H H' → H' a = some (.ins C dx (fs_Block (.ref w') (.ref rd) (.ref p) (.bl false) (.int (pss.foldl los 0)) (.str kd) (.bl (pss.any lvs)))) → H' w' = some (.tup ((pss.foldl wrs []).map V.str)) → Q .non H') : Gam K w (k + 2) .Block_init xs H Q E := by
  subst hv
  refine ⟨rfl, ?_⟩
  unfold rd_Block_init
  refine k_start ?_
  walk_at "go"
  rename_i pw G1 hpw he1 hm1
  refine s_Step_init (ws := []) (pss := pss) rfl hC.s (he1.at ha) hm1 (he1.at hp) (PtsA.kp (.of he1) pss hps) (big_of (by simpa using hbig)) fun G4 hx4 ⟨w', h5, h6⟩ => ?_
  walk_at "go"
  have nw : w' ≠ a := fun z => by rw [z, h5] at h6; cases h6
  exact q _ w' (((ExB.of he1).trans hx4).trans ExB.set) upd_same (by rw [upd_ne nw]; exact h6)
theorem s_mkLoop {n : Str} {i : Int} {x : List Row} {px : Addr} {as : List V} (hv : xs = [.str n, .int i, .ref px]) (hx' : H px = some (.tup as)) (hxs : StsA K H x as) (hbig : szs x ≤ 40000) (q : ∀ z H', Ex H H' → StA K H' (.loop n i x) (.ref z) → Q (.ref z) H') : RMk (He.ga K "Loop") (Gam K w (k + 3) .Loop_init) xs E H Q := by
  subst hv
  intro z dx hx hd hn
  refine ⟨rfl, ?_⟩
  unfold rd_Loop_init
  refine k_start ?_
  walk_at "go"
  rename_i pr G2 hpr he2 hm2 pp G3 hpp he3 hm3
  have ha : G3 z = some (.ins (He.ga K "Loop") dx []) := by walk_at "hp"
  have hr := he3.at hm2
  have hb := he2.trans he3
  have hb0 := exB_mk hx hd hb (ExB.refl _)
  refine s_Block_init (pss := [x]) rfl inferInstance ha hm3 ⟨px, as, _, rfl, ⟨hb0.at hx', hxs.ex hb0⟩, rfl⟩ (by simpa using hbig) fun G4 w' hx4 h5 h6 => ?_
  have hr4 := exB_tup hx4 ha hr
  have hp4 := exB_tup hx4 ha hm3
  clear hm2 hm3 he2 he3
  simp only [List.foldl_cons, List.foldl_nil, List.any_cons, List.any_nil, Bool.or_false] at h5 h6
  walk_at "go"
  have hbe : ∀ o, Ex H (upd G4 z o) := fun o => exB_mk hx hd hb (hx4.trans ExB.set)
  refine ⟨rfl, q z _ (hbe _) ⟨px, as, sth_of (r := .loop n i x) h5 h6 hr4 hp4, (hbe _).at hx', hxs.ex (hbe _)⟩⟩
theorem s_mkGuard {x y : List Row} {px py : Addr} {as bs : List V} (hv : xs = [.ref px, .ref py]) (hx' : H px = some (.tup as)) (hxs : StsA K H x as) (hy' : H py = some (.tup bs)) (hys : StsA K H y bs) (hbig : szs x + szs y ≤ 40000)
    (q : ∀ z H', Ex H H' → StA K H' (.guard x y) (.ref z) → Q (.ref z) H') : RMk (He.ga K "Guard") (Gam K w (k + 3) .Guard_init) xs E H Q := by
  subst hv
  intro z dx hx hd hn
  refine ⟨rfl, ?_⟩
  unfold rd_Guard_init
  refine k_start ?_
  walk_at "go"
  rename_i pr G2 hpr he2 hm2 pp G3 hpp he3 hm3
  have ha : G3 z = some (.ins (He.ga K "Guard") dx []) := by walk_at "hp"
  have hr := he3.at hm2
  have hb := he2.trans he3
  have hb0 := exB_mk hx hd hb (ExB.refl _)
  refine s_Block_init (pss := [x, y]) rfl inferInstance ha hm3 ⟨px, as, _, rfl, ⟨hb0.at hx', hxs.ex hb0⟩, py, bs, [], rfl, ⟨hb0.at hy', hys.ex hb0⟩, rfl⟩ (by simpa using hbig) fun G4 w' hx4 h5 h6 => ?_
  have hr4 := exB_tup hx4 ha hr
  have hp4 := exB_tup hx4 ha hm3
  clear hm2 hm3 he2 he3
  simp only [List.foldl_cons, List.foldl_nil, List.any_cons, List.any_nil, Bool.or_false] at h5 h6
  have hbe : Ex H G4 := exB_mk hx hd hb hx4
  refine k_next ⟨rfl, q z _ hbe ⟨px, py, as, bs, ⟨z, dx, w', pr, pp, rfl, h5, h6, hr4, hp4⟩, ⟨hbe.at hx', hxs.ex hbe⟩, hbe.at hy', hys.ex hbe⟩⟩
theorem s_mkCall {x : List Row} {px : Addr} {as : List V} (hv : xs = [.ref px]) (hx' : H px = some (.tup as)) (hxs : StsA K H x as) (hbig : szs x ≤ 40000) (q : ∀ z H', Ex H H' → StA K H' (.call x) (.ref z) → Q (.ref z) H') : RMk (He.ga K "Call") (Gam K w (k + 3) .Call_init) xs E H Q := by
  subst hv
  intro z dx hx hd hn
  refine ⟨rfl, ?_⟩
  unfold rd_Call_init
  refine k_start ?_
  walk_at "go"
  rename_i pr G2 hpr he2 hm2 pp G3 hpp he3 hm3
  have ha : G3 z = some (.ins (He.ga K "Call") dx []) := by walk_at "hp"
  have hr := he3.at hm2
  have hb := he2.trans he3
  have hb0 := exB_mk hx hd hb (ExB.refl _)
  refine s_Block_init (pss := [x]) rfl inferInstance ha hm3 ⟨px, as, _, rfl, ⟨hb0.at hx', hxs.ex hb0⟩, rfl⟩ (by simpa using hbig) fun G4 w' hx4 h5 h6 => ?_
  have hr4 := exB_tup hx4 ha hr
  have hp4 := exB_tup hx4 ha hm3
  clear hm2 hm3 he2 he3
  simp only [List.foldl_cons, List.foldl_nil, List.any_cons, List.any_nil, Bool.or_false] at h5 h6
  have hbe : Ex H G4 := exB_mk hx hd hb hx4
  refine k_next ⟨rfl, q z _ hbe ⟨px, as, ⟨z, dx, w', pr, pp, rfl, h5, h6, hr4, hp4⟩, hbe.at hx', hxs.ex hbe⟩⟩
end
end L2.MP

set_option Elab.async false
set_option linter.all false
set_option maxRecDepth 100000
set_option maxHeartbeats 4000000
namespace L2.MP
open PySem PySem.Spec PyProof.Rows L2
/-! ### the stepping tactic -/
local macro_rules | `(tactic| walk_at "ne") => `(tactic| first
  | with_reducible assumption
  | ((with_reducible apply Ne.symm); with_reducible assumption)
  | ((with_reducible refine' ne_of_none ?a ?b); (case b => with_reducible assumption); (case a => walk_at "hp"))
  | ((with_reducible apply Ne.symm); (with_reducible refine' ne_of_none ?a ?b); (case b => with_reducible assumption); (case a => walk_at "hp"))
  | (refine' ne_of (by with_reducible assumption) (by with_reducible assumption) ?_; intro z; cases z))
local macro_rules | `(tactic| walk_at "hs") => `(tactic| first
  | with_reducible assumption
  | with_reducible exact upd_same
  | ((with_reducible apply up_new); (with_reducible assumption))
  | ((with_reducible apply Ex.at); (with_reducible assumption))
  | ((with_reducible apply up_ne); (walk_at "ne")))
local macro_rules | `(tactic| walk_at "hp") => `(tactic| ((repeat walk_at "hs"); done))
local macro_rules | `(tactic| walk_at "ss") => `(tactic| first
  | with_reducible assumption
  | ((with_reducible apply sqL_of); first | with_reducible assumption | with_reducible exact upd_same)
  | ((with_reducible apply sqT_of); first | with_reducible assumption | with_reducible exact upd_same)
  | ((with_reducible apply up_sqL); (with_reducible assumption))
  | ((with_reducible apply up_sqT); (with_reducible assumption))
  | ((with_reducible apply Ex.sqL); (with_reducible assumption))
  | ((with_reducible apply Ex.sqT); (with_reducible assumption))
  | ((with_reducible apply sqL_ne); (walk_at "ne"))
  | ((with_reducible apply sqT_ne); (walk_at "ne")))
local macro_rules | `(tactic| walk_at "sq") => `(tactic| ((repeat walk_at "ss"); done))
local macro_rules | `(tactic| walk_at "fl") => `(tactic| first
  | exact rfl
  | decide +kernel
  | (simp [flatOk, flat1]; done)
  | ((simp [flatOk, flat1]); decide +kernel))
local macro_rules | `(tactic| walk_at "ib") => `(tactic| first
  | omega
  | (refine Int.emod_nonneg _ ?_; omega)
  | (refine Int.emod_lt_of_pos _ ?_; omega))
local macro_rules | `(tactic| walk_at "ex") => `(tactic| first
  | with_reducible exact Ex.refl _
  | with_reducible assumption
  | ((with_reducible refine' Ex.trans ?a ?b); (case b => with_reducible assumption); (case a => walk_at "ex"))
  | ((with_reducible refine' Ex.new' ?a ?b); (case b => walk_at "nn"); (case a => walk_at "ex")))
local macro_rules | `(tactic| walk_at "nn") => `(tactic| first
  | with_reducible assumption
  | ((with_reducible refine' Ex.none ?a ?b); (case b => with_reducible assumption); (case a => walk_at "ex")))
local macro_rules | `(tactic| walk_at "bt") => `(tactic| first
  | exact rfl
  | (simp only [Bool.not_true, Bool.not_false, Bool.true_or, Bool.false_or, Bool.true_and, Bool.false_and, Bool.or_true, Bool.or_false, Bool.and_true, Bool.and_false, Bool.not_eq_true', Bool.not_eq_false', Bool.or_eq_true, Bool.or_eq_false_iff, Bool.and_eq_true, Bool.and_eq_false_iff, decide_eq_true_eq, decide_eq_false_iff_not] <;> omega)
  | (simp; done)
  | (simp; omega))
local macro_rules | `(tactic| walk_at "len") => `(tactic| first
  | exact Nat.le_of_ble_eq_true rfl
  | (simp only [List.length_cons, List.length_nil, List.length_append, List.length_map]; omega)
  | omega)
local macro_rules | `(tactic| walk_at "un") => `(tactic| fail)
local macro_rules | `(tactic| walk_at "cs") => `(tactic| fail)
local macro_rules | `(tactic| walk_at "st") => `(tactic| first
  | with_reducible refine k_var ?_
  | with_reducible refine k_asgS ?_
  | with_reducible refine k_c ?_
  | with_reducible refine k_op ?_
  | with_reducible refine k_cons ?_
  | with_reducible refine k_nil ?_
  | with_reducible refine k_seq ?_
  | with_reducible refine k_asg ?_
  | with_reducible refine k_cb ?_
  | with_reducible refine k_fld ?_
  | ((with_reducible refine' k_rfld ?h ?i ?j ?q); (case h => walk_at "hp"); (case i => infer_instance); (case j => infer_instance))
  | with_reducible refine k_if ?_
  | with_reducible refine k_test ?_
  | with_reducible refine k_bl ?_
  | with_reducible refine k_tB ?_
  | with_reducible refine k_itT ?_
  | with_reducible refine k_itF ?_
  | with_reducible refine k_next ?_
  | with_reducible refine k_ret ?_
  | with_reducible refine k_call ?_
  | with_reducible refine k_tup ?_
  | ((with_reducible refine' k_newTA ?h ?q); (case h => walk_at "len"); intro p H' hp he hm)
  | with_reducible refine k_lst ?_
  | ((with_reducible refine' k_newLA ?h ?q); (case h => walk_at "len"); intro p H' hp he hm)
  | with_reducible refine k_and ?_
  | with_reducible refine k_or ?_
  | with_reducible refine k_not ?_
  | with_reducible refine k_inot ?_
  | with_reducible refine o_eqI ?_
  | with_reducible refine o_eqB ?_
  | with_reducible refine o_eqS ?_
  | with_reducible refine o_neI ?_
  | with_reducible refine o_neB ?_
  | with_reducible refine o_neS ?_
  | with_reducible refine o_lt ?_
  | with_reducible refine o_le ?_
  | with_reducible refine o_gt ?_
  | with_reducible refine o_ge ?_
  | with_reducible refine o_addI ?_
  | ((with_reducible refine' o_addLA ?h1 ?h2 ?h ?q); (case h1 => walk_at "hp"); (case h2 => walk_at "hp"); (case h => walk_at "len"); intro p H' hp he hm; dsimp only [List.cons_append, List.nil_append] at hm)
  | with_reducible refine o_subI ?_
  | ((with_reducible refine' o_mod ?h ?q); (case h => first | decide | omega))
  | ((with_reducible refine' o_fdiv ?h ?q); (case h => first | exact ⟨by first | decide | omega, by first | decide | omega⟩ | exact ⟨by split <;> decide, by split <;> decide⟩))
  | ((with_reducible refine' o_mulI ?h ?q); (case h => first | exact .inl ⟨by first | decide | omega, by first | decide | omega⟩ | exact .inr ⟨by first | decide | omega, by first | decide | omega⟩))
  | ((with_reducible refine' o_ixTn ?h ?h0 ?e ?q); (case h => walk_at "sq"); (case h0 => decide); (case e => exact rfl))
  | ((with_reducible refine' o_ixLn ?h ?h0 ?e ?q); (case h => walk_at "sq"); (case h0 => decide); (case e => exact rfl))
  | ((with_reducible refine' o_ixD ?h ?h0 ?h1 ?q); (case h => walk_at "sq"); (case h0 => walk_at "ib"); (case h1 => walk_at "ib"))
  | ((with_reducible refine' o_ixSv ?h ?h0 ?h1 ?q); (case h => walk_at "sq"); (case h0 => walk_at "ib"); (case h1 => walk_at "ib"))
  | ((with_reducible refine' o_ix2S ?h ?q); (case h => walk_at "sq"))
  | ((with_reducible refine' o_ix2PT ?h ?hp ?q); (case h => walk_at "sq"); (case hp => omega))
  | ((with_reducible refine' o_ix2PL ?h ?hp ?q); (case h => walk_at "sq"); (case hp => omega))
  | ((with_reducible refine' o_inTI ?h ?c ?q); (case h => walk_at "sq"); (case c => infer_instance))
  | ((with_reducible refine' o_inLI ?h ?c ?q); (case h => walk_at "sq"); (case c => infer_instance))
  | ((with_reducible refine' o_ix2I ?h ?q); (case h => walk_at "sq"))
  | ((with_reducible refine' o_lenLS ?h ?q); (case h => walk_at "sq"))
  | ((with_reducible refine' o_lenLI ?h ?q); (case h => walk_at "sq"))
  | ((with_reducible refine' o_lenL ?h ?q); (case h => walk_at "sq"))
  | ((with_reducible refine' o_lenT ?h ?q); (case h => walk_at "sq"))
  | with_reducible refine' i_plain ?_
  | with_reducible refine' i_plainC ?_
  | ((with_reducible refine' i_insC ?h ?i ?c ?q); (case h => walk_at "hp"); (case i => infer_instance); (case c => infer_instance))
  | ((with_reducible refine' i_lst ?h ?c ?q); (case h => walk_at "hp"); (case c => infer_instance))
  | ((with_reducible refine' i_tup ?h ?c ?q); (case h => walk_at "hp"); (case c => infer_instance))
  | with_reducible refine k_prop ?_
  | ((with_reducible refine' k_rprop ?h ?q); (case h => walk_at "hp"))
  | with_reducible refine k_make ?_
  | with_reducible refine k_makeKS ?_
  | ((with_reducible refine' k_rmkK ?hl ?hg ?q); (case hl => exact rfl); (case hg => exact fun _ => rfl))
  | with_reducible refine k_meth ?_
  | ((with_reducible refine' k_rmeth ?h ?i ?q); (case h => walk_at "hp"); (case i => infer_instance))
  | with_reducible refine k_andV ?_
  | with_reducible refine k_orV ?_
  | with_reducible refine k_notV ?_
  | with_reducible refine k_rand ?_
  | with_reducible refine k_rnot ?_
  | with_reducible refine k_un ?_
  | with_reducible refine k_ifE ?_
  | with_reducible refine k_randT ?_
  | with_reducible refine k_randF ?_
  | with_reducible refine k_rorT ?_
  | with_reducible refine k_rorF ?_
  | with_reducible refine k_randtT ?_
  | with_reducible refine k_randtF ?_
  | with_reducible refine k_rortT ?_
  | with_reducible refine k_rortF ?_
  | ((with_reducible refine' k_randP ?h2 ?q); (case h2 => intro _ hq; (walk_at "go"); with_reducible exact hq))
  | ((with_reducible refine' k_rorP ?h2 ?q); (case h2 => intro _ hq; (walk_at "go"); with_reducible exact hq))
  | with_reducible refine k_randS ?_
  | with_reducible refine k_rorS ?_
  | ((with_reducible refine' k_rifI ?h1 ?h2 ?q); (case h1 => intro _ hq; (walk_at "go"); with_reducible exact hq); (case h2 => intro _ hq; (walk_at "go"); with_reducible exact hq))
  | with_reducible refine k_rifS ?_
  | ((with_reducible refine' k_randtP ?h2 ?q); (case h2 => intro _ hq; (walk_at "go"); with_reducible exact hq))
  | ((with_reducible refine' k_rortP ?h2 ?q); (case h2 => intro _ hq; (walk_at "go"); with_reducible exact hq))
  | with_reducible refine k_randtS ?_
  | with_reducible refine k_rortS ?_
  | ((with_reducible refine' k_own ?h ?i ?q); (case h => walk_at "hp"); (case i => walk_at "hp"))
  | ((with_reducible refine' k_ownI ?h ?q); (case h => walk_at "hp"))
  | ((with_reducible refine' k_ownA ?h ?q); (case h => walk_at "hp"))
  | with_reducible refine k_aug ?_
  | with_reducible refine o_addIp ?_
  | with_reducible refine k_drop ?_
  | with_reducible refine k_fldp ?_
  | ((with_reducible refine' k_rputU ?i ?j ?q); (case i => infer_instance); (case j => infer_instance))
  | ((with_reducible refine' k_rput ?h ?i ?j ?q); (case h => walk_at "hp"); (case i => infer_instance); (case j => infer_instance))
  | ((with_reducible refine' k_dispA ?h ?q); (case h => exact Nat.le_of_ble_eq_true rfl); intro p H' hp he hm)
  | with_reducible refine k_newK ?_
  | ((with_reducible refine' k_newDA ?q); intro p H' hp he hm)
  | with_reducible refine k_dget ?_
  | with_reducible refine k_dget2 ?_
  | ((with_reducible refine' k_rdgetC ?h ?e ?q); (case h => walk_at "hp"); (case e => infer_instance))
  | ((with_reducible refine' k_rdg2 ?h ?q); (case h => walk_at "hp"))
  | ((with_reducible refine' k_rdo ?h ?q); (case h => walk_at "hp"))
  | with_reducible refine k_dput ?_
  | ((with_reducible refine' k_rdputU ?hl ?e ?q); (case hl => exact Nat.le_of_ble_eq_true rfl); (case e => infer_instance))
  | ((with_reducible refine' k_rdputC ?h ?hl ?e ?q); (case h => walk_at "hp"); (case hl => exact Nat.le_of_ble_eq_true rfl); (case e => infer_instance))
  | with_reducible refine k_m1 ?_
  | with_reducible refine k_rm1 ?_
  | with_reducible refine k_bm ?_
  | ((with_reducible refine' k_rbmL ?h ?q); (case h => walk_at "sq"))
  | ((with_reducible refine' o_appendU ?hl ?q); (case hl => walk_at "len"))
  | ((with_reducible refine' o_append ?h ?hl ?q); (case h => walk_at "hp"); (case hl => walk_at "len"))
  | with_reducible refine k_ownIx ?_
  | ((with_reducible refine' k_rownIx ?h ?q); (case h => walk_at "hp"))
  | with_reducible refine k_ownPut ?_
  | ((with_reducible refine' k_rownPut ?h ?q); (case h => walk_at "hp"))
  | ((with_reducible refine' o_inT ?h ?q); (case h => walk_at "sq"))
  | ((with_reducible refine' o_ninT ?h ?q); (case h => walk_at "sq"))
  | ((with_reducible refine' o_inL ?h ?q); (case h => walk_at "sq"))
  | ((with_reducible refine' o_ninL ?h ?q); (case h => walk_at "sq"))
  | with_reducible refine o_pow18 ?_
  | with_reducible refine o_pow9 ?_
  | with_reducible refine o_pow30 ?_
  | with_reducible refine o_isB ?_
  | with_reducible refine o_neg ?_
  | with_reducible refine o_isN ?_
  | with_reducible refine o_notN ?_
  | with_reducible refine o_max ?_
  | with_reducible refine o_min ?_
  | with_reducible refine o_intI ?_
  | with_reducible refine o_intB ?_
  | with_reducible refine o_abs ?_
  | with_reducible refine k_forR1 ?_
  | with_reducible refine k_forR2 ?_
  | with_reducible refine k_forL ?_
  | with_reducible refine k_forT ?_
  | ((with_reducible refine' k_turnR ?e ?q); (case e => exact rfl))
  | with_reducible refine k_doneR ?_
  | ((with_reducible refine' k_turnL ?h ?q); (case h => walk_at "sq"))
  | ((with_reducible refine' k_doneL ?h ?q); (case h => walk_at "sq"))
  | ((with_reducible refine' k_turnT ?h ?q); (case h => walk_at "sq"))
  | ((with_reducible refine' k_doneT ?h ?q); (case h => walk_at "sq"))
  | with_reducible refine k_forA ?_
  | with_reducible refine k_lcA ?_
  | ((with_reducible refine' o_tupL ?h ?q); (case h => walk_at "sq"); intro p H' hp he hm)
  | ((with_reducible refine' o_lisL ?h ?q); (case h => walk_at "sq"); intro p H' hp he hm)
  | ((with_reducible refine' o_lisT ?h ?q); (case h => walk_at "sq"); intro p H' hp he hm)
  | ((with_reducible refine' o_tupT ?h ?q); (case h => walk_at "sq"))
  | with_reducible refine k_dyn ?_
  | ((with_reducible refine' k_rdyn ?h ?i ?c ?q); (case h => walk_at "hp"); (case i => infer_instance); (case c => infer_instance))
  | with_reducible refine k_brk ?_
  | with_reducible refine k_cont ?_
  | with_reducible refine k_raise ?_
  | with_reducible refine k_retN ?_
  | walk_at "un"
  | walk_at "cs"
  | ((with_reducible refine' k_itdT ?h ?q); (case h => first | with_reducible assumption | omega | decide))
  | ((with_reducible refine' k_itdF ?h ?q); (case h => first | with_reducible assumption | omega | decide))
  | ((with_reducible refine' k_ifT ?h ?q); (case h => walk_at "bt"))
  | ((with_reducible refine' k_ifF ?h ?q); (case h => walk_at "bt")))
local macro_rules | `(tactic| walk_at "go") => `(tactic| repeat walk_at "st")
local macro_rules | `(tactic| walk_at "sp") => `(tactic| repeat' (first | walk_at "st" | refine k_itd (fun h => ?_) (fun h => ?_) | refine k_itb (fun h => ?_) (fun h => ?_)))
local macro_rules | `(tactic| walk_at "cs") => `(tactic| ((with_reducible refine' o_inWt ?q)))
local macro_rules | `(tactic| walk_at "cs") => `(tactic| ((with_reducible refine' o_ninWt ?q)))
local macro_rules | `(tactic| walk_at "cs") => `(tactic| ((with_reducible refine' k_rbmW ?q)))
local macro_rules | `(tactic| walk_at "cs") => `(tactic| ((with_reducible refine' o_tix ?q)))
local macro_rules | `(tactic| walk_at "cs") => `(tactic| ((with_reducible refine' o_ixWI ?h0 ?e ?q); (case h0 => decide); (case e => exact rfl)))
local macro_rules | `(tactic| walk_at "cs") => `(tactic| ((with_reducible refine' s_check_name ?hv ?hn ?q); (case hv => exact rfl); (case hn => assumption)))
local macro_rules | `(tactic| walk_at "cs") => `(tactic| ((with_reducible refine' s_check_number ?hv ?h1 ?h2 ?q); (case hv => exact rfl); (case h1 => omega); (case h2 => omega)))
local macro_rules | `(tactic| walk_at "cs") => `(tactic| ((with_reducible refine' s_mkTake ?hv ?q); (case hv => exact rfl); intro x H' he hm))
local macro_rules | `(tactic| walk_at "cs") => `(tactic| ((with_reducible refine' s_mkSet ?hv ?q); (case hv => exact rfl); intro x H' he hm))
local macro_rules | `(tactic| walk_at "cs") => `(tactic| ((with_reducible refine' s_mkWork ?hv ?q); (case hv => exact rfl); intro x H' he hm))
local macro_rules | `(tactic| walk_at "cs") => `(tactic| ((with_reducible refine' s_mkPrint ?hv ?q); (case hv => exact rfl); intro x H' he hm))
local macro_rules | `(tactic| walk_at "cs") => `(tactic| ((with_reducible refine' s_mkLeave ?hv ?q); (case hv => exact rfl); intro x H' he hm))
section
variable {K : PySem.W.Frag} [TxtK K] {w : World}
def BStep (K : PySem.W.Frag) [TxtK K] (w : World) (r : Row) : Prop := ∀ (t : Bool) (k : Nat), 3 * r.dep + 5 ≤ k → ∀ (H : Hp) (Q : VK) (E : XK) (xs : List V) (v : V) (deep : Int) (nin : Nat) (top : Int) (lv : Bool),
  xs = [v, .int deep] → RowA t H r v → r.wf nin nmOk top lv → nin ≤ 16 → top ≤ 3 → 0 ≤ deep → deep + r.dep ≤ 40 → r.sz ≤ 40000 → r.lo ≤ 3 →
  (∀ x H', Ex H H' → StA K H' r (.ref x) → Q (.ref x) H') → Gam K w k .build_step xs H Q E
def BBody (K : PySem.W.Frag) [TxtK K] (w : World) (rs : List Row) : Prop := ∀ (t : Bool) (k : Nat), 3 * deps rs + 6 ≤ k → ∀ (H : Hp) (Q : VK) (E : XK) (xs : List V) (p : Addr) (deep : Int) (nin : Nat) (top : Int) (lv : Bool),
  xs = [.ref p, .int deep] → BodA t H rs p → wfs nin nmOk top lv rs → nin ≤ 16 → top ≤ 3 → 0 ≤ deep → deep + deps rs ≤ 40 → szs rs ≤ 40000 → (∀ r ∈ rs, r.lo ≤ 3) →
  (∀ x ys H', Ex H H' → H' x = some (.tup ys) → StsA K H' rs ys → Q (.ref x) H') → Gam K w k .build_body xs H Q E
theorem body_of {rs : List Row} (hs : ∀ r ∈ rs, BStep K w r) : BBody K w rs := by
  intro t k hk H Q E xs p deep nin top lv hv ⟨ys, hp, hr⟩ hw hn ht h0 h40 hsz hlo q
  obtain ⟨k, rfl⟩ : ∃ m, k = m + 1 := ⟨k - 1, by omega⟩
  subst hv
  refine ⟨rfl, ?_⟩
  unfold rd_build_body
  refine k_start ?_
  walk_at "go"
  rename_i tp H1 htp he1 hm1
  have hp1 := hp.ex he1
  have key : ∀ (Q' : VK), Q' (.bl true) H1 → rIsiT K [.ref p, .ref tp] H1 Q' := fun Q' z => by
    rcases hp1 with y | ⟨_, y⟩
    · exact i_ltT y hm1 z
    · exact i_ltL y hm1 z
  refine key _ ?_
  walk_at "go"
  refine k_lcI (j := 0) hp1.sq (fun D m H' => Ex H1 H' ∧ ∃ zs, H' D = some (.lst zs) ∧ StsA K H' (rs.take m) zs) (fun D hD => ⟨Ex.new hD, [], upd_same, rfl⟩) (fun D m H' hD _ ⟨hx, _⟩ => ⟨hx.sqL, hx.sqT⟩) (fun D m x H' hD hm ⟨hx, zs, hz, hst⟩ => ?_) (fun D H' hD ⟨hx, zs, hz, hst⟩ => ?_)
  · obtain ⟨r, hrr, hra⟩ := hr.at hm
    have hmem := List.mem_of_getElem? hrr
    have hd := dep_at hrr
    have hs2 := sz_at hrr
    have htk : rs.take (m + 1) = rs.take m ++ [r] := by rw [List.take_succ, hrr]; rfl
    refine ⟨rfl, ?_⟩
    unfold tYes
    dsimp only [wipe, List.set]
    rw [if_pos rfl]
    walk_at "go"
    refine hs r hmem t k (by omega) _ _ _ _ x deep nin top lv rfl (RowA.ex (he1.trans hx) r hra) (wf_at hw hrr) hn ht h0 (by omega) (by omega) (hlo r hmem) fun y H2 he2 hsy => ?_
    have hz2 := he2.at hz
    have hl := hst.len
    have hl2 := len_szs rs
    refine ⟨zs, hz2, szl_of (by rw [hl, List.length_take]; omega), (hx.trans he2).new' hD, zs ++ [.ref y], upd_same, ?_⟩
    rw [htk]
    exact (StsA.kp (KpS.lset hz2) _ (hst.ex he2)).snoc (StA.kp (KpS.lset hz2) r hsy)
  · rw [hr.len, List.take_length] at hst
    walk_at "go"
    rename_i p2 H2 hp2 he2 hm2
    exact q p2 zs H2 (he1.trans (hx.trans he2)) hm2 (hst.ex he2)
theorem bn_take {n : Str} {i : Int} {k : Nat} {H : Hp} {Q : VK} {E : XK} {xs : List V} {a : Addr} {deep : Int} (hv : xs = [.ref a, .int deep]) (ha : H a = some (.tup [.str ("take" : Str), .str n, .int i])) (hn : nmOk n) (h0 : 0 ≤ i) (h1 : i ≤ 15)
    (q : ∀ x H', Ex H H' → StA K H' (.take n i) (.ref x) → Q (.ref x) H') : Gam K w (k + 4) .build_named xs H Q E := by
  subst hv
  refine ⟨rfl, ?_⟩
  unfold rd_build_named
  refine k_start ?_
  walk_at "go"
  rename_i x H' he hm
  exact q x H' he hm
theorem bn_set {n : Str} {i : Int} {k : Nat} {H : Hp} {Q : VK} {E : XK} {xs : List V} {a : Addr} {deep : Int} (hv : xs = [.ref a, .int deep]) (ha : H a = some (.tup [.str ("set" : Str), .str n, .int i])) (hn : nmOk n) (h0 : 0 ≤ i) (h1 : i ≤ 1)
    (q : ∀ x H', Ex H H' → StA K H' (.set n i) (.ref x) → Q (.ref x) H') : Gam K w (k + 4) .build_named xs H Q E := by
  subst hv
  refine ⟨rfl, ?_⟩
  unfold rd_build_named
  refine k_start ?_
  walk_at "go"
  rename_i x H' he hm
  exact q x H' he hm
theorem bn_work {n l r : Str} {i : Int} {k : Nat} {H : Hp} {Q : VK} {E : XK} {xs : List V} {a : Addr} {deep : Int} (hv : xs = [.ref a, .int deep]) (ha : H a = some (.tup [.str ("work" : Str), .str n, .str l, .str r, .int i])) (hn : nmOk n) (hl : nmOk l) (hr : nmOk r) (h0 : 0 ≤ i) (h1 : i ≤ 15)
    (q : ∀ x H', Ex H H' → StA K H' (.work n l r i) (.ref x) → Q (.ref x) H') : Gam K w (k + 4) .build_named xs H Q E := by
  subst hv
  refine ⟨rfl, ?_⟩
  unfold rd_build_named
  refine k_start ?_
  walk_at "go"
  rename_i x H' he hm
  exact q x H' he hm
theorem bs_take {n : Str} {i : Int} : BStep K w (.take n i) := by
  intro t k hk H Q E xs v deep nin top lv hv hra hw hn ht h0 h40 hsz hlo q
  obtain ⟨k, rfl⟩ : ∃ m, k = m + 5 := ⟨k - 5, by omega⟩
  obtain ⟨a, rfl, ha⟩ := hra
  obtain ⟨w1, w2, w3⟩ := hw
  subst hv
  refine ⟨rfl, ?_⟩
  unfold rd_build_step
  refine k_start ?_
  walk_at "go"
  exact bn_take rfl ha w1 w2 (by omega) q
theorem bs_set {n : Str} {i : Int} : BStep K w (.set n i) := by
  intro t k hk H Q E xs v deep nin top lv hv hra hw hn ht h0 h40 hsz hlo q
  obtain ⟨k, rfl⟩ : ∃ m, k = m + 5 := ⟨k - 5, by omega⟩
  obtain ⟨a, rfl, ha⟩ := hra
  obtain ⟨w1, w2, w3⟩ := hw
  subst hv
  refine ⟨rfl, ?_⟩
  unfold rd_build_step
  refine k_start ?_
  walk_at "go"
  exact bn_set rfl ha w1 w2 (by omega) q
theorem bs_work {n l r : Str} {i : Int} : BStep K w (.work n l r i) := by
  intro t k hk H Q E xs v deep nin top lv hv hra hw hn ht h0 h40 hsz hlo q
  obtain ⟨k, rfl⟩ : ∃ m, k = m + 5 := ⟨k - 5, by omega⟩
  obtain ⟨a, rfl, ha⟩ := hra
  obtain ⟨w1, w2, w3, w4, w5⟩ := hw
  subst hv
  refine ⟨rfl, ?_⟩
  unfold rd_build_step
  refine k_start ?_
  walk_at "go"
  exact bn_work rfl ha w1 w2 w3 w4 (by omega) q
theorem bs_print {c : Int} {n : Str} : BStep K w (.prn c n) := by
  intro t k hk H Q E xs v deep nin top lv hv hra hw hn ht h0 h40 hsz hlo q
  obtain ⟨k, rfl⟩ : ∃ m, k = m + 5 := ⟨k - 5, by omega⟩
  obtain ⟨a, rfl, ha⟩ := hra
  obtain ⟨w1, w2, w3⟩ := hw
  subst hv
  refine ⟨rfl, ?_⟩
  unfold rd_build_step
  refine k_start ?_
  walk_at "go"
  rename_i x H' he hm
  exact q x H' he hm
theorem bs_leave : BStep K w .leave := by
  intro t k hk H Q E xs v deep nin top lv hv hra hw hn ht h0 h40 hsz hlo q
  obtain ⟨k, rfl⟩ : ∃ m, k = m + 5 := ⟨k - 5, by omega⟩
  obtain ⟨a, rfl, ha⟩ := hra
  subst hv
  refine ⟨rfl, ?_⟩
  unfold rd_build_step
  refine k_start ?_
  walk_at "go"
  rename_i x H' he hm
  exact q x H' he hm
theorem los_mem : ∀ {rs : List Row} {r : Row} (m : Int), r ∈ rs → r.lo ≤ los m rs
  | x :: rs, r, m, h => by
    simp only [los]
    rcases List.mem_cons.mp h with rfl | h
    · have := (los_dep rs (if r.lo > m then r.lo else m)).1
      split at this <;> rename_i hc <;> simp only [hc, if_true, if_false] <;> omega
    · exact los_mem _ h
theorem bs_call {b : List Row} (hs : ∀ r ∈ b, BStep K w r) : BStep K w (.call b) := by
  intro t k hk H Q E xs v deep nin top lv hv hra hw hn ht h0 h40 hsz hlo q
  simp only [Row.dep, Row.sz, Row.lo] at hk h40 hsz hlo
  obtain ⟨k, rfl⟩ : ∃ m, k = m + 8 := ⟨k - 8, by omega⟩
  obtain ⟨a, p, rfl, ha, hb⟩ := hra
  subst hv
  refine ⟨rfl, ?_⟩
  unfold rd_build_step
  refine k_start ?_
  walk_at "go"
  refine body_of hs t (k + 7) (by omega) _ _ _ _ p (deep + 1) nin top true rfl hb hw hn ht (by omega) (by omega) (by omega) (fun r hr => Int.le_trans (los_mem 0 hr) hlo) fun x ys H1 he1 hm1 hs1 => ?_
  walk_at "go"
  exact s_mkCall rfl hm1 hs1 (by omega) fun z H' he hst => q z H' (he1.trans he) hst
theorem bs_guard {b h : List Row} (hs : ∀ r ∈ b, BStep K w r) (hs' : ∀ r ∈ h, BStep K w r) : BStep K w (.guard b h) := by
  intro t k hk H Q E xs v deep nin top lv hv hra hw hn ht h0 h40 hsz hlo q
  simp only [Row.dep, Row.sz, Row.lo] at hk h40 hsz hlo
  obtain ⟨k, rfl⟩ : ∃ m, k = m + 8 := ⟨k - 8, by omega⟩
  obtain ⟨a, p, p', rfl, ha, hb, hb'⟩ := hra
  have hlo1 := (los_dep h (los 0 b)).1
  subst hv
  refine ⟨rfl, ?_⟩
  unfold rd_build_step
  refine k_start ?_
  walk_at "go"
  refine body_of hs t (k + 7) (by omega) _ _ _ _ p (deep + 1) nin top true rfl hb hw.1 hn ht (by omega) (by omega) (by omega) (fun r hr => Int.le_trans (los_mem 0 hr) (by omega)) fun x ys H1 he1 hm1 hs1 => ?_
  have ha := he1.at ha
  walk_at "go"
  refine body_of hs' t (k + 7) (by omega) _ _ _ _ p' (deep + 1) nin top false rfl (BodA.ex he1 hb') hw.2 hn ht (by omega) (by omega) (by omega) (fun r hr => Int.le_trans (los_mem _ hr) hlo) fun x2 ys2 H2 he2 hm2 hs2 => ?_
  walk_at "go"
  refine k_raI (.inr (sqT_of hm2)) (fun m σ H' => H' = H2 ∧ ∃ u, σ = [some (.ref a), some (.int deep), some (.str ("guard" : Str)), some (.ref x), some (.ref x2), u]) ⟨rfl, _, rfl⟩ (fun m σ H' _ z => z.1 ▸ Ex.refl _) ?_ ?_
  · rintro m v σ H' hm ⟨rfl, u, rfl⟩
    obtain ⟨r, hr, hra⟩ := hs2.at hm
    obtain ⟨ps, hh⟩ := hra.hd
    have hlv := wf_lv r (wf_at hw.2 hr)
    dsimp only [List.set]
    walk_at "go"
    refine hh.fl ?_
    rw [hlv]
    walk_at "go"
    exact ⟨rfl, _, rfl⟩
  · rintro σ H' ⟨rfl, u, rfl⟩
    walk_at "go"
    exact s_mkGuard rfl (he2.at hm1) (hs1.ex he2) hm2 hs2 (by omega) fun z H' he hst => q z H' (he1.trans (he2.trans he)) hst
theorem bn_loop {n : Str} {i : Int} {b : List Row} (hs : ∀ r ∈ b, BStep K w r) {t : Bool} {k : Nat} (hk : 3 * deps b + 6 ≤ k + 4) {H : Hp} {Q : VK} {E : XK} {xs : List V} {a p : Addr} {deep : Int} {nin : Nat} {top : Int} (hv : xs = [.ref a, .int deep]) (ha : H a = some (.tup [.str ("loop" : Str), .str n, .int i, .ref p])) (hb : BodA t H b p) (hw : wfs nin nmOk top true b) (hn : nmOk n) (h0 : 1 ≤ i) (h1 : i ≤ 6)
    (hni : nin ≤ 16) (ht : top ≤ 3) (d0 : 0 ≤ deep) (d1 : deep + (1 + deps b : Nat) ≤ 40) (hsz : szs b ≤ 40000) (hlo : 1 + los 0 b ≤ 3)
    (q : ∀ x H', Ex H H' → StA K H' (.loop n i b) (.ref x) → Q (.ref x) H') : Gam K w (k + 5) .build_named xs H Q E := by
  subst hv
  refine ⟨rfl, ?_⟩
  unfold rd_build_named
  refine k_start ?_
  walk_at "go"
  refine body_of hs t (k + 4) (by omega) _ _ _ _ p (deep + 1) nin top true rfl hb hw hni ht (by omega) (by omega) (by omega) (fun r hr => Int.le_trans (los_mem 0 hr) (by omega)) fun x ys H1 he1 hm1 hs1 => ?_
  walk_at "go"
  refine s_mkLoop rfl hm1 hs1 (by omega) fun z H2 he2 hst => ?_
  walk_at "go"
  obtain ⟨ps, hh⟩ := hst.hd
  refine hh.fo ?_
  have hlo2 : (Row.loop n i b).lo ≤ 3 := by simp only [Row.lo]; omega
  walk_at "go"
  exact q z H2 (he1.trans he2) hst
theorem bn_test {n : Str} {b c : List Row} (hs : ∀ r ∈ b, BStep K w r) (hs' : ∀ r ∈ c, BStep K w r) {t : Bool} {k : Nat} (hk : 3 * max (deps b) (deps c) + 6 ≤ k + 4) {H : Hp} {Q : VK} {E : XK} {xs : List V} {a p p' : Addr} {deep : Int} {nin : Nat} {top : Int} {lv : Bool} (hv : xs = [.ref a, .int deep]) (ha : H a = some (.tup [.str ("test" : Str), .str n, .ref p, .ref p'])) (hb : BodA t H b p) (hb' : BodA t H c p') (hw : wfs nin nmOk top lv b) (hw' : wfs nin nmOk top lv c) (hn : nmOk n)
    (hni : nin ≤ 16) (ht : top ≤ 3) (d0 : 0 ≤ deep) (d1 : deep + (1 + max (deps b) (deps c) : Nat) ≤ 40) (hsz : szs b + szs c ≤ 40000) (hlo : los (los 0 b) c ≤ 3)
    (q : ∀ x H', Ex H H' → StA K H' (.test n b c) (.ref x) → Q (.ref x) H') : Gam K w (k + 5) .build_named xs H Q E := by
  subst hv
  have hlo1 := (los_dep c (los 0 b)).1
  refine ⟨rfl, ?_⟩
  unfold rd_build_named
  refine k_start ?_
  walk_at "go"
  refine body_of hs t (k + 4) (by omega) _ _ _ _ p (deep + 1) nin top lv rfl hb hw hni ht (by omega) (by omega) (by omega) (fun r hr => Int.le_trans (los_mem 0 hr) (by omega)) fun x ys H1 he1 hm1 hs1 => ?_
  have ha := he1.at ha
  walk_at "go"
  refine body_of hs' t (k + 4) (by omega) _ _ _ _ p' (deep + 1) nin top lv rfl (BodA.ex he1 hb') hw' hni ht (by omega) (by omega) (by omega) (fun r hr => Int.le_trans (los_mem _ hr) hlo) fun x2 ys2 H2 he2 hm2 hs2 => ?_
  walk_at "go"
  exact s_mkTest rfl (he2.at hm1) (hs1.ex he2) hm2 hs2 (by omega) fun z H' he hst => q z H' (he1.trans (he2.trans he)) hst
theorem bs_loop {n : Str} {i : Int} {b : List Row} (hs : ∀ r ∈ b, BStep K w r) : BStep K w (.loop n i b) := by
  intro t k hk H Q E xs v deep nin top lv hv hra hw hn ht h0 h40 hsz hlo q
  simp only [Row.dep, Row.sz, Row.lo] at hk h40 hsz hlo
  obtain ⟨k, rfl⟩ : ∃ m, k = m + 8 := ⟨k - 8, by omega⟩
  obtain ⟨a, p, rfl, ha, hb⟩ := hra
  obtain ⟨w1, w2, w3, w4⟩ := hw
  subst hv
  refine ⟨rfl, ?_⟩
  unfold rd_build_step
  refine k_start ?_
  walk_at "go"
  exact bn_loop (k := k + 2) hs (by omega) rfl ha hb w4 w1 w2 w3 hn ht h0 h40 (by omega) hlo q
theorem bs_test {n : Str} {b c : List Row} (hs : ∀ r ∈ b, BStep K w r) (hs' : ∀ r ∈ c, BStep K w r) : BStep K w (.test n b c) := by
  intro t k hk H Q E xs v deep nin top lv hv hra hw hn ht h0 h40 hsz hlo q
  simp only [Row.dep, Row.sz, Row.lo] at hk h40 hsz hlo
  obtain ⟨k, rfl⟩ : ∃ m, k = m + 8 := ⟨k - 8, by omega⟩
  obtain ⟨a, p, p', rfl, ha, hb, hb'⟩ := hra
  obtain ⟨w1, w2, w3⟩ := hw
  subst hv
  refine ⟨rfl, ?_⟩
  unfold rd_build_step
  refine k_start ?_
  walk_at "go"
  exact bn_test (k := k + 2) hs hs' (by omega) rfl ha hb hb' w2 w3 w1 hn ht h0 h40 (by omega) hlo q
mutual
theorem s_build_step : ∀ r : Row, BStep K w r
  | .take _ _ => bs_take
  | .set _ _ => bs_set
  | .work _ _ _ _ => bs_work
  | .prn _ _ => bs_print
  | .leave => bs_leave
  | .test _ a b => bs_test (all_bs a) (all_bs b)
  | .loop _ _ b => bs_loop (all_bs b)
  | .guard a b => bs_guard (all_bs a) (all_bs b)
  | .call b => bs_call (all_bs b)
theorem all_bs : ∀ (rs : List Row), ∀ r ∈ rs, BStep K w r
  | [], r, h => by cases h
  | x :: rs, r, h => by
    have h1 := s_build_step x
    have h2 := all_bs rs r
    rcases List.mem_cons.mp h with e | h
    · rw [e]; exact h1
    · exact h2 h
end
theorem s_build_body (rs : List Row) : BBody K w rs := body_of (all_bs rs)
end
end L2.MP

set_option Elab.async false
set_option linter.all false
set_option maxRecDepth 100000
set_option maxHeartbeats 4000000
namespace L2.MP
open PySem PySem.Spec PyProof.Rows L2
/-! ### the stepping tactic -/
local macro_rules | `(tactic| walk_at "ne") => `(tactic| first
  | with_reducible assumption
  | ((with_reducible apply Ne.symm); with_reducible assumption)
  | ((with_reducible refine' ne_of_none ?a ?b); (case b => with_reducible assumption); (case a => walk_at "hp"))
  | ((with_reducible apply Ne.symm); (with_reducible refine' ne_of_none ?a ?b); (case b => with_reducible assumption); (case a => walk_at "hp"))
  | (refine' ne_of (by with_reducible assumption) (by with_reducible assumption) ?_; intro z; cases z))
local macro_rules | `(tactic| walk_at "hs") => `(tactic| first
  | with_reducible assumption
  | with_reducible exact upd_same
  | ((with_reducible apply up_new); (with_reducible assumption))
  | ((with_reducible apply Ex.at); (with_reducible assumption))
  | ((with_reducible apply up_ne); (walk_at "ne")))
local macro_rules | `(tactic| walk_at "hp") => `(tactic| ((repeat walk_at "hs"); done))
local macro_rules | `(tactic| walk_at "ss") => `(tactic| first
  | with_reducible assumption
  | ((with_reducible apply sqL_of); first | with_reducible assumption | with_reducible exact upd_same)
  | ((with_reducible apply sqT_of); first | with_reducible assumption | with_reducible exact upd_same)
  | ((with_reducible apply up_sqL); (with_reducible assumption))
  | ((with_reducible apply up_sqT); (with_reducible assumption))
  | ((with_reducible apply Ex.sqL); (with_reducible assumption))
  | ((with_reducible apply Ex.sqT); (with_reducible assumption))
  | ((with_reducible apply sqL_ne); (walk_at "ne"))
  | ((with_reducible apply sqT_ne); (walk_at "ne")))
local macro_rules | `(tactic| walk_at "sq") => `(tactic| ((repeat walk_at "ss"); done))
local macro_rules | `(tactic| walk_at "fl") => `(tactic| first
  | exact rfl
  | decide +kernel
  | (simp [flatOk, flat1]; done)
  | ((simp [flatOk, flat1]); decide +kernel))
local macro_rules | `(tactic| walk_at "ib") => `(tactic| first
  | omega
  | (refine Int.emod_nonneg _ ?_; omega)
  | (refine Int.emod_lt_of_pos _ ?_; omega))
local macro_rules | `(tactic| walk_at "ex") => `(tactic| first
  | with_reducible exact Ex.refl _
  | with_reducible assumption
  | ((with_reducible refine' Ex.trans ?a ?b); (case b => with_reducible assumption); (case a => walk_at "ex"))
  | ((with_reducible refine' Ex.new' ?a ?b); (case b => walk_at "nn"); (case a => walk_at "ex")))
local macro_rules | `(tactic| walk_at "nn") => `(tactic| first
  | with_reducible assumption
  | ((with_reducible refine' Ex.none ?a ?b); (case b => with_reducible assumption); (case a => walk_at "ex")))
local macro_rules | `(tactic| walk_at "bt") => `(tactic| first
  | exact rfl
  | (simp only [Bool.not_true, Bool.not_false, Bool.true_or, Bool.false_or, Bool.true_and, Bool.false_and, Bool.or_true, Bool.or_false, Bool.and_true, Bool.and_false, Bool.not_eq_true', Bool.not_eq_false', Bool.or_eq_true, Bool.or_eq_false_iff, Bool.and_eq_true, Bool.and_eq_false_iff, decide_eq_true_eq, decide_eq_false_iff_not] <;> omega)
  | (simp; done)
  | (simp; omega))
local macro_rules | `(tactic| walk_at "len") => `(tactic| first
  | exact Nat.le_of_ble_eq_true rfl
  | (simp only [List.length_cons, List.length_nil, List.length_append, List.length_map]; omega)
  | omega)
local macro_rules | `(tactic| walk_at "un") => `(tactic| fail)
local macro_rules | `(tactic| walk_at "cs") => `(tactic| fail)
local macro_rules | `(tactic| walk_at "st") => `(tactic| first
  | with_reducible refine k_var ?_
  | with_reducible refine k_asgS ?_
  | with_reducible refine k_c ?_
  | with_reducible refine k_op ?_
  | with_reducible refine k_cons ?_
  | with_reducible refine k_nil ?_
  | with_reducible refine k_seq ?_
  | with_reducible refine k_asg ?_
  | with_reducible refine k_cb ?_
  | with_reducible refine k_fld ?_
  | ((with_reducible refine' k_rfld ?h ?i ?j ?q); (case h => walk_at "hp"); (case i => infer_instance); (case j => infer_instance))
  | with_reducible refine k_if ?_
  | with_reducible refine k_test ?_
  | with_reducible refine k_bl ?_
  | with_reducible refine k_tB ?_
  | with_reducible refine k_itT ?_
  | with_reducible refine k_itF ?_
  | with_reducible refine k_next ?_
  | with_reducible refine k_ret ?_
  | with_reducible refine k_call ?_
  | with_reducible refine k_tup ?_
  | ((with_reducible refine' k_newTA ?h ?q); (case h => walk_at "len"); intro p H' hp he hm)
  | with_reducible refine k_lst ?_
  | ((with_reducible refine' k_newLA ?h ?q); (case h => walk_at "len"); intro p H' hp he hm)
  | with_reducible refine k_and ?_
  | with_reducible refine k_or ?_
  | with_reducible refine k_not ?_
  | with_reducible refine k_inot ?_
  | with_reducible refine o_eqI ?_
  | with_reducible refine o_eqB ?_
  | with_reducible refine o_eqS ?_
  | with_reducible refine o_neI ?_
  | with_reducible refine o_neB ?_
  | with_reducible refine o_neS ?_
  | with_reducible refine o_lt ?_
  | with_reducible refine o_le ?_
  | with_reducible refine o_gt ?_
  | with_reducible refine o_ge ?_
  | with_reducible refine o_addI ?_
  | ((with_reducible refine' o_addLA ?h1 ?h2 ?h ?q); (case h1 => walk_at "hp"); (case h2 => walk_at "hp"); (case h => walk_at "len"); intro p H' hp he hm; dsimp only [List.cons_append, List.nil_append] at hm)
  | with_reducible refine o_subI ?_
  | ((with_reducible refine' o_mod ?h ?q); (case h => first | decide | omega))
  | ((with_reducible refine' o_fdiv ?h ?q); (case h => first | exact ⟨by first | decide | omega, by first | decide | omega⟩ | exact ⟨by split <;> decide, by split <;> decide⟩))
  | ((with_reducible refine' o_mulI ?h ?q); (case h => first | exact .inl ⟨by first | decide | omega, by first | decide | omega⟩ | exact .inr ⟨by first | decide | omega, by first | decide | omega⟩))
  | ((with_reducible refine' o_ixTn ?h ?h0 ?e ?q); (case h => walk_at "sq"); (case h0 => decide); (case e => exact rfl))
  | ((with_reducible refine' o_ixLn ?h ?h0 ?e ?q); (case h => walk_at "sq"); (case h0 => decide); (case e => exact rfl))
  | ((with_reducible refine' o_ixD ?h ?h0 ?h1 ?q); (case h => walk_at "sq"); (case h0 => walk_at "ib"); (case h1 => walk_at "ib"))
  | ((with_reducible refine' o_ixSv ?h ?h0 ?h1 ?q); (case h => walk_at "sq"); (case h0 => walk_at "ib"); (case h1 => walk_at "ib"))
  | ((with_reducible refine' o_ix2S ?h ?q); (case h => walk_at "sq"))
  | ((with_reducible refine' o_ix2PT ?h ?hp ?q); (case h => walk_at "sq"); (case hp => omega))
  | ((with_reducible refine' o_ix2PL ?h ?hp ?q); (case h => walk_at "sq"); (case hp => omega))
  | ((with_reducible refine' o_inTI ?h ?c ?q); (case h => walk_at "sq"); (case c => infer_instance))
  | ((with_reducible refine' o_inLI ?h ?c ?q); (case h => walk_at "sq"); (case c => infer_instance))
  | ((with_reducible refine' o_ix2I ?h ?q); (case h => walk_at "sq"))
  | ((with_reducible refine' o_lenLS ?h ?q); (case h => walk_at "sq"))
  | ((with_reducible refine' o_lenLI ?h ?q); (case h => walk_at "sq"))
  | ((with_reducible refine' o_lenL ?h ?q); (case h => walk_at "sq"))
  | ((with_reducible refine' o_lenT ?h ?q); (case h => walk_at "sq"))
  | with_reducible refine' i_plain ?_
  | with_reducible refine' i_plainC ?_
  | ((with_reducible refine' i_insC ?h ?i ?c ?q); (case h => walk_at "hp"); (case i => infer_instance); (case c => infer_instance))
  | ((with_reducible refine' i_lst ?h ?c ?q); (case h => walk_at "hp"); (case c => infer_instance))
  | ((with_reducible refine' i_tup ?h ?c ?q); (case h => walk_at "hp"); (case c => infer_instance))
  | with_reducible refine k_prop ?_
  | ((with_reducible refine' k_rprop ?h ?q); (case h => walk_at "hp"))
  | with_reducible refine k_make ?_
  | with_reducible refine k_makeKS ?_
  | ((with_reducible refine' k_rmkK ?hl ?hg ?q); (case hl => exact rfl); (case hg => exact fun _ => rfl))
  | with_reducible refine k_meth ?_
  | ((with_reducible refine' k_rmeth ?h ?i ?q); (case h => walk_at "hp"); (case i => infer_instance))
  | with_reducible refine k_andV ?_
  | with_reducible refine k_orV ?_
  | with_reducible refine k_notV ?_
  | with_reducible refine k_rand ?_
  | with_reducible refine k_rnot ?_
  | with_reducible refine k_un ?_
  | with_reducible refine k_ifE ?_
  | with_reducible refine k_randT ?_
  | with_reducible refine k_randF ?_
  | with_reducible refine k_rorT ?_
  | with_reducible refine k_rorF ?_
  | with_reducible refine k_randtT ?_
  | with_reducible refine k_randtF ?_
  | with_reducible refine k_rortT ?_
  | with_reducible refine k_rortF ?_
  | ((with_reducible refine' k_randP ?h2 ?q); (case h2 => intro _ hq; (walk_at "go"); with_reducible exact hq))
  | ((with_reducible refine' k_rorP ?h2 ?q); (case h2 => intro _ hq; (walk_at "go"); with_reducible exact hq))
  | with_reducible refine k_randS ?_
  | with_reducible refine k_rorS ?_
  | ((with_reducible refine' k_rifI ?h1 ?h2 ?q); (case h1 => intro _ hq; (walk_at "go"); with_reducible exact hq); (case h2 => intro _ hq; (walk_at "go"); with_reducible exact hq))
  | with_reducible refine k_rifS ?_
  | ((with_reducible refine' k_randtP ?h2 ?q); (case h2 => intro _ hq; (walk_at "go"); with_reducible exact hq))
  | ((with_reducible refine' k_rortP ?h2 ?q); (case h2 => intro _ hq; (walk_at "go"); with_reducible exact hq))
  | with_reducible refine k_randtS ?_
  | with_reducible refine k_rortS ?_
  | ((with_reducible refine' k_own ?h ?i ?q); (case h => walk_at "hp"); (case i => walk_at "hp"))
  | ((with_reducible refine' k_ownI ?h ?q); (case h => walk_at "hp"))
  | ((with_reducible refine' k_ownA ?h ?q); (case h => walk_at "hp"))
  | with_reducible refine k_aug ?_
  | with_reducible refine o_addIp ?_
  | with_reducible refine k_drop ?_
  | with_reducible refine k_fldp ?_
  | ((with_reducible refine' k_rputU ?i ?j ?q); (case i => infer_instance); (case j => infer_instance))
  | ((with_reducible refine' k_rput ?h ?i ?j ?q); (case h => walk_at "hp"); (case i => infer_instance); (case j => infer_instance))
  | ((with_reducible refine' k_dispA ?h ?q); (case h => exact Nat.le_of_ble_eq_true rfl); intro p H' hp he hm)
  | with_reducible refine k_newK ?_
  | ((with_reducible refine' k_newDA ?q); intro p H' hp he hm)
  | with_reducible refine k_dget ?_
  | with_reducible refine k_dget2 ?_
  | ((with_reducible refine' k_rdgetC ?h ?e ?q); (case h => walk_at "hp"); (case e => infer_instance))
  | ((with_reducible refine' k_rdg2 ?h ?q); (case h => walk_at "hp"))
  | ((with_reducible refine' k_rdo ?h ?q); (case h => walk_at "hp"))
  | with_reducible refine k_dput ?_
  | ((with_reducible refine' k_rdputU ?hl ?e ?q); (case hl => exact Nat.le_of_ble_eq_true rfl); (case e => infer_instance))
  | ((with_reducible refine' k_rdputC ?h ?hl ?e ?q); (case h => walk_at "hp"); (case hl => exact Nat.le_of_ble_eq_true rfl); (case e => infer_instance))
  | with_reducible refine k_m1 ?_
  | with_reducible refine k_rm1 ?_
  | with_reducible refine k_bm ?_
  | ((with_reducible refine' k_rbmL ?h ?q); (case h => walk_at "sq"))
  | ((with_reducible refine' o_appendU ?hl ?q); (case hl => walk_at "len"))
  | ((with_reducible refine' o_append ?h ?hl ?q); (case h => walk_at "hp"); (case hl => walk_at "len"))
  | with_reducible refine k_ownIx ?_
  | ((with_reducible refine' k_rownIx ?h ?q); (case h => walk_at "hp"))
  | with_reducible refine k_ownPut ?_
  | ((with_reducible refine' k_rownPut ?h ?q); (case h => walk_at "hp"))
  | ((with_reducible refine' o_inT ?h ?q); (case h => walk_at "sq"))
  | ((with_reducible refine' o_ninT ?h ?q); (case h => walk_at "sq"))
  | ((with_reducible refine' o_inL ?h ?q); (case h => walk_at "sq"))
  | ((with_reducible refine' o_ninL ?h ?q); (case h => walk_at "sq"))
  | with_reducible refine o_pow18 ?_
  | with_reducible refine o_pow9 ?_
  | with_reducible refine o_pow30 ?_
  | with_reducible refine o_isB ?_
  | with_reducible refine o_neg ?_
  | with_reducible refine o_isN ?_
  | with_reducible refine o_notN ?_
  | with_reducible refine o_max ?_
  | with_reducible refine o_min ?_
  | with_reducible refine o_intI ?_
  | with_reducible refine o_intB ?_
  | with_reducible refine o_abs ?_
  | with_reducible refine k_forR1 ?_
  | with_reducible refine k_forR2 ?_
  | with_reducible refine k_forL ?_
  | with_reducible refine k_forT ?_
  | ((with_reducible refine' k_turnR ?e ?q); (case e => exact rfl))
  | with_reducible refine k_doneR ?_
  | ((with_reducible refine' k_turnL ?h ?q); (case h => walk_at "sq"))
  | ((with_reducible refine' k_doneL ?h ?q); (case h => walk_at "sq"))
  | ((with_reducible refine' k_turnT ?h ?q); (case h => walk_at "sq"))
  | ((with_reducible refine' k_doneT ?h ?q); (case h => walk_at "sq"))
  | with_reducible refine k_forA ?_
  | with_reducible refine k_lcA ?_
  | ((with_reducible refine' o_tupL ?h ?q); (case h => walk_at "sq"); intro p H' hp he hm)
  | ((with_reducible refine' o_lisL ?h ?q); (case h => walk_at "sq"); intro p H' hp he hm)
  | ((with_reducible refine' o_lisT ?h ?q); (case h => walk_at "sq"); intro p H' hp he hm)
  | ((with_reducible refine' o_tupT ?h ?q); (case h => walk_at "sq"))
  | with_reducible refine k_dyn ?_
  | ((with_reducible refine' k_rdyn ?h ?i ?c ?q); (case h => walk_at "hp"); (case i => infer_instance); (case c => infer_instance))
  | with_reducible refine k_brk ?_
  | with_reducible refine k_cont ?_
  | with_reducible refine k_raise ?_
  | with_reducible refine k_retN ?_
  | walk_at "un"
  | walk_at "cs"
  | ((with_reducible refine' k_itdT ?h ?q); (case h => first | with_reducible assumption | omega | decide))
  | ((with_reducible refine' k_itdF ?h ?q); (case h => first | with_reducible assumption | omega | decide))
  | ((with_reducible refine' k_ifT ?h ?q); (case h => walk_at "bt"))
  | ((with_reducible refine' k_ifF ?h ?q); (case h => walk_at "bt")))
local macro_rules | `(tactic| walk_at "go") => `(tactic| repeat walk_at "st")
local macro_rules | `(tactic| walk_at "sp") => `(tactic| repeat' (first | walk_at "st" | refine k_itd (fun h => ?_) (fun h => ?_) | refine k_itb (fun h => ?_) (fun h => ?_)))
section
variable {K : PySem.W.Frag} [TxtK K] {w : World}
def rowL (K : PySem.W.Frag) [TxtK K] (w : World) (k : Nat) : List (Addr × Sp) := [(He.ga K ("Take" : Str), Gam K w k .Take_row), (He.ga K ("Set" : Str), Gam K w k .Set_row), (He.ga K ("Work" : Str), Gam K w k .Work_row), (He.ga K ("Print" : Str), Gam K w k .Print_row), (He.ga K ("Test" : Str), Gam K w k .Test_row), (He.ga K ("Loop" : Str), Gam K w k .Loop_row), (He.ga K ("Guard" : Str), Gam K w k .Guard_row), (He.ga K ("Call" : Str), Gam K w k .Call_row), (He.ga K ("Leave" : Str), Gam K w k .Leave_row)]
def BRow (K : PySem.W.Frag) [TxtK K] (w : World) (r : Row) : Prop := ∀ (k : Nat), 2 * r.dep ≤ k → ∀ (H : Hp) (Q : VK) (E : XK) (σ : L2.St) (v : V), StA K H r v → r.sz ≤ 40000 →
  (∀ a H', Ex H H' → RowA true H' r (.ref a) → Q (.ref a) H') → RDyn (rowL K w (k + 1)) ("row" : Str) [] E tNil σ v H Q
def BRows (K : PySem.W.Frag) [TxtK K] (w : World) (rs : List Row) : Prop := ∀ (k : Nat), 2 * deps rs + 2 ≤ k → ∀ (H : Hp) (Q : VK) (E : XK) (xs ys : List V) (p : Addr), xs = [.ref p] → H p = some (.tup ys) → StsA K H rs ys → szs rs ≤ 40000 →
  (∀ a zs H', Ex H H' → H' a = some (.tup zs) → RowsA true H' rs zs → Q (.ref a) H') → Gam K w k .rows_of xs H Q E
theorem rows_of_of {rs : List Row} (hs : ∀ r ∈ rs, BRow K w r) : BRows K w rs := by
  intro k hk H Q E xs ys p hv hp hr hsz q
  obtain ⟨k, rfl⟩ : ∃ m, k = m + 2 := ⟨k - 2, by omega⟩
  subst hv
  refine ⟨rfl, ?_⟩
  unfold rd_rows_of
  refine k_start ?_
  walk_at "go"
  refine k_lcI (j := 0) (.inr (sqT_of hp)) (fun D m H' => Ex H H' ∧ ∃ zs, H' D = some (.lst zs) ∧ RowsA true H' (rs.take m) zs) (fun D hD => ⟨Ex.new hD, [], upd_same, rfl⟩) (fun D m H' hD _ ⟨hx, _⟩ => ⟨hx.sqL, hx.sqT⟩) (fun D m x H' hD hm ⟨hx, zs, hz, hst⟩ => ?_) (fun D H' hD ⟨hx, zs, hz, hst⟩ => ?_)
  · obtain ⟨r, hrr, hra⟩ := hr.at hm
    have hmem := List.mem_of_getElem? hrr
    have hd := dep_at hrr
    have hs2 := sz_at hrr
    have htk : rs.take (m + 1) = rs.take m ++ [r] := by rw [List.take_succ, hrr]; rfl
    refine ⟨rfl, ?_⟩
    unfold tYes
    dsimp only [wipe, List.set]
    rw [if_pos rfl]
    walk_at "go"
    refine hs r hmem k (by omega) _ _ _ _ _ (StA.ex hx hra) (by omega) fun y H2 he2 hsy => ?_
    have hz2 := he2.at hz
    have hl := hst.len
    have hl2 := len_szs rs
    refine ⟨zs, hz2, szl_of (by rw [hl, List.length_take]; omega), (hx.trans he2).new' hD, zs ++ [.ref y], upd_same, ?_⟩
    rw [htk]
    exact (RowsA.kp (Keep.lset hz2) _ (RowsA.ex he2 _ hst)).snoc (RowA.kp (Keep.lset hz2) r hsy)
  · rw [hr.len, List.take_length] at hst
    walk_at "go"
    rename_i p2 H2 hp2 he2 hm2
    exact q p2 zs H2 (hx.trans he2) hm2 (RowsA.ex he2 _ hst)
theorem br_simple {r : Row} (hd : r.dep = 0) (hc : ∀ n a b, r ≠ .test n a b) (hc2 : ∀ n i b, r ≠ .loop n i b) (hc3 : ∀ a b, r ≠ .guard a b) (hc4 : ∀ b, r ≠ .call b) : BRow K w r := by
  intro k hk H Q E σ v hst hsz q
  cases r with
  | take n i =>
    obtain ⟨a, dx, x, rd, p, rfl, h1, h2, h3, h4⟩ := hst
    dsimp only [stepF, clsN, Row.wr, rds, List.map] at h1 h2 h3
    unfold rowL
    refine k_rdyn h1 inferInstance inferInstance ?_
    walk_at "go"
    dsimp only [List.nil_append]
    refine ⟨rfl, ?_⟩
    unfold rd_Take_row
    refine k_start ?_
    walk_at "go"
    rename_i y H' hn he hm
    exact q y H' he ⟨y, rfl, hm⟩
  | set n i =>
    obtain ⟨a, dx, x, rd, p, rfl, h1, h2, h3, h4⟩ := hst
    dsimp only [stepF, clsN, Row.wr, rds, List.map] at h1 h2 h3
    unfold rowL
    refine k_rdyn h1 inferInstance inferInstance ?_
    walk_at "go"
    dsimp only [List.nil_append]
    refine ⟨rfl, ?_⟩
    unfold rd_Set_row
    refine k_start ?_
    walk_at "go"
    rename_i y H' hn he hm
    exact q y H' he ⟨y, rfl, hm⟩
  | work n l r i =>
    obtain ⟨a, dx, x, rd, p, rfl, h1, h2, h3, h4⟩ := hst
    dsimp only [stepF, clsN, Row.wr, rds, List.map] at h1 h2 h3
    unfold rowL
    refine k_rdyn h1 inferInstance inferInstance ?_
    walk_at "go"
    dsimp only [List.nil_append]
    refine ⟨rfl, ?_⟩
    unfold rd_Work_row
    refine k_start ?_
    walk_at "go"
    rename_i y H' hn he hm
    exact q y H' he ⟨y, rfl, hm⟩
  | prn c n =>
    obtain ⟨a, dx, x, rd, p, rfl, h1, h2, h3, h4⟩ := hst
    dsimp only [stepF, clsN, Row.wr, rds, List.map] at h1 h2 h3
    unfold rowL
    refine k_rdyn h1 inferInstance inferInstance ?_
    walk_at "go"
    dsimp only [List.nil_append]
    refine ⟨rfl, ?_⟩
    unfold rd_Print_row
    refine k_start ?_
    walk_at "go"
    rename_i y H' hn he hm
    exact q y H' he ⟨y, rfl, hm⟩
  | leave =>
    obtain ⟨a, dx, x, rd, p, rfl, h1, h2, h3, h4⟩ := hst
    dsimp only [stepF, clsN, Row.wr, rds, List.map] at h1 h2 h3
    unfold rowL
    refine k_rdyn h1 inferInstance inferInstance ?_
    walk_at "go"
    dsimp only [List.nil_append]
    refine ⟨rfl, ?_⟩
    unfold rd_Leave_row
    refine k_start ?_
    walk_at "go"
    rename_i y H' hn he hm
    exact q y H' he ⟨y, rfl, hm⟩
  | test n a b => exact absurd rfl (hc n a b)
  | loop n i b => exact absurd rfl (hc2 n i b)
  | guard a b => exact absurd rfl (hc3 a b)
  | call b => exact absurd rfl (hc4 b)
theorem br_test {n : Str} {b c : List Row} (hs : BRows K w b) (hs' : BRows K w c) : BRow K w (.test n b c) := by
  intro k hk H Q E σ v hst hsz q
  simp only [Row.dep, Row.sz] at hk hsz
  obtain ⟨k, rfl⟩ : ∃ m, k = m + 2 := ⟨k - 2, by omega⟩
  obtain ⟨px, py, us, vs, ⟨a, dx, x, rd, p, rfl, h1, h2, h3, h4⟩, ⟨g1, g2⟩, g3, g4⟩ := hst
  dsimp only [stepF, clsN, Row.wr, rds, List.map] at h1 h2 h3
  unfold rowL
  refine k_rdyn h1 inferInstance inferInstance ?_
  walk_at "go"
  dsimp only [List.nil_append]
  refine ⟨rfl, ?_⟩
  unfold rd_Test_row
  refine k_start ?_
  walk_at "go"
  refine hs (k + 2) (by omega) _ _ _ _ us px rfl g1 g2 (by omega) fun y zs H1 he1 hm1 hr1 => ?_
  have h1 := he1.at h1
  have h4 := he1.at h4
  have h3 := he1.at h3
  walk_at "go"
  refine hs' (k + 2) (by omega) _ _ _ _ vs py rfl (he1.at g3) (g4.ex he1) (by omega) fun y2 zs2 H2 he2 hm2 hr2 => ?_
  walk_at "go"
  rename_i z H3 hn he hm
  exact q z H3 (he1.trans (he2.trans he)) ⟨z, y, y2, rfl, hm, ⟨zs, .inl (he.at (he2.at hm1)), RowsA.ex (he2.trans he) _ hr1⟩, zs2, .inl (he.at hm2), RowsA.ex he _ hr2⟩
theorem br_guard {b c : List Row} (hs : BRows K w b) (hs' : BRows K w c) : BRow K w (.guard b c) := by
  intro k hk H Q E σ v hst hsz q
  simp only [Row.dep, Row.sz] at hk hsz
  obtain ⟨k, rfl⟩ : ∃ m, k = m + 2 := ⟨k - 2, by omega⟩
  obtain ⟨px, py, us, vs, ⟨a, dx, x, rd, p, rfl, h1, h2, h3, h4⟩, ⟨g1, g2⟩, g3, g4⟩ := hst
  dsimp only [stepF, clsN, Row.wr, rds, List.map] at h1 h2 h3
  unfold rowL
  refine k_rdyn h1 inferInstance inferInstance ?_
  walk_at "go"
  dsimp only [List.nil_append]
  refine ⟨rfl, ?_⟩
  unfold rd_Guard_row
  refine k_start ?_
  walk_at "go"
  refine hs (k + 2) (by omega) _ _ _ _ us px rfl g1 g2 (by omega) fun y zs H1 he1 hm1 hr1 => ?_
  have h1 := he1.at h1
  have h4 := he1.at h4
  walk_at "go"
  refine hs' (k + 2) (by omega) _ _ _ _ vs py rfl (he1.at g3) (g4.ex he1) (by omega) fun y2 zs2 H2 he2 hm2 hr2 => ?_
  walk_at "go"
  rename_i z H3 hn he hm
  exact q z H3 (he1.trans (he2.trans he)) ⟨z, y, y2, rfl, hm, ⟨zs, .inl (he.at (he2.at hm1)), RowsA.ex (he2.trans he) _ hr1⟩, zs2, .inl (he.at hm2), RowsA.ex he _ hr2⟩
theorem br_loop {n : Str} {i : Int} {b : List Row} (hs : BRows K w b) : BRow K w (.loop n i b) := by
  intro k hk H Q E σ v hst hsz q
  simp only [Row.dep, Row.sz] at hk hsz
  obtain ⟨k, rfl⟩ : ∃ m, k = m + 2 := ⟨k - 2, by omega⟩
  obtain ⟨px, us, ⟨a, dx, x, rd, p, rfl, h1, h2, h3, h4⟩, g1, g2⟩ := hst
  dsimp only [stepF, clsN, Row.wr, rds, List.map] at h1 h2 h3
  unfold rowL
  refine k_rdyn h1 inferInstance inferInstance ?_
  walk_at "go"
  dsimp only [List.nil_append]
  refine ⟨rfl, ?_⟩
  unfold rd_Loop_row
  refine k_start ?_
  walk_at "go"
  refine hs (k + 2) (by omega) _ _ _ _ us px rfl g1 g2 (by omega) fun y zs H1 he1 hm1 hr1 => ?_
  walk_at "go"
  rename_i z H3 hn he hm
  exact q z H3 (he1.trans he) ⟨z, y, rfl, hm, zs, .inl (he.at hm1), RowsA.ex he _ hr1⟩
theorem br_call {b : List Row} (hs : BRows K w b) : BRow K w (.call b) := by
  intro k hk H Q E σ v hst hsz q
  simp only [Row.dep, Row.sz] at hk hsz
  obtain ⟨k, rfl⟩ : ∃ m, k = m + 2 := ⟨k - 2, by omega⟩
  obtain ⟨px, us, ⟨a, dx, x, rd, p, rfl, h1, h2, h3, h4⟩, g1, g2⟩ := hst
  dsimp only [stepF, clsN, Row.wr, rds, List.map] at h1 h2 h3
  unfold rowL
  refine k_rdyn h1 inferInstance inferInstance ?_
  walk_at "go"
  dsimp only [List.nil_append]
  refine ⟨rfl, ?_⟩
  unfold rd_Call_row
  refine k_start ?_
  walk_at "go"
  refine hs (k + 2) (by omega) _ _ _ _ us px rfl g1 g2 (by omega) fun y zs H1 he1 hm1 hr1 => ?_
  walk_at "go"
  rename_i z H3 hn he hm
  exact q z H3 (he1.trans he) ⟨z, y, rfl, hm, zs, .inl (he.at hm1), RowsA.ex he _ hr1⟩
mutual
theorem s_row : ∀ r : Row, BRow K w r
  | .take _ _ => br_simple rfl (by simp) (by simp) (by simp) (by simp)
  | .set _ _ => br_simple rfl (by simp) (by simp) (by simp) (by simp)
  | .work _ _ _ _ => br_simple rfl (by simp) (by simp) (by simp) (by simp)
  | .prn _ _ => br_simple rfl (by simp) (by simp) (by simp) (by simp)
  | .leave => br_simple rfl (by simp) (by simp) (by simp) (by simp)
  | .test _ a b => br_test (rows_of_of (all_br a)) (rows_of_of (all_br b))
  | .loop _ _ b => br_loop (rows_of_of (all_br b))
  | .guard a b => br_guard (rows_of_of (all_br a)) (rows_of_of (all_br b))
  | .call b => br_call (rows_of_of (all_br b))
theorem all_br : ∀ (rs : List Row), ∀ r ∈ rs, BRow K w r
  | [], r, h => by cases h
  | x :: rs, r, h => by
    have h1 := s_row x
    have h2 := all_br rs r
    rcases List.mem_cons.mp h with e | h
    · rw [e]; exact h1
    · exact h2 h
end
theorem s_rows_of (rs : List Row) : BRows K w rs := rows_of_of (all_br rs)
end
end L2.MP

set_option Elab.async false
set_option linter.all false
set_option maxRecDepth 100000
set_option maxHeartbeats 4000000
namespace L2.MP
open PySem PySem.Spec PyProof.Rows L2
/-! ### the stepping tactic -/
local macro_rules | `(tactic| walk_at "ne") => `(tactic| first
  | with_reducible assumption
  | ((with_reducible apply Ne.symm); with_reducible assumption)
  | ((with_reducible refine' ne_of_none ?a ?b); (case b => with_reducible assumption); (case a => walk_at "hp"))
  | ((with_reducible apply Ne.symm); (with_reducible refine' ne_of_none ?a ?b); (case b => with_reducible assumption); (case a => walk_at "hp"))
  | (refine' ne_of (by with_reducible assumption) (by with_reducible assumption) ?_; intro z; cases z))
local macro_rules | `(tactic| walk_at "hs") => `(tactic| first
  | with_reducible assumption
  | with_reducible exact upd_same
  | ((with_reducible apply up_new); (with_reducible assumption))
  | ((with_reducible apply Ex.at); (with_reducible assumption))
  | ((with_reducible apply up_ne); (walk_at "ne")))
local macro_rules | `(tactic| walk_at "hp") => `(tactic| ((repeat walk_at "hs"); done))
local macro_rules | `(tactic| walk_at "ss") => `(tactic| first
  | with_reducible assumption
  | ((with_reducible apply sqL_of); first | with_reducible assumption | with_reducible exact upd_same)
  | ((with_reducible apply sqT_of); first | with_reducible assumption | with_reducible exact upd_same)
  | ((with_reducible apply up_sqL); (with_reducible assumption))
  | ((with_reducible apply up_sqT); (with_reducible assumption))
  | ((with_reducible apply Ex.sqL); (with_reducible assumption))
  | ((with_reducible apply Ex.sqT); (with_reducible assumption))
  | ((with_reducible apply sqL_ne); (walk_at "ne"))
  | ((with_reducible apply sqT_ne); (walk_at "ne")))
local macro_rules | `(tactic| walk_at "sq") => `(tactic| ((repeat walk_at "ss"); done))
local macro_rules | `(tactic| walk_at "fl") => `(tactic| first
  | exact rfl
  | decide +kernel
  | (simp [flatOk, flat1]; done)
  | ((simp [flatOk, flat1]); decide +kernel))
local macro_rules | `(tactic| walk_at "ib") => `(tactic| first
  | omega
  | (refine Int.emod_nonneg _ ?_; omega)
  | (refine Int.emod_lt_of_pos _ ?_; omega))
local macro_rules | `(tactic| walk_at "ex") => `(tactic| first
  | with_reducible exact Ex.refl _
  | with_reducible assumption
  | ((with_reducible refine' Ex.trans ?a ?b); (case b => with_reducible assumption); (case a => walk_at "ex"))
  | ((with_reducible refine' Ex.new' ?a ?b); (case b => walk_at "nn"); (case a => walk_at "ex")))
local macro_rules | `(tactic| walk_at "nn") => `(tactic| first
  | with_reducible assumption
  | ((with_reducible refine' Ex.none ?a ?b); (case b => with_reducible assumption); (case a => walk_at "ex")))
local macro_rules | `(tactic| walk_at "bt") => `(tactic| first
  | exact rfl
  | (simp only [Bool.not_true, Bool.not_false, Bool.true_or, Bool.false_or, Bool.true_and, Bool.false_and, Bool.or_true, Bool.or_false, Bool.and_true, Bool.and_false, Bool.not_eq_true', Bool.not_eq_false', Bool.or_eq_true, Bool.or_eq_false_iff, Bool.and_eq_true, Bool.and_eq_false_iff, decide_eq_true_eq, decide_eq_false_iff_not] <;> omega)
  | (simp; done)
  | (simp; omega))
local macro_rules | `(tactic| walk_at "len") => `(tactic| first
  | exact Nat.le_of_ble_eq_true rfl
  | (simp only [List.length_cons, List.length_nil, List.length_append, List.length_map]; omega)
  | omega)
local macro_rules | `(tactic| walk_at "un") => `(tactic| fail)
local macro_rules | `(tactic| walk_at "cs") => `(tactic| fail)
local macro_rules | `(tactic| walk_at "st") => `(tactic| first
  | with_reducible refine k_var ?_
  | with_reducible refine k_asgS ?_
  | with_reducible refine k_c ?_
  | with_reducible refine k_op ?_
  | with_reducible refine k_cons ?_
  | with_reducible refine k_nil ?_
  | with_reducible refine k_seq ?_
  | with_reducible refine k_asg ?_
  | with_reducible refine k_cb ?_
  | with_reducible refine k_fld ?_
  | ((with_reducible refine' k_rfld ?h ?i ?j ?q); (case h => walk_at "hp"); (case i => infer_instance); (case j => infer_instance))
  | with_reducible refine k_if ?_
  | with_reducible refine k_test ?_
  | with_reducible refine k_bl ?_
  | with_reducible refine k_tB ?_
  | with_reducible refine k_itT ?_
  | with_reducible refine k_itF ?_
  | with_reducible refine k_next ?_
  | with_reducible refine k_ret ?_
  | with_reducible refine k_call ?_
  | with_reducible refine k_tup ?_
  | ((with_reducible refine' k_newTA ?h ?q); (case h => walk_at "len"); intro p H' hp he hm)
  | with_reducible refine k_lst ?_
  | ((with_reducible refine' k_newLA ?h ?q); (case h => walk_at "len"); intro p H' hp he hm)
  | with_reducible refine k_and ?_
  | with_reducible refine k_or ?_
  | with_reducible refine k_not ?_
  | with_reducible refine k_inot ?_
  | with_reducible refine o_eqI ?_
  | with_reducible refine o_eqB ?_
  | with_reducible refine o_eqS ?_
  | with_reducible refine o_neI ?_
  | with_reducible refine o_neB ?_
  | with_reducible refine o_neS ?_
  | with_reducible refine o_lt ?_
  | with_reducible refine o_le ?_
  | with_reducible refine o_gt ?_
  | with_reducible refine o_ge ?_
  | with_reducible refine o_addI ?_
  | ((with_reducible refine' o_addLA ?h1 ?h2 ?h ?q); (case h1 => walk_at "hp"); (case h2 => walk_at "hp"); (case h => walk_at "len"); intro p H' hp he hm; dsimp only [List.cons_append, List.nil_append] at hm)
  | with_reducible refine o_subI ?_
  | ((with_reducible refine' o_mod ?h ?q); (case h => first | decide | omega))
  | ((with_reducible refine' o_fdiv ?h ?q); (case h => first | exact ⟨by first | decide | omega, by first | decide | omega⟩ | exact ⟨by split <;> decide, by split <;> decide⟩))
  | ((with_reducible refine' o_mulI ?h ?q); (case h => first | exact .inl ⟨by first | decide | omega, by first | decide | omega⟩ | exact .inr ⟨by first | decide | omega, by first | decide | omega⟩))
  | ((with_reducible refine' o_ixTn ?h ?h0 ?e ?q); (case h => walk_at "sq"); (case h0 => decide); (case e => exact rfl))
  | ((with_reducible refine' o_ixLn ?h ?h0 ?e ?q); (case h => walk_at "sq"); (case h0 => decide); (case e => exact rfl))
  | ((with_reducible refine' o_ixD ?h ?h0 ?h1 ?q); (case h => walk_at "sq"); (case h0 => walk_at "ib"); (case h1 => walk_at "ib"))
  | ((with_reducible refine' o_ixSv ?h ?h0 ?h1 ?q); (case h => walk_at "sq"); (case h0 => walk_at "ib"); (case h1 => walk_at "ib"))
  | ((with_reducible refine' o_ix2S ?h ?q); (case h => walk_at "sq"))
  | ((with_reducible refine' o_ix2PT ?h ?hp ?q); (case h => walk_at "sq"); (case hp => omega))
  | ((with_reducible refine' o_ix2PL ?h ?hp ?q); (case h => walk_at "sq"); (case hp => omega))
  | ((with_reducible refine' o_inTI ?h ?c ?q); (case h => walk_at "sq"); (case c => infer_instance))
  | ((with_reducible refine' o_inLI ?h ?c ?q); (case h => walk_at "sq"); (case c => infer_instance))
  | ((with_reducible refine' o_ix2I ?h ?q); (case h => walk_at "sq"))
  | ((with_reducible refine' o_lenLS ?h ?q); (case h => walk_at "sq"))
  | ((with_reducible refine' o_lenLI ?h ?q); (case h => walk_at "sq"))
  | ((with_reducible refine' o_lenL ?h ?q); (case h => walk_at "sq"))
  | ((with_reducible refine' o_lenT ?h ?q); (case h => walk_at "sq"))
  | with_reducible refine' i_plain ?_
  | with_reducible refine' i_plainC ?_
  | ((with_reducible refine' i_insC ?h ?i ?c ?q); (case h => walk_at "hp"); (case i => infer_instance); (case c => infer_instance))
  | ((with_reducible refine' i_lst ?h ?c ?q); (case h => walk_at "hp"); (case c => infer_instance))
  | ((with_reducible refine' i_tup ?h ?c ?q); (case h => walk_at "hp"); (case c => infer_instance))
  | with_reducible refine k_prop ?_
  | ((with_reducible refine' k_rprop ?h ?q); (case h => walk_at "hp"))
  | with_reducible refine k_make ?_
  | with_reducible refine k_makeKS ?_
  | ((with_reducible refine' k_rmkK ?hl ?hg ?q); (case hl => exact rfl); (case hg => exact fun _ => rfl))
  | with_reducible refine k_meth ?_
  | ((with_reducible refine' k_rmeth ?h ?i ?q); (case h => walk_at "hp"); (case i => infer_instance))
  | with_reducible refine k_andV ?_
  | with_reducible refine k_orV ?_
  | with_reducible refine k_notV ?_
  | with_reducible refine k_rand ?_
  | with_reducible refine k_rnot ?_
  | with_reducible refine k_un ?_
  | with_reducible refine k_ifE ?_
  | with_reducible refine k_randT ?_
  | with_reducible refine k_randF ?_
  | with_reducible refine k_rorT ?_
  | with_reducible refine k_rorF ?_
  | with_reducible refine k_randtT ?_
  | with_reducible refine k_randtF ?_
  | with_reducible refine k_rortT ?_
  | with_reducible refine k_rortF ?_
  | ((with_reducible refine' k_randP ?h2 ?q); (case h2 => intro _ hq; (walk_at "go"); with_reducible exact hq))
  | ((with_reducible refine' k_rorP ?h2 ?q); (case h2 => intro _ hq; (walk_at "go"); with_reducible exact hq))
  | with_reducible refine k_randS ?_
  | with_reducible refine k_rorS ?_
  | ((with_reducible refine' k_rifI ?h1 ?h2 ?q); (case h1 => intro _ hq; (walk_at "go"); with_reducible exact hq); (case h2 => intro _ hq; (walk_at "go"); with_reducible exact hq))
  | with_reducible refine k_rifS ?_
  | ((with_reducible refine' k_randtP ?h2 ?q); (case h2 => intro _ hq; (walk_at "go"); with_reducible exact hq))
  | ((with_reducible refine' k_rortP ?h2 ?q); (case h2 => intro _ hq; (walk_at "go"); with_reducible exact hq))
  | with_reducible refine k_randtS ?_
  | with_reducible refine k_rortS ?_
  | ((with_reducible refine' k_own ?h ?i ?q); (case h => walk_at "hp"); (case i => walk_at "hp"))
  | ((with_reducible refine' k_ownI ?h ?q); (case h => walk_at "hp"))
  | ((with_reducible refine' k_ownA ?h ?q); (case h => walk_at "hp"))
  | with_reducible refine k_aug ?_
  | with_reducible refine o_addIp ?_
  | with_reducible refine k_drop ?_
  | with_reducible refine k_fldp ?_
  | ((with_reducible refine' k_rputU ?i ?j ?q); (case i => infer_instance); (case j => infer_instance))
  | ((with_reducible refine' k_rput ?h ?i ?j ?q); (case h => walk_at "hp"); (case i => infer_instance); (case j => infer_instance))
  | ((with_reducible refine' k_dispA ?h ?q); (case h => exact Nat.le_of_ble_eq_true rfl); intro p H' hp he hm)
  | with_reducible refine k_newK ?_
  | ((with_reducible refine' k_newDA ?q); intro p H' hp he hm)
  | with_reducible refine k_dget ?_
  | with_reducible refine k_dget2 ?_
  | ((with_reducible refine' k_rdgetC ?h ?e ?q); (case h => walk_at "hp"); (case e => infer_instance))
  | ((with_reducible refine' k_rdg2 ?h ?q); (case h => walk_at "hp"))
  | ((with_reducible refine' k_rdo ?h ?q); (case h => walk_at "hp"))
  | with_reducible refine k_dput ?_
  | ((with_reducible refine' k_rdputU ?hl ?e ?q); (case hl => exact Nat.le_of_ble_eq_true rfl); (case e => infer_instance))
  | ((with_reducible refine' k_rdputC ?h ?hl ?e ?q); (case h => walk_at "hp"); (case hl => exact Nat.le_of_ble_eq_true rfl); (case e => infer_instance))
  | with_reducible refine k_m1 ?_
  | with_reducible refine k_rm1 ?_
  | with_reducible refine k_bm ?_
  | ((with_reducible refine' k_rbmL ?h ?q); (case h => walk_at "sq"))
  | ((with_reducible refine' o_appendU ?hl ?q); (case hl => walk_at "len"))
  | ((with_reducible refine' o_append ?h ?hl ?q); (case h => walk_at "hp"); (case hl => walk_at "len"))
  | with_reducible refine k_ownIx ?_
  | ((with_reducible refine' k_rownIx ?h ?q); (case h => walk_at "hp"))
  | with_reducible refine k_ownPut ?_
  | ((with_reducible refine' k_rownPut ?h ?q); (case h => walk_at "hp"))
  | ((with_reducible refine' o_inT ?h ?q); (case h => walk_at "sq"))
  | ((with_reducible refine' o_ninT ?h ?q); (case h => walk_at "sq"))
  | ((with_reducible refine' o_inL ?h ?q); (case h => walk_at "sq"))
  | ((with_reducible refine' o_ninL ?h ?q); (case h => walk_at "sq"))
  | with_reducible refine o_pow18 ?_
  | with_reducible refine o_pow9 ?_
  | with_reducible refine o_pow30 ?_
  | with_reducible refine o_isB ?_
  | with_reducible refine o_neg ?_
  | with_reducible refine o_isN ?_
  | with_reducible refine o_notN ?_
  | with_reducible refine o_max ?_
  | with_reducible refine o_min ?_
  | with_reducible refine o_intI ?_
  | with_reducible refine o_intB ?_
  | with_reducible refine o_abs ?_
  | with_reducible refine k_forR1 ?_
  | with_reducible refine k_forR2 ?_
  | with_reducible refine k_forL ?_
  | with_reducible refine k_forT ?_
  | ((with_reducible refine' k_turnR ?e ?q); (case e => exact rfl))
  | with_reducible refine k_doneR ?_
  | ((with_reducible refine' k_turnL ?h ?q); (case h => walk_at "sq"))
  | ((with_reducible refine' k_doneL ?h ?q); (case h => walk_at "sq"))
  | ((with_reducible refine' k_turnT ?h ?q); (case h => walk_at "sq"))
  | ((with_reducible refine' k_doneT ?h ?q); (case h => walk_at "sq"))
  | with_reducible refine k_forA ?_
  | with_reducible refine k_lcA ?_
  | ((with_reducible refine' o_tupL ?h ?q); (case h => walk_at "sq"); intro p H' hp he hm)
  | ((with_reducible refine' o_lisL ?h ?q); (case h => walk_at "sq"); intro p H' hp he hm)
  | ((with_reducible refine' o_lisT ?h ?q); (case h => walk_at "sq"); intro p H' hp he hm)
  | ((with_reducible refine' o_tupT ?h ?q); (case h => walk_at "sq"))
  | with_reducible refine k_dyn ?_
  | ((with_reducible refine' k_rdyn ?h ?i ?c ?q); (case h => walk_at "hp"); (case i => infer_instance); (case c => infer_instance))
  | with_reducible refine k_brk ?_
  | with_reducible refine k_cont ?_
  | with_reducible refine k_raise ?_
  | with_reducible refine k_retN ?_
  | walk_at "un"
  | walk_at "cs"
  | ((with_reducible refine' k_itdT ?h ?q); (case h => first | with_reducible assumption | omega | decide))
  | ((with_reducible refine' k_itdF ?h ?q); (case h => first | with_reducible assumption | omega | decide))
  | ((with_reducible refine' k_ifT ?h ?q); (case h => walk_at "bt"))
  | ((with_reducible refine' k_ifF ?h ?q); (case h => walk_at "bt")))
local macro_rules | `(tactic| walk_at "go") => `(tactic| repeat walk_at "st")
local macro_rules | `(tactic| walk_at "sp") => `(tactic| repeat' (first | walk_at "st" | refine k_itd (fun h => ?_) (fun h => ?_) | refine k_itb (fun h => ?_) (fun h => ?_)))
class SLit (xs : List V) (l : outParam (List Str)) : Prop where
  eq : xs = l.map V.str
instance : SLit [] [] := ⟨rfl⟩
instance {s : Str} {xs : List V} {l : List Str} [c : SLit xs l] : SLit (V.str s :: xs) (s :: l) := ⟨by rw [c.eq]; rfl⟩
theorem o_inTS {K : PySem.W.Frag} {H : Hp} {Q : VK} {a : Addr} {xs : List V} {l : List Str} {s : Str} (h : SqT K H a xs) (c : SLit xs l) (q : Q (.bl (decide (s ∈ l))) H) : rInA K false (.str s) (.ref a) H Q := o_inT (by rw [← c.eq]; exact h) q
local macro_rules | `(tactic| walk_at "cs") => `(tactic| ((with_reducible refine' o_inTS ?h ?c ?q); (case h => walk_at "sq"); (case c => infer_instance)))
/-- a list or a tuple that stood before -/
theorem k_raJ {K : PySem.W.Frag} {H0 H : Hp} {a : Addr} {xs : List V} {i : Nat} {tb : TS} {n : L2.St → Hp → Prop} {r : VK} {b c : L2.St → Hp → Prop} {σ : L2.St} (h : SqL K H0 a xs ∨ SqT K H0 a xs) (P : Nat → L2.St → Hp → Prop) (h0 : P 0 σ H) (hl : ∀ (m : Nat) σ H', m ≤ xs.length → P m σ H' → Ex H0 H')
    (ht : ∀ (m : Nat) x σ H, xs[m]? = some x → P m σ H → tb ⟨P (m + 1), r, n, P (m + 1)⟩ (σ.set i (some x)) H) (hd : ∀ σ H, P xs.length σ H → n σ H) : RA K i tb ⟨n, r, b, c⟩ σ (.ref a) H := by
  have hx := hl 0 _ _ (Nat.zero_le _) h0
  rcases h with h | h
  · exact k_raL (k_rlI (hx.sqL h) P h0 (fun m σ H' hm q => (hl m σ H' hm q).sqL h) ht hd)
  · exact k_raT (k_rtI (hx.sqT h) P h0 (fun m σ H' hm q => (hl m σ H' hm q).sqT h) ht hd)
/-! ### a row by its parts -/
section
inductive Itm where
  | s (v : V)
  | b (rs : List Row)
def Row.items : Row → List Itm
  | .take n i => [.s (.str ("take" : Str)), .s (.str n), .s (.int i)]
  | .set n i => [.s (.str ("set" : Str)), .s (.str n), .s (.int i)]
  | .work n l r i => [.s (.str ("work" : Str)), .s (.str n), .s (.str l), .s (.str r), .s (.int i)]
  | .prn c n => [.s (.str ("print" : Str)), .s (.int c), .s (.str n)]
  | .test n a b => [.s (.str ("test" : Str)), .s (.str n), .b a, .b b]
  | .loop n i a => [.s (.str ("loop" : Str)), .s (.str n), .s (.int i), .b a]
  | .guard a b => [.s (.str ("guard" : Str)), .b a, .b b]
  | .call a => [.s (.str ("call" : Str)), .b a]
  | .leave => [.s (.str ("leave" : Str))]
def ItA (t : Bool) (H : Hp) : Itm → V → Prop
  | .s v, x => x = v ∧ ((∃ s, v = .str s) ∨ ∃ n, v = .int n)
  | .b rs, x => ∃ p, x = .ref p ∧ BodA t H rs p
def ItsA (t : Bool) (H : Hp) : List Itm → List V → Prop
  | [], xs => xs = []
  | i :: is, xs => ∃ x ys, xs = x :: ys ∧ ItA t H i x ∧ ItsA t H is ys
theorem ItsA.len {t : Bool} {H : Hp} : ∀ {is : List Itm} {xs : List V}, ItsA t H is xs → xs.length = is.length
  | [], xs, h => by rw [show xs = [] from h]; rfl
  | r :: rs, xs, ⟨x, ys, e1, _, h2⟩ => by rw [e1, List.length_cons, List.length_cons, ItsA.len h2]
theorem ItsA.at {t : Bool} {H : Hp} : ∀ {is : List Itm} {xs : List V} {i : Nat} {x : V}, ItsA t H is xs → xs[i]? = some x → ∃ r, is[i]? = some r ∧ ItA t H r x
  | [], xs, i, x, h, e => by rw [show xs = [] from h] at e; simp at e
  | r :: rs, xs, 0, x, ⟨y, ys, e1, h1, _⟩, e => by rw [e1] at e; simp at e; subst e; exact ⟨r, rfl, h1⟩
  | r :: rs, xs, i + 1, x, ⟨y, ys, e1, _, h2⟩, e => by
    rw [e1] at e
    obtain ⟨r', q1, q2⟩ := ItsA.at (i := i) h2 (by simpa using e)
    exact ⟨r', by simpa using q1, q2⟩
theorem ItsA.at2 {t : Bool} {H : Hp} : ∀ {is : List Itm} {xs : List V} {i : Nat} {r : Itm}, ItsA t H is xs → is[i]? = some r → ∃ x, xs[i]? = some x ∧ ItA t H r x
  | [], xs, i, x, h, e => by simp at e
  | r :: rs, xs, 0, x, ⟨y, ys, e1, h1, _⟩, e => by rw [e1]; simp at e; subst e; exact ⟨y, rfl, h1⟩
  | r :: rs, xs, i + 1, x, ⟨y, ys, e1, _, h2⟩, e => by
    rw [e1]
    obtain ⟨r', q1, q2⟩ := ItsA.at2 (i := i) h2 (by simpa using e)
    exact ⟨r', by simpa using q1, q2⟩
theorem ItsA.snoc {t : Bool} {H : Hp} : ∀ {is : List Itm} {xs : List V} {r : Itm} {x : V}, ItsA t H is xs → ItA t H r x → ItsA t H (is ++ [r]) (xs ++ [x])
  | [], xs, r, x, h, h1 => by rw [show xs = [] from h]; exact ⟨x, [], rfl, h1, rfl⟩
  | r' :: rs, xs, r, x, ⟨y, ys, e1, h2, h3⟩, h1 => ⟨y, ys ++ [x], by rw [e1]; rfl, h2, ItsA.snoc h3 h1⟩
theorem ItA.kp {t : Bool} {H H' : Hp} (e : Keep t H H') {i : Itm} {x : V} (h : ItA t H i x) : ItA t H' i x := by
  cases i with
  | s v => exact h
  | b rs => obtain ⟨p, e1, xs, h1, h2⟩ := h; exact ⟨p, e1, xs, h1.kp e, RowsA.kp e rs h2⟩
theorem ItsA.kp {t : Bool} {H H' : Hp} (e : Keep t H H') : ∀ {is : List Itm} {xs : List V}, ItsA t H is xs → ItsA t H' is xs
  | [], xs, h => h
  | i :: is, xs, ⟨x, ys, e1, h1, h2⟩ => ⟨x, ys, e1, h1.kp e, ItsA.kp e h2⟩
theorem ItA.ex {t : Bool} {H H' : Hp} (e : Ex H H') {i : Itm} {x : V} (h : ItA t H i x) : ItA t H' i x := h.kp (.of e)
theorem ItsA.ex {t : Bool} {H H' : Hp} (e : Ex H H') {is : List Itm} {xs : List V} (h : ItsA t H is xs) : ItsA t H' is xs := h.kp (.of e)
theorem RowA.its {t : Bool} {H : Hp} : ∀ {r : Row} {v : V}, RowA t H r v → ∃ a vs, v = .ref a ∧ H a = some (.tup vs) ∧ ItsA t H r.items vs
  | .take n i, v, ⟨a, e, h⟩ => ⟨a, _, e, h, _, _, rfl, ⟨rfl, .inl ⟨_, rfl⟩⟩, _, _, rfl, ⟨rfl, .inl ⟨_, rfl⟩⟩, _, _, rfl, ⟨rfl, .inr ⟨_, rfl⟩⟩, rfl⟩
  | .set n i, v, ⟨a, e, h⟩ => ⟨a, _, e, h, _, _, rfl, ⟨rfl, .inl ⟨_, rfl⟩⟩, _, _, rfl, ⟨rfl, .inl ⟨_, rfl⟩⟩, _, _, rfl, ⟨rfl, .inr ⟨_, rfl⟩⟩, rfl⟩
  | .work n l r i, v, ⟨a, e, h⟩ => ⟨a, _, e, h, _, _, rfl, ⟨rfl, .inl ⟨_, rfl⟩⟩, _, _, rfl, ⟨rfl, .inl ⟨_, rfl⟩⟩, _, _, rfl, ⟨rfl, .inl ⟨_, rfl⟩⟩, _, _, rfl, ⟨rfl, .inl ⟨_, rfl⟩⟩, _, _, rfl, ⟨rfl, .inr ⟨_, rfl⟩⟩, rfl⟩
  | .prn c n, v, ⟨a, e, h⟩ => ⟨a, _, e, h, _, _, rfl, ⟨rfl, .inl ⟨_, rfl⟩⟩, _, _, rfl, ⟨rfl, .inr ⟨_, rfl⟩⟩, _, _, rfl, ⟨rfl, .inl ⟨_, rfl⟩⟩, rfl⟩
  | .test n x y, v, ⟨a, p, q, e, h, h1, h2⟩ => ⟨a, _, e, h, _, _, rfl, ⟨rfl, .inl ⟨_, rfl⟩⟩, _, _, rfl, ⟨rfl, .inl ⟨_, rfl⟩⟩, _, _, rfl, ⟨p, rfl, h1⟩, _, _, rfl, ⟨q, rfl, h2⟩, rfl⟩
  | .loop n i x, v, ⟨a, p, e, h, h1⟩ => ⟨a, _, e, h, _, _, rfl, ⟨rfl, .inl ⟨_, rfl⟩⟩, _, _, rfl, ⟨rfl, .inl ⟨_, rfl⟩⟩, _, _, rfl, ⟨rfl, .inr ⟨_, rfl⟩⟩, _, _, rfl, ⟨p, rfl, h1⟩, rfl⟩
  | .guard x y, v, ⟨a, p, q, e, h, h1, h2⟩ => ⟨a, _, e, h, _, _, rfl, ⟨rfl, .inl ⟨_, rfl⟩⟩, _, _, rfl, ⟨p, rfl, h1⟩, _, _, rfl, ⟨q, rfl, h2⟩, rfl⟩
  | .call x, v, ⟨a, p, e, h, h1⟩ => ⟨a, _, e, h, _, _, rfl, ⟨rfl, .inl ⟨_, rfl⟩⟩, _, _, rfl, ⟨p, rfl, h1⟩, rfl⟩
  | .leave, v, ⟨a, e, h⟩ => ⟨a, _, e, h, _, _, rfl, ⟨rfl, .inl ⟨_, rfl⟩⟩, rfl⟩
theorem RowA.ofIts {t : Bool} {H : Hp} {a : Addr} {r : Row} {vs : List V} (h : H a = some (.tup vs)) (hi : ItsA t H r.items vs) : RowA t H r (.ref a) := by
  cases r with
  | take n i => obtain ⟨_, _, rfl, ⟨rfl, _⟩, _, _, rfl, ⟨rfl, _⟩, _, _, rfl, ⟨rfl, _⟩, rfl⟩ := hi; exact ⟨a, rfl, h⟩
  | set n i => obtain ⟨_, _, rfl, ⟨rfl, _⟩, _, _, rfl, ⟨rfl, _⟩, _, _, rfl, ⟨rfl, _⟩, rfl⟩ := hi; exact ⟨a, rfl, h⟩
  | work n l r i => obtain ⟨_, _, rfl, ⟨rfl, _⟩, _, _, rfl, ⟨rfl, _⟩, _, _, rfl, ⟨rfl, _⟩, _, _, rfl, ⟨rfl, _⟩, _, _, rfl, ⟨rfl, _⟩, rfl⟩ := hi; exact ⟨a, rfl, h⟩
  | prn c n => obtain ⟨_, _, rfl, ⟨rfl, _⟩, _, _, rfl, ⟨rfl, _⟩, _, _, rfl, ⟨rfl, _⟩, rfl⟩ := hi; exact ⟨a, rfl, h⟩
  | test n x y => obtain ⟨_, _, rfl, ⟨rfl, _⟩, _, _, rfl, ⟨rfl, _⟩, _, _, rfl, ⟨p, rfl, h1⟩, _, _, rfl, ⟨q, rfl, h2⟩, rfl⟩ := hi; exact ⟨a, p, q, rfl, h, h1, h2⟩
  | loop n i x => obtain ⟨_, _, rfl, ⟨rfl, _⟩, _, _, rfl, ⟨rfl, _⟩, _, _, rfl, ⟨rfl, _⟩, _, _, rfl, ⟨p, rfl, h1⟩, rfl⟩ := hi; exact ⟨a, p, rfl, h, h1⟩
  | guard x y => obtain ⟨_, _, rfl, ⟨rfl, _⟩, _, _, rfl, ⟨p, rfl, h1⟩, _, _, rfl, ⟨q, rfl, h2⟩, rfl⟩ := hi; exact ⟨a, p, q, rfl, h, h1, h2⟩
  | call x => obtain ⟨_, _, rfl, ⟨rfl, _⟩, _, _, rfl, ⟨p, rfl, h1⟩, rfl⟩ := hi; exact ⟨a, p, rfl, h, h1⟩
  | leave => obtain ⟨_, _, rfl, ⟨rfl, _⟩, rfl⟩ := hi; exact ⟨a, rfl, h⟩
theorem items_len (r : Row) : 1 ≤ r.items.length ∧ r.items.length ≤ 5 := by cases r <;> simp [Row.items]
/-- the bodies of a row -/
theorem items_b {r : Row} {rs : List Row} (h : Itm.b rs ∈ r.items) : deps rs < r.dep ∧ szs rs < r.sz ∧ sizeOf rs < sizeOf r := by
  cases r <;> simp [Row.items] at h <;> (try rcases h with rfl | rfl) <;> (try subst h) <;> simp only [Row.dep, Row.sz] <;> refine ⟨by omega, by omega, ?_⟩ <;> simp <;> omega
theorem items_bAt {r : Row} {rs : List Row} {i : Nat} (h : r.items[i]? = some (Itm.b rs)) : deps rs < r.dep ∧ szs rs < r.sz ∧ sizeOf rs < sizeOf r := items_b (List.mem_of_getElem? h)
theorem sizeOf_at : ∀ {rs : List Row} {i : Nat} {r : Row}, rs[i]? = some r → sizeOf r < sizeOf rs
  | [], i, r, h => by simp at h
  | r' :: rs, 0, r, h => by simp at h; subst h; simp; omega
  | r' :: rs, i + 1, r, h => by have := sizeOf_at (rs := rs) (i := i) (by simpa using h); simp; omega
/-! ### the names that a text writes -/
def Row.own : Row → List Str
  | .take n _ => [n] | .set n _ => [n] | .work n _ _ _ => [n] | _ => []
mutual
def Row.wrn : Row → List Str
  | .take n _ => [n]
  | .set n _ => [n]
  | .work n _ _ _ => [n]
  | .prn _ _ => []
  | .test _ a b => wrns a ++ wrns b
  | .loop _ _ b => wrns b
  | .guard b h => wrns b ++ wrns h
  | .call b => wrns b
  | .leave => []
def wrns : List Row → List Str
  | [] => []
  | r :: rs => r.wrn ++ wrns rs
end
def onc (acc l : List Str) : List Str := l.foldl (fun acc n => if n ∈ acc then acc else acc ++ [n]) acc
theorem onc_app (acc a b : List Str) : onc acc (a ++ b) = onc (onc acc a) b := List.foldl_append
theorem adds_onc (acc : List Str) : ∀ (l b : List Str), adds acc (onc b l) = onc (adds acc b) l
  | [], b => rfl
  | x :: l, b => by
    show adds acc (onc (if x ∈ b then b else b ++ [x]) l) = onc (if x ∈ adds acc b then adds acc b else adds acc b ++ [x]) l
    rw [adds_onc acc l]
    congr 1
    have hm : x ∈ adds acc b ↔ x ∈ acc ∨ x ∈ b := by
      unfold adds
      simp only [List.mem_append, List.mem_filter, Bool.not_eq_true', decide_eq_false_iff_not]
      constructor
      · rintro (h | h)
        · exact .inl h
        · exact .inr h.1
      · rintro (h | h)
        · exact .inl h
        · by_cases z : x ∈ acc
          · exact .inl z
          · exact .inr ⟨h, z⟩
    by_cases h : x ∈ b
    · rw [if_pos h, if_pos (hm.mpr (.inr h))]
    · rw [if_neg h]
      by_cases z : x ∈ acc
      · rw [if_pos (hm.mpr (.inl z))]
        unfold adds
        rw [List.filter_append]; simp [z]
      · rw [if_neg (fun q => (hm.mp q).elim z h)]
        unfold adds
        rw [List.filter_append]; simp [z]
theorem adds_nil (acc : List Str) : adds acc [] = acc := by simp [adds]
mutual
theorem wr_onc : ∀ r : Row, r.wr = onc [] r.wrn
  | .take n _ => rfl
  | .set n _ => rfl
  | .work n _ _ _ => rfl
  | .prn _ _ => rfl
  | .leave => rfl
  | .test _ a b => by simp only [Row.wr, Row.wrn]; rw [wrs_onc a [], wrs_onc b, onc_app]
  | .loop _ _ b => by simp only [Row.wr, Row.wrn]; exact wrs_onc b []
  | .guard a b => by simp only [Row.wr, Row.wrn]; rw [wrs_onc a [], wrs_onc b, onc_app]
  | .call b => by simp only [Row.wr, Row.wrn]; exact wrs_onc b []
theorem wrs_onc : ∀ (rs : List Row) (acc : List Str), wrs acc rs = onc acc (wrns rs)
  | [], acc => rfl
  | r :: rs, acc => by
    simp only [wrs, wrns]
    rw [wrs_onc rs, wr_onc r, adds_onc, adds_nil, onc_app]
end
mutual
theorem wrn_len : ∀ r : Row, r.wrn.length ≤ r.sz
  | .take _ _ | .set _ _ | .work _ _ _ _ | .prn _ _ | .leave => by simp [Row.wrn, Row.sz]
  | .test n a b => by
    have h1 := wrns_len a
    have h2 := wrns_len b
    simp only [Row.wrn, Row.sz, List.length_append] at *; omega
  | .loop n k b => by
    have h1 := wrns_len b
    simp only [Row.wrn, Row.sz] at *; omega
  | .guard a b => by
    have h1 := wrns_len a
    have h2 := wrns_len b
    simp only [Row.wrn, Row.sz, List.length_append] at *; omega
  | .call b => by
    have h1 := wrns_len b
    simp only [Row.wrn, Row.sz] at *; omega
theorem wrns_len : ∀ (rs : List Row), (wrns rs).length ≤ szs rs
  | [] => by simp [wrns, szs]
  | r :: rs => by
    have h1 := wrns_len rs
    have h3 := wrn_len r
    simp only [wrns, szs, List.length_append]; omega
end
theorem wrns_app : ∀ (a b : List Row), wrns (a ++ b) = wrns a ++ wrns b
  | [], b => rfl
  | r :: a, b => by simp only [List.cons_append, wrns]; rw [wrns_app a b, List.append_assoc]
/-- what the parts of a row write -/
def Itm.wrn : Itm → List Str
  | .s _ => []
  | .b rs => wrns rs
theorem wrn_items (r : Row) : r.wrn = r.own ++ r.items.flatMap Itm.wrn := by
  cases r <;> simp [Row.wrn, Row.own, Row.items, Itm.wrn]
theorem onc_len (acc l : List Str) : (onc acc l).length ≤ acc.length + l.length := by
  induction l generalizing acc with
  | nil => simp [onc]
  | cons x l ih =>
    have := ih (if x ∈ acc then acc else acc ++ [x])
    have e : onc acc (x :: l) = onc (if x ∈ acc then acc else acc ++ [x]) l := rfl
    rw [e]
    split at this <;> rename_i hc <;> simp only [hc, if_true, if_false] <;> simp at this ⊢ <;> omega
end
section
variable {K : PySem.W.Frag} [TxtK K] {w : World}
theorem s_law_once {k : Nat} {H : Hp} {Q : VK} {E : XK} {xs : List V} {a : Addr} {l : List Str} (hv : xs = [.ref a]) (h : SqL K H a (l.map V.str)) (hl : l.length ≤ 50000)
    (q : ∀ p H', Ex H H' → H' p = some (.lst ((onc [] l).map V.str)) → Q (.ref p) H') : Gam K w (k + 1) .law_once xs H Q E := by
  subst hv
  refine ⟨rfl, ?_⟩
  unfold rd_law_once
  refine k_start ?_
  walk_at "go"
  rename_i p H1 hp he1 hm1
  refine k_raJ (.inl h) (fun m σ H' => ∃ u, σ = [some (.ref a), some (.ref p), u] ∧ Ex H H' ∧ H' p = some (.lst ((onc [] (l.take m)).map V.str))) ⟨none, rfl, he1, hm1⟩ (fun m σ H' _ z => z.elim fun u z => z.2.1) ?_ ?_
  · rintro m x σ H' hm ⟨u, rfl, hx, hpl⟩
    obtain ⟨s, hs, rfl⟩ : ∃ s, l[m]? = some s ∧ x = .str s := by
      rw [List.getElem?_map] at hm
      cases hh : l[m]? with
      | none => rw [hh] at hm; cases hm
      | some s => rw [hh] at hm; exact ⟨s, rfl, (Option.some.inj hm).symm⟩
    have htk : l.take (m + 1) = l.take m ++ [s] := by rw [List.take_succ, hs]; rfl
    have e : onc [] (l.take (m + 1)) = if s ∈ onc [] (l.take m) then onc [] (l.take m) else onc [] (l.take m) ++ [s] := by rw [htk, onc_app]; rfl
    have hlen := onc_len [] (l.take m)
    rw [e]
    generalize onc [] (l.take m) = acc at hpl hlen ⊢
    dsimp only [List.set]
    walk_at "go"
    have hll : acc.length ≤ 50000 := by simp only [List.length_nil, List.length_take] at hlen; omega
    refine k_itd (fun z => ?_) (fun z => ?_)
    · rw [if_pos z]
      exact ⟨_, rfl, hx, hpl⟩
    · rw [if_neg z]
      walk_at "go"
      refine ⟨_, rfl, hx.new' hp, ?_⟩
      rw [upd_same, List.map_append]; rfl
  · rintro σ H' ⟨u, rfl, hx, hpl⟩
    rw [List.length_map, List.take_length] at hpl
    walk_at "go"
    exact q p H' hx hpl
def WrnS (K : PySem.W.Frag) [TxtK K] (w : World) (rs : List Row) : Prop := ∀ (k : Nat), deps rs + 1 ≤ k → ∀ (H : Hp) (Q : VK) (E : XK) (xs ys : List V) (p : Addr), xs = [.ref p] → (SqL K H p ys ∨ SqT K H p ys) → RowsA true H rs ys → szs rs ≤ 40000 →
  (∀ a H', Ex H H' → H' a = some (.lst ((wrns rs).map V.str)) → Q (.ref a) H') → Gam K w k .law_written xs H Q E
theorem wrn_inner {r : Row} {k : Nat} (hs : ∀ b, Itm.b b ∈ r.items → WrnS K w b) (hk : r.dep ≤ k) {H G : Hp} {E : XK} {p l a : Addr} {v : Option V} {vs : List V} {B : List Str} {n : L2.St → Hp → Prop} {rr : VK} {bb cc : L2.St → Hp → Prop} (ha : H a = some (.tup vs)) (hi : ItsA true H r.items vs) (hx : Ex H G) (hl : H l = none) (hw : G l = some (.lst ((B ++ r.own).map V.str))) (hB : B.length + r.sz ≤ 40000)
    (fin : ∀ l' v' G', Ex H G' → H l' = none → G' l' = some (.lst ((B ++ r.wrn).map V.str)) → n [some (.ref p), some (.ref l'), some (.ref a), v'] G') :
    RA K 3 (tIfS (tB (tCB (rIsi K) (tCons (tVar 3) (tCons (tC (.ty "tuple")) tNil)))) (tAsg (tOp (rAddA K) (tVar 1) (tCallSD (Gam K w k .law_written) [] (fun _ => E) (tCons (tVar 3) tNil))) (gName 1)) tNext) ⟨n, rr, bb, cc⟩ [some (.ref p), some (.ref l), some (.ref a), v] (.ref a) G := by
  have hwl := wrn_len r
  refine k_raJ (.inr (sqT_of ha)) (fun j σ G' => ∃ l u, σ = [some (.ref p), some (.ref l), some (.ref a), u] ∧ Ex H G' ∧ H l = none ∧ G' l = some (.lst ((B ++ r.own ++ (r.items.take j).flatMap Itm.wrn).map V.str))) ⟨l, v, rfl, hx, hl, by simpa using hw⟩ (fun m σ H' _ ⟨_, _, _, z, _⟩ => z) ?_ ?_
  · rintro j x σ G' hj ⟨l, u, rfl, hx, hl, hw⟩
    obtain ⟨it, hit, hv⟩ := hi.at hj
    have htk : (r.items.take (j + 1)).flatMap Itm.wrn = (r.items.take j).flatMap Itm.wrn ++ it.wrn := by rw [List.take_succ, hit]; simp
    have hlen : ((r.items.take (j + 1)).flatMap Itm.wrn).length + r.own.length ≤ r.wrn.length := by
      rw [wrn_items, List.length_append]
      have := List.take_append_drop (j + 1) r.items
      have h2 : (r.items.flatMap Itm.wrn).length = ((r.items.take (j + 1)).flatMap Itm.wrn).length + ((r.items.drop (j + 1)).flatMap Itm.wrn).length := by
        conv => lhs; rw [← this]
        rw [List.flatMap_append, List.length_append]
      omega
    rw [htk, List.length_append] at hlen
    rw [htk]
    generalize (r.items.take j).flatMap Itm.wrn = C at hw hlen ⊢
    dsimp only [List.set]
    cases it with
    | s v =>
      obtain ⟨rfl, hsc⟩ := hv
      have e : C ++ Itm.wrn (.s x) = C := by simp [Itm.wrn]
      rw [e]
      rcases hsc with ⟨s, rfl⟩ | ⟨n', rfl⟩
      · walk_at "go"
        exact ⟨l, _, rfl, hx, hl, hw⟩
      · walk_at "go"
        exact ⟨l, _, rfl, hx, hl, hw⟩
    | b rs =>
      obtain ⟨pb, rfl, ys, hp, hr⟩ := hv
      have hpt : H pb = some (.tup ys) := hp.elim id fun z => by cases z.1
      have hpt' := hx.at hpt
      have hmem := List.mem_of_getElem? hit
      obtain ⟨d1, d2, _⟩ := items_b hmem
      have hbl := wrns_len rs
      walk_at "go"
      refine hs rs hmem k (by omega) _ _ _ _ ys pb rfl (.inr (sqT_of hpt')) (RowsA.ex hx _ hr) (by omega) fun q G2 he2 hq => ?_
      have hw2 := he2.at hw
      refine o_addLA hw2 hq (by simp only [List.length_map, List.length_append, Itm.wrn] at *; omega) fun q2 G3 hq2 he3 hq3 => ?_
      walk_at "go"
      exact ⟨q2, _, rfl, hx.trans (he2.trans he3), (hx.trans he2).none hq2, by rw [hq3, ← List.map_append, List.append_assoc]; rfl⟩
  · rintro σ G' ⟨l, u, rfl, hx, hl, hw⟩
    rw [hi.len, List.take_length, List.append_assoc, ← wrn_items] at hw
    exact fin l u G' hx hl hw
theorem wrn_of : ∀ (rs : List Row), (∀ r ∈ rs, ∀ b, Itm.b b ∈ r.items → WrnS K w b) → WrnS K w rs := by
  intro rs hs k hk H Q E xs ys p hv hp hr hsz q
  obtain ⟨k, rfl⟩ : ∃ m, k = m + 1 := ⟨k - 1, by omega⟩
  subst hv
  refine ⟨rfl, ?_⟩
  unfold rd_law_written
  refine k_start ?_
  walk_at "go"
  rename_i l0 H1 hl0 he1 hm1
  refine k_raJ hp (fun m σ H' => ∃ l u v, σ = [some (.ref p), some (.ref l), u, v] ∧ Ex H H' ∧ H l = none ∧ H' l = some (.lst ((wrns (rs.take m)).map V.str))) ⟨l0, none, none, rfl, he1, hl0, hm1⟩ (fun m σ H' _ ⟨_, _, _, _, z, _⟩ => z) ?_ ?_
  · rintro m x σ H' hm ⟨l, u, v, rfl, hx, hl, hw⟩
    obtain ⟨r, hrr, hra⟩ := hr.at hm
    have hmem := List.mem_of_getElem? hrr
    have hd := dep_at hrr
    have hz := sz_at hrr
    have htk : wrns (rs.take (m + 1)) = wrns (rs.take m) ++ r.wrn := by rw [List.take_succ, hrr, wrns_app]; simp [wrns]
    have hln := wrns_len (rs.take m)
    have hwl := wrn_len r
    have hsl : szs (rs.take m) + r.sz ≤ szs rs := by
      have := szs_take rs (m + 1)
      rw [List.take_succ, hrr, szs_app] at this
      simpa [szs] using this
    obtain ⟨a, vs, rfl, ha, hi⟩ := RowA.its hra
    have ha' := hx.at ha
    rw [htk]
    generalize wrns (rs.take m) = B at hw hln htk
    have hinn : ∀ {G : Hp} {v : Option V} {n : L2.St → Hp → Prop} {rr : VK} {bb cc : L2.St → Hp → Prop} (_ : Ex H G) (_ : G l = some (.lst ((B ++ r.own).map V.str))) (_ : ∀ l' v' G', Ex H G' → H l' = none → G' l' = some (.lst ((B ++ r.wrn).map V.str)) → n [some (.ref p), some (.ref l'), some (.ref a), v'] G'), _ :=
      fun {G v n rr bb cc} hxG hG fin => wrn_inner (E := E) (p := p) (v := v) (rr := rr) (bb := bb) (cc := cc) (hs r hmem) (k := k) (by omega) ha hi hxG hl hG (by omega) fin
    have hfin : ∀ l' v' G', Ex H G' → H l' = none → G' l' = some (.lst ((B ++ r.wrn).map V.str)) → ∃ l u v, [some (V.ref p), some (V.ref l'), some (.ref a), v'] = [some (.ref p), some (.ref l), u, v] ∧ Ex H G' ∧ H l = none ∧ G' l = some (.lst ((B ++ r.wrn).map V.str)) := fun l' v' G' h1 h2 h3 => ⟨l', _, _, rfl, h1, h2, h3⟩
    have new : ∀ (s : Str), r.own = [s] → upd H' l (.lst (B.map V.str ++ [.str s])) l = some (.lst ((B ++ r.own).map V.str)) := fun s e => by rw [upd_same, e, List.map_append]; rfl
    have old : r.own = [] → H' l = some (.lst ((B ++ r.own).map V.str)) := fun e => by rw [e, List.append_nil]; exact hw
    cases r with
    | take n i =>
      obtain ⟨_, _, rfl, ⟨rfl, _⟩, _, _, rfl, ⟨rfl, _⟩, _, _, rfl, ⟨rfl, _⟩, rfl⟩ := id hi
      dsimp only [List.set]
      walk_at "go"
      rename_i p2 H2 hp2 he2 hm2
      have hx2 := hx.trans he2
      refine hinn (hx2.new' hl) ?_ ?_
      · rw [upd_same, List.map_append]; rfl
      · exact hfin
    | set n i =>
      obtain ⟨_, _, rfl, ⟨rfl, _⟩, _, _, rfl, ⟨rfl, _⟩, _, _, rfl, ⟨rfl, _⟩, rfl⟩ := id hi
      dsimp only [List.set]
      walk_at "go"
      rename_i p2 H2 hp2 he2 hm2
      have hx2 := hx.trans he2
      refine hinn (hx2.new' hl) ?_ ?_
      · rw [upd_same, List.map_append]; rfl
      · exact hfin
    | work n l r i =>
      obtain ⟨_, _, rfl, ⟨rfl, _⟩, _, _, rfl, ⟨rfl, _⟩, _, _, rfl, ⟨rfl, _⟩, _, _, rfl, ⟨rfl, _⟩, _, _, rfl, ⟨rfl, _⟩, rfl⟩ := id hi
      dsimp only [List.set]
      walk_at "go"
      rename_i p2 H2 hp2 he2 hm2
      have hx2 := hx.trans he2
      refine hinn (hx2.new' hl) ?_ ?_
      · rw [upd_same, List.map_append]; rfl
      · exact hfin
    | prn c n =>
      obtain ⟨_, _, rfl, ⟨rfl, _⟩, _, _, rfl, ⟨rfl, _⟩, _, _, rfl, ⟨rfl, _⟩, rfl⟩ := id hi
      dsimp only [List.set]
      walk_at "go"
      rename_i p2 H2 hp2 he2 hm2
      refine hinn (hx.trans he2) (he2.at (old rfl)) ?_
      exact hfin
    | test n x y =>
      obtain ⟨_, _, rfl, ⟨rfl, _⟩, _, _, rfl, ⟨rfl, _⟩, _, _, rfl, ⟨p1, rfl, _⟩, _, _, rfl, ⟨p2, rfl, _⟩, rfl⟩ := id hi
      dsimp only [List.set]
      walk_at "go"
      rename_i p2 H2 hp2 he2 hm2
      refine hinn (hx.trans he2) (he2.at (old rfl)) ?_
      exact hfin
    | loop n i x =>
      obtain ⟨_, _, rfl, ⟨rfl, _⟩, _, _, rfl, ⟨rfl, _⟩, _, _, rfl, ⟨rfl, _⟩, _, _, rfl, ⟨p2, rfl, _⟩, rfl⟩ := id hi
      dsimp only [List.set]
      walk_at "go"
      rename_i p2 H2 hp2 he2 hm2
      refine hinn (hx.trans he2) (he2.at (old rfl)) ?_
      exact hfin
    | guard x y =>
      obtain ⟨_, _, rfl, ⟨rfl, _⟩, _, _, rfl, ⟨p1, rfl, _⟩, _, _, rfl, ⟨p2, rfl, _⟩, rfl⟩ := id hi
      dsimp only [List.set]
      walk_at "go"
      rename_i p2 H2 hp2 he2 hm2
      refine hinn (hx.trans he2) (he2.at (old rfl)) ?_
      exact hfin
    | call x =>
      obtain ⟨_, _, rfl, ⟨rfl, _⟩, _, _, rfl, ⟨p1, rfl, _⟩, rfl⟩ := id hi
      dsimp only [List.set]
      walk_at "go"
      rename_i p2 H2 hp2 he2 hm2
      refine hinn (hx.trans he2) (he2.at (old rfl)) ?_
      exact hfin
    | leave =>
      obtain ⟨_, _, rfl, ⟨rfl, _⟩, rfl⟩ := id hi
      dsimp only [List.set]
      walk_at "go"
      rename_i p2 H2 hp2 he2 hm2
      refine hinn (hx.trans he2) (he2.at (old rfl)) ?_
      exact hfin
  · rintro σ H' ⟨l, u, v, rfl, hx, hl, hw⟩
    rw [hr.len, List.take_length] at hw
    walk_at "go"
    exact q l H' hx hw
theorem s_law_written (rs : List Row) : WrnS K w rs := wrn_of rs fun r hr b hb => s_law_written b
termination_by sizeOf rs
decreasing_by
  have h1 := (items_b hb).2.2
  have h2 := List.sizeOf_lt_of_mem hr
  omega
end
end L2.MP

set_option Elab.async false
set_option linter.all false
set_option maxRecDepth 100000
set_option maxHeartbeats 4000000
namespace L2.MP
open PySem PySem.Spec PyProof.Rows L2
/-! ### the stepping tactic -/
local macro_rules | `(tactic| walk_at "ne") => `(tactic| first
  | with_reducible assumption
  | ((with_reducible apply Ne.symm); with_reducible assumption)
  | ((with_reducible refine' ne_of_none ?a ?b); (case b => with_reducible assumption); (case a => walk_at "hp"))
  | ((with_reducible apply Ne.symm); (with_reducible refine' ne_of_none ?a ?b); (case b => with_reducible assumption); (case a => walk_at "hp"))
  | (refine' ne_of (by with_reducible assumption) (by with_reducible assumption) ?_; intro z; cases z))
local macro_rules | `(tactic| walk_at "hs") => `(tactic| first
  | with_reducible assumption
  | with_reducible exact upd_same
  | ((with_reducible apply up_new); (with_reducible assumption))
  | ((with_reducible apply Ex.at); (with_reducible assumption))
  | ((with_reducible apply up_ne); (walk_at "ne")))
local macro_rules | `(tactic| walk_at "hp") => `(tactic| ((repeat walk_at "hs"); done))
local macro_rules | `(tactic| walk_at "ss") => `(tactic| first
  | with_reducible assumption
  | ((with_reducible apply sqL_of); first | with_reducible assumption | with_reducible exact upd_same)
  | ((with_reducible apply sqT_of); first | with_reducible assumption | with_reducible exact upd_same)
  | ((with_reducible apply up_sqL); (with_reducible assumption))
  | ((with_reducible apply up_sqT); (with_reducible assumption))
  | ((with_reducible apply Ex.sqL); (with_reducible assumption))
  | ((with_reducible apply Ex.sqT); (with_reducible assumption))
  | ((with_reducible apply sqL_ne); (walk_at "ne"))
  | ((with_reducible apply sqT_ne); (walk_at "ne")))
local macro_rules | `(tactic| walk_at "sq") => `(tactic| ((repeat walk_at "ss"); done))
local macro_rules | `(tactic| walk_at "fl") => `(tactic| first
  | exact rfl
  | decide +kernel
  | (simp [flatOk, flat1]; done)
  | ((simp [flatOk, flat1]); decide +kernel))
local macro_rules | `(tactic| walk_at "ib") => `(tactic| first
  | omega
  | (refine Int.emod_nonneg _ ?_; omega)
  | (refine Int.emod_lt_of_pos _ ?_; omega))
local macro_rules | `(tactic| walk_at "ex") => `(tactic| first
  | with_reducible exact Ex.refl _
  | with_reducible assumption
  | ((with_reducible refine' Ex.trans ?a ?b); (case b => with_reducible assumption); (case a => walk_at "ex"))
  | ((with_reducible refine' Ex.new' ?a ?b); (case b => walk_at "nn"); (case a => walk_at "ex")))
local macro_rules | `(tactic| walk_at "nn") => `(tactic| first
  | with_reducible assumption
  | ((with_reducible refine' Ex.none ?a ?b); (case b => with_reducible assumption); (case a => walk_at "ex")))
local macro_rules | `(tactic| walk_at "bt") => `(tactic| first
  | exact rfl
  | (simp only [Bool.not_true, Bool.not_false, Bool.true_or, Bool.false_or, Bool.true_and, Bool.false_and, Bool.or_true, Bool.or_false, Bool.and_true, Bool.and_false, Bool.not_eq_true', Bool.not_eq_false', Bool.or_eq_true, Bool.or_eq_false_iff, Bool.and_eq_true, Bool.and_eq_false_iff, decide_eq_true_eq, decide_eq_false_iff_not] <;> omega)
  | (simp; done)
  | (simp; omega))
local macro_rules | `(tactic| walk_at "len") => `(tactic| first
  | exact Nat.le_of_ble_eq_true rfl
  | (simp only [List.length_cons, List.length_nil, List.length_append, List.length_map]; omega)
  | omega)
local macro_rules | `(tactic| walk_at "un") => `(tactic| fail)
local macro_rules | `(tactic| walk_at "cs") => `(tactic| fail)
local macro_rules | `(tactic| walk_at "st") => `(tactic| first
  | with_reducible refine k_var ?_
  | with_reducible refine k_asgS ?_
  | with_reducible refine k_c ?_
  | with_reducible refine k_op ?_
  | with_reducible refine k_cons ?_
  | with_reducible refine k_nil ?_
  | with_reducible refine k_seq ?_
  | with_reducible refine k_asg ?_
  | with_reducible refine k_cb ?_
  | with_reducible refine k_fld ?_
  | ((with_reducible refine' k_rfld ?h ?i ?j ?q); (case h => walk_at "hp"); (case i => infer_instance); (case j => infer_instance))
  | with_reducible refine k_if ?_
  | with_reducible refine k_test ?_
  | with_reducible refine k_bl ?_
  | with_reducible refine k_tB ?_
  | with_reducible refine k_itT ?_
  | with_reducible refine k_itF ?_
  | with_reducible refine k_next ?_
  | with_reducible refine k_ret ?_
  | with_reducible refine k_call ?_
  | with_reducible refine k_tup ?_
  | ((with_reducible refine' k_newTA ?h ?q); (case h => walk_at "len"); intro p H' hp he hm)
  | with_reducible refine k_lst ?_
  | ((with_reducible refine' k_newLA ?h ?q); (case h => walk_at "len"); intro p H' hp he hm)
  | with_reducible refine k_and ?_
  | with_reducible refine k_or ?_
  | with_reducible refine k_not ?_
  | with_reducible refine k_inot ?_
  | with_reducible refine o_eqI ?_
  | with_reducible refine o_eqB ?_
  | with_reducible refine o_eqS ?_
  | with_reducible refine o_neI ?_
  | with_reducible refine o_neB ?_
  | with_reducible refine o_neS ?_
  | with_reducible refine o_lt ?_
  | with_reducible refine o_le ?_
  | with_reducible refine o_gt ?_
  | with_reducible refine o_ge ?_
  | with_reducible refine o_addI ?_
  | ((with_reducible refine' o_addLA ?h1 ?h2 ?h ?q); (case h1 => walk_at "hp"); (case h2 => walk_at "hp"); (case h => walk_at "len"); intro p H' hp he hm; dsimp only [List.cons_append, List.nil_append] at hm)
  | with_reducible refine o_subI ?_
  | ((with_reducible refine' o_mod ?h ?q); (case h => first | decide | omega))
  | ((with_reducible refine' o_fdiv ?h ?q); (case h => first | exact ⟨by first | decide | omega, by first | decide | omega⟩ | exact ⟨by split <;> decide, by split <;> decide⟩))
  | ((with_reducible refine' o_mulI ?h ?q); (case h => first | exact .inl ⟨by first | decide | omega, by first | decide | omega⟩ | exact .inr ⟨by first | decide | omega, by first | decide | omega⟩))
  | ((with_reducible refine' o_ixTn ?h ?h0 ?e ?q); (case h => walk_at "sq"); (case h0 => decide); (case e => exact rfl))
  | ((with_reducible refine' o_ixLn ?h ?h0 ?e ?q); (case h => walk_at "sq"); (case h0 => decide); (case e => exact rfl))
  | ((with_reducible refine' o_ixD ?h ?h0 ?h1 ?q); (case h => walk_at "sq"); (case h0 => walk_at "ib"); (case h1 => walk_at "ib"))
  | ((with_reducible refine' o_ixSv ?h ?h0 ?h1 ?q); (case h => walk_at "sq"); (case h0 => walk_at "ib"); (case h1 => walk_at "ib"))
  | ((with_reducible refine' o_ix2S ?h ?q); (case h => walk_at "sq"))
  | ((with_reducible refine' o_ix2PT ?h ?hp ?q); (case h => walk_at "sq"); (case hp => omega))
  | ((with_reducible refine' o_ix2PL ?h ?hp ?q); (case h => walk_at "sq"); (case hp => omega))
  | ((with_reducible refine' o_inTI ?h ?c ?q); (case h => walk_at "sq"); (case c => infer_instance))
  | ((with_reducible refine' o_inLI ?h ?c ?q); (case h => walk_at "sq"); (case c => infer_instance))
  | ((with_reducible refine' o_ix2I ?h ?q); (case h => walk_at "sq"))
  | ((with_reducible refine' o_lenLS ?h ?q); (case h => walk_at "sq"))
  | ((with_reducible refine' o_lenLI ?h ?q); (case h => walk_at "sq"))
  | ((with_reducible refine' o_lenL ?h ?q); (case h => walk_at "sq"))
  | ((with_reducible refine' o_lenT ?h ?q); (case h => walk_at "sq"))
  | with_reducible refine' i_plain ?_
  | with_reducible refine' i_plainC ?_
  | ((with_reducible refine' i_insC ?h ?i ?c ?q); (case h => walk_at "hp"); (case i => infer_instance); (case c => infer_instance))
  | ((with_reducible refine' i_lst ?h ?c ?q); (case h => walk_at "hp"); (case c => infer_instance))
  | ((with_reducible refine' i_tup ?h ?c ?q); (case h => walk_at "hp"); (case c => infer_instance))
  | with_reducible refine k_prop ?_
  | ((with_reducible refine' k_rprop ?h ?q); (case h => walk_at "hp"))
  | with_reducible refine k_make ?_
  | with_reducible refine k_makeKS ?_
  | ((with_reducible refine' k_rmkK ?hl ?hg ?q); (case hl => exact rfl); (case hg => exact fun _ => rfl))
  | with_reducible refine k_meth ?_
  | ((with_reducible refine' k_rmeth ?h ?i ?q); (case h => walk_at "hp"); (case i => infer_instance))
  | with_reducible refine k_andV ?_
  | with_reducible refine k_orV ?_
  | with_reducible refine k_notV ?_
  | with_reducible refine k_rand ?_
  | with_reducible refine k_rnot ?_
  | with_reducible refine k_un ?_
  | with_reducible refine k_ifE ?_
  | with_reducible refine k_randT ?_
  | with_reducible refine k_randF ?_
  | with_reducible refine k_rorT ?_
  | with_reducible refine k_rorF ?_
  | with_reducible refine k_randtT ?_
  | with_reducible refine k_randtF ?_
  | with_reducible refine k_rortT ?_
  | with_reducible refine k_rortF ?_
  | ((with_reducible refine' k_randP ?h2 ?q); (case h2 => intro _ hq; (walk_at "go"); with_reducible exact hq))
  | ((with_reducible refine' k_rorP ?h2 ?q); (case h2 => intro _ hq; (walk_at "go"); with_reducible exact hq))
  | with_reducible refine k_randS ?_
  | with_reducible refine k_rorS ?_
  | ((with_reducible refine' k_rifI ?h1 ?h2 ?q); (case h1 => intro _ hq; (walk_at "go"); with_reducible exact hq); (case h2 => intro _ hq; (walk_at "go"); with_reducible exact hq))
  | with_reducible refine k_rifS ?_
  | ((with_reducible refine' k_randtP ?h2 ?q); (case h2 => intro _ hq; (walk_at "go"); with_reducible exact hq))
  | ((with_reducible refine' k_rortP ?h2 ?q); (case h2 => intro _ hq; (walk_at "go"); with_reducible exact hq))
  | with_reducible refine k_randtS ?_
  | with_reducible refine k_rortS ?_
  | ((with_reducible refine' k_own ?h ?i ?q); (case h => walk_at "hp"); (case i => walk_at "hp"))
  | ((with_reducible refine' k_ownI ?h ?q); (case h => walk_at "hp"))
  | ((with_reducible refine' k_ownA ?h ?q); (case h => walk_at "hp"))
  | with_reducible refine k_aug ?_
  | with_reducible refine o_addIp ?_
  | with_reducible refine k_drop ?_
  | with_reducible refine k_fldp ?_
  | ((with_reducible refine' k_rputU ?i ?j ?q); (case i => infer_instance); (case j => infer_instance))
  | ((with_reducible refine' k_rput ?h ?i ?j ?q); (case h => walk_at "hp"); (case i => infer_instance); (case j => infer_instance))
  | ((with_reducible refine' k_dispA ?h ?q); (case h => exact Nat.le_of_ble_eq_true rfl); intro p H' hp he hm)
  | with_reducible refine k_newK ?_
  | ((with_reducible refine' k_newDA ?q); intro p H' hp he hm)
  | with_reducible refine k_dget ?_
  | with_reducible refine k_dget2 ?_
  | ((with_reducible refine' k_rdgetC ?h ?e ?q); (case h => walk_at "hp"); (case e => infer_instance))
  | ((with_reducible refine' k_rdg2 ?h ?q); (case h => walk_at "hp"))
  | ((with_reducible refine' k_rdo ?h ?q); (case h => walk_at "hp"))
  | with_reducible refine k_dput ?_
  | ((with_reducible refine' k_rdputU ?hl ?e ?q); (case hl => exact Nat.le_of_ble_eq_true rfl); (case e => infer_instance))
  | ((with_reducible refine' k_rdputC ?h ?hl ?e ?q); (case h => walk_at "hp"); (case hl => exact Nat.le_of_ble_eq_true rfl); (case e => infer_instance))
  | with_reducible refine k_m1 ?_
  | with_reducible refine k_rm1 ?_
  | with_reducible refine k_bm ?_
  | ((with_reducible refine' k_rbmL ?h ?q); (case h => walk_at "sq"))
  | ((with_reducible refine' o_appendU ?hl ?q); (case hl => walk_at "len"))
  | ((with_reducible refine' o_append ?h ?hl ?q); (case h => walk_at "hp"); (case hl => walk_at "len"))
  | with_reducible refine k_ownIx ?_
  | ((with_reducible refine' k_rownIx ?h ?q); (case h => walk_at "hp"))
  | with_reducible refine k_ownPut ?_
  | ((with_reducible refine' k_rownPut ?h ?q); (case h => walk_at "hp"))
  | ((with_reducible refine' o_inT ?h ?q); (case h => walk_at "sq"))
  | ((with_reducible refine' o_ninT ?h ?q); (case h => walk_at "sq"))
  | ((with_reducible refine' o_inL ?h ?q); (case h => walk_at "sq"))
  | ((with_reducible refine' o_ninL ?h ?q); (case h => walk_at "sq"))
  | with_reducible refine o_pow18 ?_
  | with_reducible refine o_pow9 ?_
  | with_reducible refine o_pow30 ?_
  | with_reducible refine o_isB ?_
  | with_reducible refine o_neg ?_
  | with_reducible refine o_isN ?_
  | with_reducible refine o_notN ?_
  | with_reducible refine o_max ?_
  | with_reducible refine o_min ?_
  | with_reducible refine o_intI ?_
  | with_reducible refine o_intB ?_
  | with_reducible refine o_abs ?_
  | with_reducible refine k_forR1 ?_
  | with_reducible refine k_forR2 ?_
  | with_reducible refine k_forL ?_
  | with_reducible refine k_forT ?_
  | ((with_reducible refine' k_turnR ?e ?q); (case e => exact rfl))
  | with_reducible refine k_doneR ?_
  | ((with_reducible refine' k_turnL ?h ?q); (case h => walk_at "sq"))
  | ((with_reducible refine' k_doneL ?h ?q); (case h => walk_at "sq"))
  | ((with_reducible refine' k_turnT ?h ?q); (case h => walk_at "sq"))
  | ((with_reducible refine' k_doneT ?h ?q); (case h => walk_at "sq"))
  | with_reducible refine k_forA ?_
  | with_reducible refine k_lcA ?_
  | ((with_reducible refine' o_tupL ?h ?q); (case h => walk_at "sq"); intro p H' hp he hm)
  | ((with_reducible refine' o_lisL ?h ?q); (case h => walk_at "sq"); intro p H' hp he hm)
  | ((with_reducible refine' o_lisT ?h ?q); (case h => walk_at "sq"); intro p H' hp he hm)
  | ((with_reducible refine' o_tupT ?h ?q); (case h => walk_at "sq"))
  | with_reducible refine k_dyn ?_
  | ((with_reducible refine' k_rdyn ?h ?i ?c ?q); (case h => walk_at "hp"); (case i => infer_instance); (case c => infer_instance))
  | with_reducible refine k_brk ?_
  | with_reducible refine k_cont ?_
  | with_reducible refine k_raise ?_
  | with_reducible refine k_retN ?_
  | walk_at "un"
  | walk_at "cs"
  | ((with_reducible refine' k_itdT ?h ?q); (case h => first | with_reducible assumption | omega | decide))
  | ((with_reducible refine' k_itdF ?h ?q); (case h => first | with_reducible assumption | omega | decide))
  | ((with_reducible refine' k_ifT ?h ?q); (case h => walk_at "bt"))
  | ((with_reducible refine' k_ifF ?h ?q); (case h => walk_at "bt")))
local macro_rules | `(tactic| walk_at "go") => `(tactic| repeat walk_at "st")
local macro_rules | `(tactic| walk_at "sp") => `(tactic| repeat' (first | walk_at "st" | refine k_itd (fun h => ?_) (fun h => ?_) | refine k_itb (fun h => ?_) (fun h => ?_)))
local macro_rules | `(tactic| walk_at "cs") => `(tactic| ((with_reducible refine' i_ltT ?h ?ht ?q); (case h => walk_at "hp"); (case ht => walk_at "hp")))
local macro_rules | `(tactic| walk_at "cs") => `(tactic| ((with_reducible refine' i_ltL ?h ?ht ?q); (case h => walk_at "hp"); (case ht => walk_at "hp")))
local macro_rules | `(tactic| walk_at "cs") => `(tactic| ((with_reducible refine' i_ltN ?ht ?q); (case ht => walk_at "hp")))
section
variable {K : PySem.W.Frag} [TxtK K] {w : World}
/-- law_same says yes of two values -/
def SameS (K : PySem.W.Frag) [TxtK K] (w : World) (H : Hp) (x y : V) (k : Nat) : Prop := ∀ H', Ex H H' → ∀ k', k ≤ k' → ∀ (Q : VK) (E : XK) (xs : List V), xs = [x, y] → (∀ H'', Ex H' H'' → Q (.bl true) H'') → Gam K w k' .law_same xs H' Q E
theorem SameS.ex {H H1 : Hp} {x y : V} {k : Nat} (h : SameS K w H x y k) (e : Ex H H1) : SameS K w H1 x y k := fun H' e' => h H' (e.trans e')
theorem SameS.mono {H : Hp} {x y : V} {k m : Nat} (h : SameS K w H x y k) (e : k ≤ m) : SameS K w H x y m := fun H' e' k' hk => h H' e' k' (Nat.le_trans e hk)
theorem same_str {H : Hp} {s : Str} : SameS K w H (.str s) (.str s) 1 := by
  intro H' hx k hk Q E xs hv q
  obtain ⟨k, rfl⟩ : ∃ m, k = m + 1 := ⟨k - 1, by omega⟩
  subst hv
  refine ⟨rfl, ?_⟩
  unfold rd_law_same
  refine k_start ?_
  walk_at "go"
  rw [decide_eq_true rfl]
  exact q _ (by walk_at "ex")
theorem same_int {H : Hp} {s : Int} : SameS K w H (.int s) (.int s) 1 := by
  intro H' hx k hk Q E xs hv q
  obtain ⟨k, rfl⟩ : ∃ m, k = m + 1 := ⟨k - 1, by omega⟩
  subst hv
  refine ⟨rfl, ?_⟩
  unfold rd_law_same
  refine k_start ?_
  walk_at "go"
  rw [decide_eq_true rfl]
  exact q _ (by walk_at "ex")
theorem same_tup {H : Hp} {a b : Addr} {xs ys : List V} {k : Nat} (ha : H a = some (.tup xs)) (hb : H b = some (.tup ys)) (hl : xs.length = ys.length) (h4 : xs.length ≤ 50000) (h : ∀ (i : Nat) x y, xs[i]? = some x → ys[i]? = some y → SameS K w H x y k) : SameS K w H (.ref a) (.ref b) (k + 1) := by
  intro H' hx k' hk Q E zs hv q
  obtain ⟨k', rfl⟩ : ∃ m, k' = m + 1 := ⟨k' - 1, by omega⟩
  subst hv
  refine ⟨rfl, ?_⟩
  unfold rd_law_same
  refine k_start ?_
  have ha := hx.at ha
  have hb := hx.at hb
  walk_at "go"
  refine k_rr1I ⟨by omega, by omega⟩ (fun m σ G => ∃ u, σ = [some (.ref a), some (.ref b), u] ∧ Ex H' G) ⟨_, rfl, by walk_at "ex"⟩ ?_ ?_
  · rintro m σ G hm ⟨u, rfl, hg⟩
    have hmy : m < ys.length := by omega
    have hmx : m < xs.length := by omega
    have ha := hg.at ha
    have hb := hg.at hb
    dsimp only [List.set]
    walk_at "go"
    refine o_ixTn (sqT_of ha) (by omega) (by rw [Int.toNat_natCast]; exact List.getElem?_eq_getElem hmx) ?_
    walk_at "go"
    refine o_ixTn (sqT_of hb) (by omega) (by rw [Int.toNat_natCast]; exact List.getElem?_eq_getElem hmy) ?_
    walk_at "go"
    refine h m _ _ (List.getElem?_eq_getElem hmx) (List.getElem?_eq_getElem hmy) G (hx.trans hg) k' (by omega) _ _ _ rfl fun G2 he2 => ?_
    walk_at "go"
    exact ⟨_, rfl, hg.trans he2⟩
  · rintro σ G ⟨u, rfl, hg⟩
    walk_at "go"
    exact q G hg
theorem same_body {H : Hp} {p p' : Addr} {rs : List Row} {xs ys : List V} {k : Nat} (hp : H p = some (.tup xs)) (hp' : H p' = some (.tup ys)) (h1 : RowsA true H rs xs) (h2 : RowsA true H rs ys) (hsz : szs rs ≤ 40000)
    (h : ∀ r ∈ rs, ∀ v v', RowA true H r v → RowA true H r v' → SameS K w H v v' k) : SameS K w H (.ref p) (.ref p') (k + 1) := by
  have l1 := h1.len
  have l2 := h2.len
  have l3 := len_szs rs
  refine same_tup hp hp' (by omega) (by omega) fun i x y hx hy => ?_
  obtain ⟨r, e1, q1⟩ := h1.at hx
  obtain ⟨r', e2, q2⟩ := h2.at hy
  rw [e1] at e2
  cases e2
  exact h r (List.mem_of_getElem? e1) x y q1 q2
theorem same_row {H : Hp} {r : Row} {v v' : V} (h1 : RowA true H r v) (h2 : RowA true H r v') (hsz : r.sz ≤ 40000) : SameS K w H v v' (2 * r.dep + 2) := by
  obtain ⟨a, xs, rfl, ha, hi⟩ := h1.its
  obtain ⟨b, ys, rfl, hb, hj⟩ := h2.its
  have l1 := hi.len
  have l2 := hj.len
  have l3 := (items_len r).2
  refine same_tup ha hb (by omega) (by omega) fun i x y hx hy => ?_
  obtain ⟨it, e1, q1⟩ := hi.at hx
  obtain ⟨it', e2, q2⟩ := hj.at hy
  rw [e1] at e2
  cases e2
  cases it with
  | s v =>
    obtain ⟨rfl, hs⟩ := q1
    obtain ⟨rfl, _⟩ := q2
    rcases hs with ⟨s, rfl⟩ | ⟨n, rfl⟩
    · exact same_str.mono (by omega)
    · exact same_int.mono (by omega)
  | b rs =>
    obtain ⟨p, rfl, us, hp, hr⟩ := q1
    obtain ⟨p', rfl, vs, hp', hr'⟩ := q2
    have hp1 : H p = some (.tup us) := hp.elim id fun z => by cases z.1
    have hp2 : H p' = some (.tup vs) := hp'.elim id fun z => by cases z.1
    obtain ⟨d1, d2, d3⟩ := items_bAt e1
    refine (same_body (k := 2 * deps rs + 2) hp1 hp2 hr hr' (by omega) fun r1 hm v v' g1 g2 => ?_).mono (by omega)
    obtain ⟨i', hi'⟩ := List.getElem?_of_mem hm
    have d4 := dep_at hi'
    have d5 := sz_at hi'
    have d6 := sizeOf_at hi'
    exact (same_row g1 g2 (by omega)).mono (by omega)
termination_by sizeOf r
end
end L2.MP

set_option Elab.async false
set_option linter.all false
set_option maxRecDepth 100000
set_option maxHeartbeats 4000000
namespace L2.MP
open PySem PySem.Spec PyProof.Rows L2
/-! ### the stepping tactic -/
local macro_rules | `(tactic| walk_at "ne") => `(tactic| first
  | with_reducible assumption
  | ((with_reducible apply Ne.symm); with_reducible assumption)
  | ((with_reducible refine' ne_of_none ?a ?b); (case b => with_reducible assumption); (case a => walk_at "hp"))
  | ((with_reducible apply Ne.symm); (with_reducible refine' ne_of_none ?a ?b); (case b => with_reducible assumption); (case a => walk_at "hp"))
  | (refine' ne_of (by with_reducible assumption) (by with_reducible assumption) ?_; intro z; cases z))
local macro_rules | `(tactic| walk_at "hs") => `(tactic| first
  | with_reducible assumption
  | with_reducible exact upd_same
  | ((with_reducible apply up_new); (with_reducible assumption))
  | ((with_reducible apply Ex.at); (with_reducible assumption))
  | ((with_reducible apply up_ne); (walk_at "ne")))
local macro_rules | `(tactic| walk_at "hp") => `(tactic| ((repeat walk_at "hs"); done))
local macro_rules | `(tactic| walk_at "ss") => `(tactic| first
  | with_reducible assumption
  | ((with_reducible apply sqL_of); first | with_reducible assumption | with_reducible exact upd_same)
  | ((with_reducible apply sqT_of); first | with_reducible assumption | with_reducible exact upd_same)
  | ((with_reducible apply up_sqL); (with_reducible assumption))
  | ((with_reducible apply up_sqT); (with_reducible assumption))
  | ((with_reducible apply Ex.sqL); (with_reducible assumption))
  | ((with_reducible apply Ex.sqT); (with_reducible assumption))
  | ((with_reducible apply sqL_ne); (walk_at "ne"))
  | ((with_reducible apply sqT_ne); (walk_at "ne")))
local macro_rules | `(tactic| walk_at "sq") => `(tactic| ((repeat walk_at "ss"); done))
local macro_rules | `(tactic| walk_at "fl") => `(tactic| first
  | exact rfl
  | decide +kernel
  | (simp [flatOk, flat1]; done)
  | ((simp [flatOk, flat1]); decide +kernel))
local macro_rules | `(tactic| walk_at "ib") => `(tactic| first
  | omega
  | (refine Int.emod_nonneg _ ?_; omega)
  | (refine Int.emod_lt_of_pos _ ?_; omega))
local macro_rules | `(tactic| walk_at "ex") => `(tactic| first
  | with_reducible exact Ex.refl _
  | with_reducible assumption
  | ((with_reducible refine' Ex.trans ?a ?b); (case b => with_reducible assumption); (case a => walk_at "ex"))
  | ((with_reducible refine' Ex.new' ?a ?b); (case b => walk_at "nn"); (case a => walk_at "ex")))
local macro_rules | `(tactic| walk_at "nn") => `(tactic| first
  | with_reducible assumption
  | ((with_reducible refine' Ex.none ?a ?b); (case b => with_reducible assumption); (case a => walk_at "ex")))
local macro_rules | `(tactic| walk_at "bt") => `(tactic| first
  | exact rfl
  | (simp only [Bool.not_true, Bool.not_false, Bool.true_or, Bool.false_or, Bool.true_and, Bool.false_and, Bool.or_true, Bool.or_false, Bool.and_true, Bool.and_false, Bool.not_eq_true', Bool.not_eq_false', Bool.or_eq_true, Bool.or_eq_false_iff, Bool.and_eq_true, Bool.and_eq_false_iff, decide_eq_true_eq, decide_eq_false_iff_not] <;> omega)
  | (simp; done)
  | (simp; omega))
local macro_rules | `(tactic| walk_at "len") => `(tactic| first
  | exact Nat.le_of_ble_eq_true rfl
  | (simp only [List.length_cons, List.length_nil, List.length_append, List.length_map]; omega)
  | omega)
local macro_rules | `(tactic| walk_at "un") => `(tactic| fail)
local macro_rules | `(tactic| walk_at "cs") => `(tactic| fail)
local macro_rules | `(tactic| walk_at "st") => `(tactic| first
  | with_reducible refine k_var ?_
  | with_reducible refine k_asgS ?_
  | with_reducible refine k_c ?_
  | with_reducible refine k_op ?_
  | with_reducible refine k_cons ?_
  | with_reducible refine k_nil ?_
  | with_reducible refine k_seq ?_
  | with_reducible refine k_asg ?_
  | with_reducible refine k_cb ?_
  | with_reducible refine k_fld ?_
  | ((with_reducible refine' k_rfld ?h ?i ?j ?q); (case h => walk_at "hp"); (case i => infer_instance); (case j => infer_instance))
  | with_reducible refine k_if ?_
  | with_reducible refine k_test ?_
  | with_reducible refine k_bl ?_
  | with_reducible refine k_tB ?_
  | with_reducible refine k_itT ?_
  | with_reducible refine k_itF ?_
  | with_reducible refine k_next ?_
  | with_reducible refine k_ret ?_
  | with_reducible refine k_call ?_
  | with_reducible refine k_tup ?_
  | ((with_reducible refine' k_newTA ?h ?q); (case h => walk_at "len"); intro p H' hp he hm)
  | with_reducible refine k_lst ?_
  | ((with_reducible refine' k_newLA ?h ?q); (case h => walk_at "len"); intro p H' hp he hm)
  | with_reducible refine k_and ?_
  | with_reducible refine k_or ?_
  | with_reducible refine k_not ?_
  | with_reducible refine k_inot ?_
  | with_reducible refine o_eqI ?_
  | with_reducible refine o_eqB ?_
  | with_reducible refine o_eqS ?_
  | with_reducible refine o_neI ?_
  | with_reducible refine o_neB ?_
  | with_reducible refine o_neS ?_
  | with_reducible refine o_lt ?_
  | with_reducible refine o_le ?_
  | with_reducible refine o_gt ?_
  | with_reducible refine o_ge ?_
  | with_reducible refine o_addI ?_
  | ((with_reducible refine' o_addLA ?h1 ?h2 ?h ?q); (case h1 => walk_at "hp"); (case h2 => walk_at "hp"); (case h => walk_at "len"); intro p H' hp he hm; dsimp only [List.cons_append, List.nil_append] at hm)
  | with_reducible refine o_subI ?_
  | ((with_reducible refine' o_mod ?h ?q); (case h => first | decide | omega))
  | ((with_reducible refine' o_fdiv ?h ?q); (case h => first | exact ⟨by first | decide | omega, by first | decide | omega⟩ | exact ⟨by split <;> decide, by split <;> decide⟩))
  | ((with_reducible refine' o_mulI ?h ?q); (case h => first | exact .inl ⟨by first | decide | omega, by first | decide | omega⟩ | exact .inr ⟨by first | decide | omega, by first | decide | omega⟩))
  | ((with_reducible refine' o_ixTn ?h ?h0 ?e ?q); (case h => walk_at "sq"); (case h0 => decide); (case e => exact rfl))
  | ((with_reducible refine' o_ixLn ?h ?h0 ?e ?q); (case h => walk_at "sq"); (case h0 => decide); (case e => exact rfl))
  | ((with_reducible refine' o_ixD ?h ?h0 ?h1 ?q); (case h => walk_at "sq"); (case h0 => walk_at "ib"); (case h1 => walk_at "ib"))
  | ((with_reducible refine' o_ixSv ?h ?h0 ?h1 ?q); (case h => walk_at "sq"); (case h0 => walk_at "ib"); (case h1 => walk_at "ib"))
  | ((with_reducible refine' o_ix2S ?h ?q); (case h => walk_at "sq"))
  | ((with_reducible refine' o_ix2PT ?h ?hp ?q); (case h => walk_at "sq"); (case hp => omega))
  | ((with_reducible refine' o_ix2PL ?h ?hp ?q); (case h => walk_at "sq"); (case hp => omega))
  | ((with_reducible refine' o_inTI ?h ?c ?q); (case h => walk_at "sq"); (case c => infer_instance))
  | ((with_reducible refine' o_inLI ?h ?c ?q); (case h => walk_at "sq"); (case c => infer_instance))
  | ((with_reducible refine' o_ix2I ?h ?q); (case h => walk_at "sq"))
  | ((with_reducible refine' o_lenLS ?h ?q); (case h => walk_at "sq"))
  | ((with_reducible refine' o_lenLI ?h ?q); (case h => walk_at "sq"))
  | ((with_reducible refine' o_lenL ?h ?q); (case h => walk_at "sq"))
  | ((with_reducible refine' o_lenT ?h ?q); (case h => walk_at "sq"))
  | with_reducible refine' i_plain ?_
  | with_reducible refine' i_plainC ?_
  | ((with_reducible refine' i_insC ?h ?i ?c ?q); (case h => walk_at "hp"); (case i => infer_instance); (case c => infer_instance))
  | ((with_reducible refine' i_lst ?h ?c ?q); (case h => walk_at "hp"); (case c => infer_instance))
  | ((with_reducible refine' i_tup ?h ?c ?q); (case h => walk_at "hp"); (case c => infer_instance))
  | with_reducible refine k_prop ?_
  | ((with_reducible refine' k_rprop ?h ?q); (case h => walk_at "hp"))
  | with_reducible refine k_make ?_
  | with_reducible refine k_makeKS ?_
  | ((with_reducible refine' k_rmkK ?hl ?hg ?q); (case hl => exact rfl); (case hg => exact fun _ => rfl))
  | with_reducible refine k_meth ?_
  | ((with_reducible refine' k_rmeth ?h ?i ?q); (case h => walk_at "hp"); (case i => infer_instance))
  | with_reducible refine k_andV ?_
  | with_reducible refine k_orV ?_
  | with_reducible refine k_notV ?_
  | with_reducible refine k_rand ?_
  | with_reducible refine k_rnot ?_
  | with_reducible refine k_un ?_
  | with_reducible refine k_ifE ?_
  | with_reducible refine k_randT ?_
  | with_reducible refine k_randF ?_
  | with_reducible refine k_rorT ?_
  | with_reducible refine k_rorF ?_
  | with_reducible refine k_randtT ?_
  | with_reducible refine k_randtF ?_
  | with_reducible refine k_rortT ?_
  | with_reducible refine k_rortF ?_
  | ((with_reducible refine' k_randP ?h2 ?q); (case h2 => intro _ hq; (walk_at "go"); with_reducible exact hq))
  | ((with_reducible refine' k_rorP ?h2 ?q); (case h2 => intro _ hq; (walk_at "go"); with_reducible exact hq))
  | with_reducible refine k_randS ?_
  | with_reducible refine k_rorS ?_
  | ((with_reducible refine' k_rifI ?h1 ?h2 ?q); (case h1 => intro _ hq; (walk_at "go"); with_reducible exact hq); (case h2 => intro _ hq; (walk_at "go"); with_reducible exact hq))
  | with_reducible refine k_rifS ?_
  | ((with_reducible refine' k_randtP ?h2 ?q); (case h2 => intro _ hq; (walk_at "go"); with_reducible exact hq))
  | ((with_reducible refine' k_rortP ?h2 ?q); (case h2 => intro _ hq; (walk_at "go"); with_reducible exact hq))
  | with_reducible refine k_randtS ?_
  | with_reducible refine k_rortS ?_
  | ((with_reducible refine' k_own ?h ?i ?q); (case h => walk_at "hp"); (case i => walk_at "hp"))
  | ((with_reducible refine' k_ownI ?h ?q); (case h => walk_at "hp"))
  | ((with_reducible refine' k_ownA ?h ?q); (case h => walk_at "hp"))
  | with_reducible refine k_aug ?_
  | with_reducible refine o_addIp ?_
  | with_reducible refine k_drop ?_
  | with_reducible refine k_fldp ?_
  | ((with_reducible refine' k_rputU ?i ?j ?q); (case i => infer_instance); (case j => infer_instance))
  | ((with_reducible refine' k_rput ?h ?i ?j ?q); (case h => walk_at "hp"); (case i => infer_instance); (case j => infer_instance))
  | ((with_reducible refine' k_dispA ?h ?q); (case h => exact Nat.le_of_ble_eq_true rfl); intro p H' hp he hm)
  | with_reducible refine k_newK ?_
  | ((with_reducible refine' k_newDA ?q); intro p H' hp he hm)
  | with_reducible refine k_dget ?_
  | with_reducible refine k_dget2 ?_
  | ((with_reducible refine' k_rdgetC ?h ?e ?q); (case h => walk_at "hp"); (case e => infer_instance))
  | ((with_reducible refine' k_rdg2 ?h ?q); (case h => walk_at "hp"))
  | ((with_reducible refine' k_rdo ?h ?q); (case h => walk_at "hp"))
  | with_reducible refine k_dput ?_
  | ((with_reducible refine' k_rdputU ?hl ?e ?q); (case hl => exact Nat.le_of_ble_eq_true rfl); (case e => infer_instance))
  | ((with_reducible refine' k_rdputC ?h ?hl ?e ?q); (case h => walk_at "hp"); (case hl => exact Nat.le_of_ble_eq_true rfl); (case e => infer_instance))
  | with_reducible refine k_m1 ?_
  | with_reducible refine k_rm1 ?_
  | with_reducible refine k_bm ?_
  | ((with_reducible refine' k_rbmL ?h ?q); (case h => walk_at "sq"))
  | ((with_reducible refine' o_appendU ?hl ?q); (case hl => walk_at "len"))
  | ((with_reducible refine' o_append ?h ?hl ?q); (case h => walk_at "hp"); (case hl => walk_at "len"))
  | with_reducible refine k_ownIx ?_
  | ((with_reducible refine' k_rownIx ?h ?q); (case h => walk_at "hp"))
  | with_reducible refine k_ownPut ?_
  | ((with_reducible refine' k_rownPut ?h ?q); (case h => walk_at "hp"))
  | ((with_reducible refine' o_inT ?h ?q); (case h => walk_at "sq"))
  | ((with_reducible refine' o_ninT ?h ?q); (case h => walk_at "sq"))
  | ((with_reducible refine' o_inL ?h ?q); (case h => walk_at "sq"))
  | ((with_reducible refine' o_ninL ?h ?q); (case h => walk_at "sq"))
  | with_reducible refine o_pow18 ?_
  | with_reducible refine o_pow9 ?_
  | with_reducible refine o_pow30 ?_
  | with_reducible refine o_isB ?_
  | with_reducible refine o_neg ?_
  | with_reducible refine o_isN ?_
  | with_reducible refine o_notN ?_
  | with_reducible refine o_max ?_
  | with_reducible refine o_min ?_
  | with_reducible refine o_intI ?_
  | with_reducible refine o_intB ?_
  | with_reducible refine o_abs ?_
  | with_reducible refine k_forR1 ?_
  | with_reducible refine k_forR2 ?_
  | with_reducible refine k_forL ?_
  | with_reducible refine k_forT ?_
  | ((with_reducible refine' k_turnR ?e ?q); (case e => exact rfl))
  | with_reducible refine k_doneR ?_
  | ((with_reducible refine' k_turnL ?h ?q); (case h => walk_at "sq"))
  | ((with_reducible refine' k_doneL ?h ?q); (case h => walk_at "sq"))
  | ((with_reducible refine' k_turnT ?h ?q); (case h => walk_at "sq"))
  | ((with_reducible refine' k_doneT ?h ?q); (case h => walk_at "sq"))
  | with_reducible refine k_forA ?_
  | with_reducible refine k_lcA ?_
  | ((with_reducible refine' o_tupL ?h ?q); (case h => walk_at "sq"); intro p H' hp he hm)
  | ((with_reducible refine' o_lisL ?h ?q); (case h => walk_at "sq"); intro p H' hp he hm)
  | ((with_reducible refine' o_lisT ?h ?q); (case h => walk_at "sq"); intro p H' hp he hm)
  | ((with_reducible refine' o_tupT ?h ?q); (case h => walk_at "sq"))
  | with_reducible refine k_dyn ?_
  | ((with_reducible refine' k_rdyn ?h ?i ?c ?q); (case h => walk_at "hp"); (case i => infer_instance); (case c => infer_instance))
  | with_reducible refine k_brk ?_
  | with_reducible refine k_cont ?_
  | with_reducible refine k_raise ?_
  | with_reducible refine k_retN ?_
  | walk_at "un"
  | walk_at "cs"
  | ((with_reducible refine' k_itdT ?h ?q); (case h => first | with_reducible assumption | omega | decide))
  | ((with_reducible refine' k_itdF ?h ?q); (case h => first | with_reducible assumption | omega | decide))
  | ((with_reducible refine' k_ifT ?h ?q); (case h => walk_at "bt"))
  | ((with_reducible refine' k_ifF ?h ?q); (case h => walk_at "bt")))
local macro_rules | `(tactic| walk_at "go") => `(tactic| repeat walk_at "st")
local macro_rules | `(tactic| walk_at "sp") => `(tactic| repeat' (first | walk_at "st" | refine k_itd (fun h => ?_) (fun h => ?_) | refine k_itb (fun h => ?_) (fun h => ?_)))
section
variable {K : PySem.W.Frag} [TxtK K] {w : World}
/-- what is new -/
def nw (H H' : Hp) : Hp := fun b => if H b = none then H' b else none
theorem nw_le {H G H' G' : Hp} (hd : ∀ b, G b = none → H b = none) (hv : ∀ b v, G b = none → G' b = some v → H' b = some v) : Ex (nw G G') (nw H H') := fun b v h => by
  unfold nw at h ⊢
  by_cases z : G b = none
  · rw [if_pos z] at h
    rw [if_pos (hd b z)]
    exact hv b v z h
  · rw [if_neg z] at h; cases h
theorem nw_ex {H H' : Hp} : Ex (nw H H') H' := fun b v h => by
  unfold nw at h
  by_cases z : H b = none
  · rw [if_pos z] at h; exact h
  · rw [if_neg z] at h; cases h
theorem nw_at {H H' : Hp} {b : Addr} {o : HO} (h : H b = none) (h' : H' b = some o) : nw H H' b = some o := by unfold nw; rw [if_pos h]; exact h'
theorem ne_of_some {H : Hp} {a b : Addr} {o : HO} (h : H a = some o) (h' : H b = none) : b ≠ a := fun z => by rw [z, h] at h'; cases h'
def LisS (K : PySem.W.Frag) [TxtK K] (w : World) (rs : List Row) : Prop := ∀ (k : Nat), deps rs + 1 ≤ k → ∀ (H : Hp) (Q : VK) (E : XK) (xs ys : List V) (p : Addr), xs = [.ref p] → (SqL K H p ys ∨ SqT K H p ys) → RowsA true H rs ys → szs rs ≤ 40000 →
  (∀ a zs H', Ex H H' → H a = none → H' a = some (.lst zs) → RowsA false (nw H H') rs zs → Q (.ref a) H') → Gam K w k .law_lists xs H Q E
theorem lis_of : ∀ (rs : List Row), (∀ r ∈ rs, ∀ b, Itm.b b ∈ r.items → LisS K w b) → LisS K w rs := by
  intro rs hs k hk H Q E xs ys p hv hp hr hsz q
  obtain ⟨k, rfl⟩ : ∃ m, k = m + 1 := ⟨k - 1, by omega⟩
  subst hv
  refine ⟨rfl, ?_⟩
  unfold rd_law_lists
  refine k_start ?_
  walk_at "go"
  rename_i l H1 hl he1 hm1
  refine k_raJ hp (fun m σ H' => ∃ u v x zs, σ = [some (.ref p), some (.ref l), u, v, x] ∧ Ex H H' ∧ H' l = some (.lst zs) ∧ RowsA false (nw H1 H') (rs.take m) zs ∧ ∀ b, H' b = none → H1 b = none) ⟨none, none, none, [], rfl, he1, hm1, rfl, fun b h => h⟩ (fun m σ H' _ ⟨_, _, _, _, _, z, _⟩ => z) ?_ ?_
  · rintro m x σ H' hm ⟨u, v, x', zs, rfl, hx, hw, hz, hkl⟩
    obtain ⟨r, hrr, hra⟩ := hr.at hm
    have hmem := List.mem_of_getElem? hrr
    have hd := dep_at hrr
    have hs2 := sz_at hrr
    have htk : rs.take (m + 1) = rs.take m ++ [r] := by rw [List.take_succ, hrr]; rfl
    obtain ⟨a, vs, rfl, ha, hi⟩ := (RowA.ex hx r hra).its
    have hlz := hz.len
    have hlr := len_szs rs
    have hil := (items_len r).2
    have hvl := hi.len
    dsimp only [List.set]
    walk_at "go"
    rename_i l2 G1 hl2 he2 hm2
    refine k_raJ (.inr (sqT_of ha)) (fun j σ G => ∃ x us, σ = [some (.ref p), some (.ref l), some (.ref a), some (.ref l2), x] ∧ Ex H' G ∧ G l2 = some (.lst us) ∧ ItsA false (nw G1 G) (r.items.take j) us ∧ ∀ b, G b = none → G1 b = none) ⟨x', [], rfl, he2, hm2, rfl, fun b h => h⟩ (fun j σ G _ ⟨_, _, _, z, _⟩ => z) ?_ ?_
    · rintro j x σ G hj ⟨x2, us, rfl, hg, hu, hits, hdm⟩
      obtain ⟨it, hit, hv⟩ := hi.at hj
      have htk2 : r.items.take (j + 1) = r.items.take j ++ [it] := by rw [List.take_succ, hit]; rfl
      have hul := hits.len
      have hulen : us.length ≤ 5 := by rw [hul, List.length_take]; omega
      rw [htk2]
      dsimp only [List.set]
      cases it with
      | s v =>
        obtain ⟨rfl, hsc⟩ := hv
        have hle : Ex (nw G1 G) (nw G1 (upd G l2 (.lst (us ++ [x])))) := nw_le (fun b h => h) fun b v h1 h2 => by rw [upd_ne (ne_of_some hm2 h1)]; exact h2
        have hsnoc : ItsA false (nw G1 (upd G l2 (.lst (us ++ [x])))) (r.items.take j ++ [.s x]) (us ++ [x]) := (hits.ex hle).snoc ⟨rfl, hsc⟩
        have hdm2 : ∀ b, upd G l2 (.lst (us ++ [x])) b = none → G1 b = none := fun b h => by
          by_cases z : b = l2
          · rw [z, upd_same] at h; cases h
          · rw [upd_ne z] at h; exact hdm b h
        rcases hsc with ⟨s, rfl⟩ | ⟨n', rfl⟩
        · walk_at "go"
          exact ⟨_, _, rfl, hg.new' hl2, upd_same, hsnoc, hdm2⟩
        · walk_at "go"
          exact ⟨_, _, rfl, hg.new' hl2, upd_same, hsnoc, hdm2⟩
      | b bs =>
        obtain ⟨pb, rfl, ys, hp, hr⟩ := hv
        have hpt : H' pb = some (.tup ys) := hp.elim id fun z => by cases z.1
        have hpt' := hg.at hpt
        have hmb := List.mem_of_getElem? hit
        obtain ⟨d1, d2, _⟩ := items_b hmb
        walk_at "go"
        refine hs r hmem bs hmb k (by omega) _ _ _ _ ys pb rfl (.inr (sqT_of hpt')) (RowsA.ex hg _ hr) (by omega) fun q ws G2 he3 hqn hq hrw => ?_
        have hu2 := he3.at hu
        have hqd : ∀ b, G b = none → b ≠ l2 := fun b h => ne_of_some hu h
        walk_at "go"
        refine ⟨_, _, rfl, (hg.trans he3).new' hl2, upd_same, (hits.ex (nw_le (fun b h => h) fun b v h1 h2 => ?_)).snoc ⟨q, rfl, ws, .inr ⟨rfl, nw_at (hdm _ hqn) ?_⟩, RowsA.ex (nw_le hdm fun b v h1 h2 => ?_) _ hrw⟩, fun b h => ?_⟩
        · rw [upd_ne (ne_of_some hm2 h1)]; exact he3.at h2
        · rw [upd_ne (hqd _ hqn)]; exact hq
        · rw [upd_ne (hqd _ h1)]; exact h2
        · by_cases z : b = l2
          · rw [z, upd_same] at h; cases h
          · rw [upd_ne z] at h; exact hdm b (he3.none h)
    · rintro σ G ⟨x2, us, rfl, hg, hu, hits, hdm⟩
      rw [hvl, List.take_length] at hits
      have hlG1 := he2.at hw
      have hwG := hg.at hw
      walk_at "go"
      rename_i pt G3 hpt he4 hm4
      have hwG3 := he4.at hwG
      have hzl : zs.length ≤ 40000 := by rw [hlz, List.length_take]; omega
      walk_at "go"
      have hG1 : ∀ b, G1 b = none → H1 b = none := fun b h => hkl b (he2.none h)
      have hGn : ∀ b, G b = none → H1 b = none := fun b h => hG1 b (hdm b h)
      refine ⟨_, _, _, zs ++ [.ref pt], rfl, (hx.trans (hg.trans he4)).new' hl, upd_same, ?_, fun b h => ?_⟩
      · rw [htk]
        refine RowsA.snoc (RowsA.ex (nw_le (fun b h => h) fun b v h1 h2 => ?_) _ hz) (RowA.ofIts (nw_at (hGn _ hpt) ?_) (hits.ex (nw_le hG1 fun b v h1 h2 => ?_)))
        · rw [upd_ne (ne_of_some hm1 h1)]; exact he4.at (hg.at h2)
        · rw [upd_ne (ne_of_some hwG hpt)]; exact hm4
        · rw [upd_ne (ne_of_some hlG1 h1)]; exact he4.at h2
      · by_cases z : b = l
        · rw [z, upd_same] at h; cases h
        · rw [upd_ne z] at h; exact hGn b (he4.none h)
  · rintro σ H' ⟨u, v, x, zs, rfl, hx, hw, hz, _⟩
    rw [hr.len, List.take_length] at hz
    walk_at "go"
    exact q l zs H' hx hl hw (RowsA.ex (nw_le (fun b h => he1.none h) fun b v h1 h2 => h2) _ hz)
theorem s_law_lists (rs : List Row) : LisS K w rs := lis_of rs fun r hr b hb => s_law_lists b
termination_by sizeOf rs
decreasing_by
  have h1 := (items_b hb).2.2
  have h2 := List.sizeOf_lt_of_mem hr
  omega
end
end L2.MP

set_option Elab.async false
set_option linter.all false
set_option maxRecDepth 100000
set_option maxHeartbeats 4000000
namespace L2.MP
open PySem PySem.Spec PyProof.Rows L2
/-! ### the stepping tactic -/
local macro_rules | `(tactic| walk_at "ne") => `(tactic| first
  | with_reducible assumption
  | ((with_reducible apply Ne.symm); with_reducible assumption)
  | ((with_reducible refine' ne_of_none ?a ?b); (case b => with_reducible assumption); (case a => walk_at "hp"))
  | ((with_reducible apply Ne.symm); (with_reducible refine' ne_of_none ?a ?b); (case b => with_reducible assumption); (case a => walk_at "hp"))
  | (refine' ne_of (by with_reducible assumption) (by with_reducible assumption) ?_; intro z; cases z))
local macro_rules | `(tactic| walk_at "hs") => `(tactic| first
  | with_reducible assumption
  | with_reducible exact upd_same
  | ((with_reducible apply up_new); (with_reducible assumption))
  | ((with_reducible apply Ex.at); (with_reducible assumption))
  | ((with_reducible apply up_ne); (walk_at "ne")))
local macro_rules | `(tactic| walk_at "hp") => `(tactic| ((repeat walk_at "hs"); done))
local macro_rules | `(tactic| walk_at "ss") => `(tactic| first
  | with_reducible assumption
  | ((with_reducible apply sqL_of); first | with_reducible assumption | with_reducible exact upd_same)
  | ((with_reducible apply sqT_of); first | with_reducible assumption | with_reducible exact upd_same)
  | ((with_reducible apply up_sqL); (with_reducible assumption))
  | ((with_reducible apply up_sqT); (with_reducible assumption))
  | ((with_reducible apply Ex.sqL); (with_reducible assumption))
  | ((with_reducible apply Ex.sqT); (with_reducible assumption))
  | ((with_reducible apply sqL_ne); (walk_at "ne"))
  | ((with_reducible apply sqT_ne); (walk_at "ne")))
local macro_rules | `(tactic| walk_at "sq") => `(tactic| ((repeat walk_at "ss"); done))
local macro_rules | `(tactic| walk_at "fl") => `(tactic| first
  | exact rfl
  | decide +kernel
  | (simp [flatOk, flat1]; done)
  | ((simp [flatOk, flat1]); decide +kernel))
local macro_rules | `(tactic| walk_at "ib") => `(tactic| first
  | omega
  | (refine Int.emod_nonneg _ ?_; omega)
  | (refine Int.emod_lt_of_pos _ ?_; omega))
local macro_rules | `(tactic| walk_at "ex") => `(tactic| first
  | with_reducible exact Ex.refl _
  | with_reducible assumption
  | ((with_reducible refine' Ex.trans ?a ?b); (case b => with_reducible assumption); (case a => walk_at "ex"))
  | ((with_reducible refine' Ex.new' ?a ?b); (case b => walk_at "nn"); (case a => walk_at "ex")))
local macro_rules | `(tactic| walk_at "nn") => `(tactic| first
  | with_reducible assumption
  | ((with_reducible refine' Ex.none ?a ?b); (case b => with_reducible assumption); (case a => walk_at "ex")))
local macro_rules | `(tactic| walk_at "bt") => `(tactic| first
  | exact rfl
  | (simp only [Bool.not_true, Bool.not_false, Bool.true_or, Bool.false_or, Bool.true_and, Bool.false_and, Bool.or_true, Bool.or_false, Bool.and_true, Bool.and_false, Bool.not_eq_true', Bool.not_eq_false', Bool.or_eq_true, Bool.or_eq_false_iff, Bool.and_eq_true, Bool.and_eq_false_iff, decide_eq_true_eq, decide_eq_false_iff_not] <;> omega)
  | (simp; done)
  | (simp; omega))
local macro_rules | `(tactic| walk_at "len") => `(tactic| first
  | exact Nat.le_of_ble_eq_true rfl
  | (simp only [List.length_cons, List.length_nil, List.length_append, List.length_map]; omega)
  | omega)
local macro_rules | `(tactic| walk_at "un") => `(tactic| fail)
local macro_rules | `(tactic| walk_at "cs") => `(tactic| fail)
local macro_rules | `(tactic| walk_at "st") => `(tactic| first
  | with_reducible refine k_var ?_
  | with_reducible refine k_asgS ?_
  | with_reducible refine k_c ?_
  | with_reducible refine k_op ?_
  | with_reducible refine k_cons ?_
  | with_reducible refine k_nil ?_
  | with_reducible refine k_seq ?_
  | with_reducible refine k_asg ?_
  | with_reducible refine k_cb ?_
  | with_reducible refine k_fld ?_
  | ((with_reducible refine' k_rfld ?h ?i ?j ?q); (case h => walk_at "hp"); (case i => infer_instance); (case j => infer_instance))
  | with_reducible refine k_if ?_
  | with_reducible refine k_test ?_
  | with_reducible refine k_bl ?_
  | with_reducible refine k_tB ?_
  | with_reducible refine k_itT ?_
  | with_reducible refine k_itF ?_
  | with_reducible refine k_next ?_
  | with_reducible refine k_ret ?_
  | with_reducible refine k_call ?_
  | with_reducible refine k_tup ?_
  | ((with_reducible refine' k_newTA ?h ?q); (case h => walk_at "len"); intro p H' hp he hm)
  | with_reducible refine k_lst ?_
  | ((with_reducible refine' k_newLA ?h ?q); (case h => walk_at "len"); intro p H' hp he hm)
  | with_reducible refine k_and ?_
  | with_reducible refine k_or ?_
  | with_reducible refine k_not ?_
  | with_reducible refine k_inot ?_
  | with_reducible refine o_eqI ?_
  | with_reducible refine o_eqB ?_
  | with_reducible refine o_eqS ?_
  | with_reducible refine o_neI ?_
  | with_reducible refine o_neB ?_
  | with_reducible refine o_neS ?_
  | with_reducible refine o_lt ?_
  | with_reducible refine o_le ?_
  | with_reducible refine o_gt ?_
  | with_reducible refine o_ge ?_
  | with_reducible refine o_addI ?_
  | ((with_reducible refine' o_addLA ?h1 ?h2 ?h ?q); (case h1 => walk_at "hp"); (case h2 => walk_at "hp"); (case h => walk_at "len"); intro p H' hp he hm; dsimp only [List.cons_append, List.nil_append] at hm)
  | with_reducible refine o_subI ?_
  | ((with_reducible refine' o_mod ?h ?q); (case h => first | decide | omega))
  | ((with_reducible refine' o_fdiv ?h ?q); (case h => first | exact ⟨by first | decide | omega, by first | decide | omega⟩ | exact ⟨by split <;> decide, by split <;> decide⟩))
  | ((with_reducible refine' o_mulI ?h ?q); (case h => first | exact .inl ⟨by first | decide | omega, by first | decide | omega⟩ | exact .inr ⟨by first | decide | omega, by first | decide | omega⟩))
  | ((with_reducible refine' o_ixTn ?h ?h0 ?e ?q); (case h => walk_at "sq"); (case h0 => decide); (case e => exact rfl))
  | ((with_reducible refine' o_ixLn ?h ?h0 ?e ?q); (case h => walk_at "sq"); (case h0 => decide); (case e => exact rfl))
  | ((with_reducible refine' o_ixD ?h ?h0 ?h1 ?q); (case h => walk_at "sq"); (case h0 => walk_at "ib"); (case h1 => walk_at "ib"))
  | ((with_reducible refine' o_ixSv ?h ?h0 ?h1 ?q); (case h => walk_at "sq"); (case h0 => walk_at "ib"); (case h1 => walk_at "ib"))
  | ((with_reducible refine' o_ix2S ?h ?q); (case h => walk_at "sq"))
  | ((with_reducible refine' o_ix2PT ?h ?hp ?q); (case h => walk_at "sq"); (case hp => omega))
  | ((with_reducible refine' o_ix2PL ?h ?hp ?q); (case h => walk_at "sq"); (case hp => omega))
  | ((with_reducible refine' o_inTI ?h ?c ?q); (case h => walk_at "sq"); (case c => infer_instance))
  | ((with_reducible refine' o_inLI ?h ?c ?q); (case h => walk_at "sq"); (case c => infer_instance))
  | ((with_reducible refine' o_ix2I ?h ?q); (case h => walk_at "sq"))
  | ((with_reducible refine' o_lenLS ?h ?q); (case h => walk_at "sq"))
  | ((with_reducible refine' o_lenLI ?h ?q); (case h => walk_at "sq"))
  | ((with_reducible refine' o_lenL ?h ?q); (case h => walk_at "sq"))
  | ((with_reducible refine' o_lenT ?h ?q); (case h => walk_at "sq"))
  | with_reducible refine' i_plain ?_
  | with_reducible refine' i_plainC ?_
  | ((with_reducible refine' i_insC ?h ?i ?c ?q); (case h => walk_at "hp"); (case i => infer_instance); (case c => infer_instance))
  | ((with_reducible refine' i_lst ?h ?c ?q); (case h => walk_at "hp"); (case c => infer_instance))
  | ((with_reducible refine' i_tup ?h ?c ?q); (case h => walk_at "hp"); (case c => infer_instance))
  | with_reducible refine k_prop ?_
  | ((with_reducible refine' k_rprop ?h ?q); (case h => walk_at "hp"))
  | with_reducible refine k_make ?_
  | with_reducible refine k_makeKS ?_
  | ((with_reducible refine' k_rmkK ?hl ?hg ?q); (case hl => exact rfl); (case hg => exact fun _ => rfl))
  | with_reducible refine k_meth ?_
  | ((with_reducible refine' k_rmeth ?h ?i ?q); (case h => walk_at "hp"); (case i => infer_instance))
  | with_reducible refine k_andV ?_
  | with_reducible refine k_orV ?_
  | with_reducible refine k_notV ?_
  | with_reducible refine k_rand ?_
  | with_reducible refine k_rnot ?_
  | with_reducible refine k_un ?_
  | with_reducible refine k_ifE ?_
  | with_reducible refine k_randT ?_
  | with_reducible refine k_randF ?_
  | with_reducible refine k_rorT ?_
  | with_reducible refine k_rorF ?_
  | with_reducible refine k_randtT ?_
  | with_reducible refine k_randtF ?_
  | with_reducible refine k_rortT ?_
  | with_reducible refine k_rortF ?_
  | ((with_reducible refine' k_randP ?h2 ?q); (case h2 => intro _ hq; (walk_at "go"); with_reducible exact hq))
  | ((with_reducible refine' k_rorP ?h2 ?q); (case h2 => intro _ hq; (walk_at "go"); with_reducible exact hq))
  | with_reducible refine k_randS ?_
  | with_reducible refine k_rorS ?_
  | ((with_reducible refine' k_rifI ?h1 ?h2 ?q); (case h1 => intro _ hq; (walk_at "go"); with_reducible exact hq); (case h2 => intro _ hq; (walk_at "go"); with_reducible exact hq))
  | with_reducible refine k_rifS ?_
  | ((with_reducible refine' k_randtP ?h2 ?q); (case h2 => intro _ hq; (walk_at "go"); with_reducible exact hq))
  | ((with_reducible refine' k_rortP ?h2 ?q); (case h2 => intro _ hq; (walk_at "go"); with_reducible exact hq))
  | with_reducible refine k_randtS ?_
  | with_reducible refine k_rortS ?_
  | ((with_reducible refine' k_own ?h ?i ?q); (case h => walk_at "hp"); (case i => walk_at "hp"))
  | ((with_reducible refine' k_ownI ?h ?q); (case h => walk_at "hp"))
  | ((with_reducible refine' k_ownA ?h ?q); (case h => walk_at "hp"))
  | with_reducible refine k_aug ?_
  | with_reducible refine o_addIp ?_
  | with_reducible refine k_drop ?_
  | with_reducible refine k_fldp ?_
  | ((with_reducible refine' k_rputU ?i ?j ?q); (case i => infer_instance); (case j => infer_instance))
  | ((with_reducible refine' k_rput ?h ?i ?j ?q); (case h => walk_at "hp"); (case i => infer_instance); (case j => infer_instance))
  | ((with_reducible refine' k_dispA ?h ?q); (case h => exact Nat.le_of_ble_eq_true rfl); intro p H' hp he hm)
  | with_reducible refine k_newK ?_
  | ((with_reducible refine' k_newDA ?q); intro p H' hp he hm)
  | with_reducible refine k_dget ?_
  | with_reducible refine k_dget2 ?_
  | ((with_reducible refine' k_rdgetC ?h ?e ?q); (case h => walk_at "hp"); (case e => infer_instance))
  | ((with_reducible refine' k_rdg2 ?h ?q); (case h => walk_at "hp"))
  | ((with_reducible refine' k_rdo ?h ?q); (case h => walk_at "hp"))
  | with_reducible refine k_dput ?_
  | ((with_reducible refine' k_rdputU ?hl ?e ?q); (case hl => exact Nat.le_of_ble_eq_true rfl); (case e => infer_instance))
  | ((with_reducible refine' k_rdputC ?h ?hl ?e ?q); (case h => walk_at "hp"); (case hl => exact Nat.le_of_ble_eq_true rfl); (case e => infer_instance))
  | with_reducible refine k_m1 ?_
  | with_reducible refine k_rm1 ?_
  | with_reducible refine k_bm ?_
  | ((with_reducible refine' k_rbmL ?h ?q); (case h => walk_at "sq"))
  | ((with_reducible refine' o_appendU ?hl ?q); (case hl => walk_at "len"))
  | ((with_reducible refine' o_append ?h ?hl ?q); (case h => walk_at "hp"); (case hl => walk_at "len"))
  | with_reducible refine k_ownIx ?_
  | ((with_reducible refine' k_rownIx ?h ?q); (case h => walk_at "hp"))
  | with_reducible refine k_ownPut ?_
  | ((with_reducible refine' k_rownPut ?h ?q); (case h => walk_at "hp"))
  | ((with_reducible refine' o_inT ?h ?q); (case h => walk_at "sq"))
  | ((with_reducible refine' o_ninT ?h ?q); (case h => walk_at "sq"))
  | ((with_reducible refine' o_inL ?h ?q); (case h => walk_at "sq"))
  | ((with_reducible refine' o_ninL ?h ?q); (case h => walk_at "sq"))
  | with_reducible refine o_pow18 ?_
  | with_reducible refine o_pow9 ?_
  | with_reducible refine o_pow30 ?_
  | with_reducible refine o_isB ?_
  | with_reducible refine o_neg ?_
  | with_reducible refine o_isN ?_
  | with_reducible refine o_notN ?_
  | with_reducible refine o_max ?_
  | with_reducible refine o_min ?_
  | with_reducible refine o_intI ?_
  | with_reducible refine o_intB ?_
  | with_reducible refine o_abs ?_
  | with_reducible refine k_forR1 ?_
  | with_reducible refine k_forR2 ?_
  | with_reducible refine k_forL ?_
  | with_reducible refine k_forT ?_
  | ((with_reducible refine' k_turnR ?e ?q); (case e => exact rfl))
  | with_reducible refine k_doneR ?_
  | ((with_reducible refine' k_turnL ?h ?q); (case h => walk_at "sq"))
  | ((with_reducible refine' k_doneL ?h ?q); (case h => walk_at "sq"))
  | ((with_reducible refine' k_turnT ?h ?q); (case h => walk_at "sq"))
  | ((with_reducible refine' k_doneT ?h ?q); (case h => walk_at "sq"))
  | with_reducible refine k_forA ?_
  | with_reducible refine k_lcA ?_
  | ((with_reducible refine' o_tupL ?h ?q); (case h => walk_at "sq"); intro p H' hp he hm)
  | ((with_reducible refine' o_lisL ?h ?q); (case h => walk_at "sq"); intro p H' hp he hm)
  | ((with_reducible refine' o_lisT ?h ?q); (case h => walk_at "sq"); intro p H' hp he hm)
  | ((with_reducible refine' o_tupT ?h ?q); (case h => walk_at "sq"))
  | with_reducible refine k_dyn ?_
  | ((with_reducible refine' k_rdyn ?h ?i ?c ?q); (case h => walk_at "hp"); (case i => infer_instance); (case c => infer_instance))
  | with_reducible refine k_brk ?_
  | with_reducible refine k_cont ?_
  | with_reducible refine k_raise ?_
  | with_reducible refine k_retN ?_
  | walk_at "un"
  | walk_at "cs"
  | ((with_reducible refine' k_itdT ?h ?q); (case h => first | with_reducible assumption | omega | decide))
  | ((with_reducible refine' k_itdF ?h ?q); (case h => first | with_reducible assumption | omega | decide))
  | ((with_reducible refine' k_ifT ?h ?q); (case h => walk_at "bt"))
  | ((with_reducible refine' k_ifF ?h ?q); (case h => walk_at "bt")))
local macro_rules | `(tactic| walk_at "go") => `(tactic| repeat walk_at "st")
local macro_rules | `(tactic| walk_at "sp") => `(tactic| repeat' (first | walk_at "st" | refine k_itd (fun h => ?_) (fun h => ?_) | refine k_itb (fun h => ?_) (fun h => ?_)))
local macro_rules | `(tactic| walk_at "cs") => `(tactic| ((with_reducible refine' o_inTS ?h ?c ?q); (case h => walk_at "sq"); (case c => infer_instance)))
section
variable {K : PySem.W.Frag} [TxtK K] {w : World} {k : Nat} {H : Hp} {Q : VK} {E : XK} {xs : List V}
def kindN : Row → Str
  | .take _ _ => ("take" : Str) | .set _ _ => ("set" : Str) | .work _ _ _ _ => ("work" : Str) | .prn _ _ => ("print" : Str) | .test _ _ _ => ("test" : Str) | .loop _ _ _ => ("loop" : Str) | .guard _ _ => ("guard" : Str) | .call _ => ("call" : Str) | .leave => ("leave" : Str)
def KNDS : List Str := ["take", "set", "work", "print", "test", "loop", "guard", "call", "leave"]
def dueB (s : Str) : List Bool := KNDS.map (fun x => decide (s = x)) ++ [true, decide (s ∈ (["take", "set", "work"] : List Str)), decide (s ∈ (["work", "print", "test", "loop"] : List Str)), decide (s ∈ (["test", "loop", "guard", "call"] : List Str)), decide (s ∈ (["loop", "guard", "call"] : List Str))]
theorem s_law_kinds {r : Row} {v : V} {ps : List V} (hv : xs = [v]) (h : StH K H r v ps) (q : ∀ p H', Ex H H' → H' p = some (.lst ((dueB (kindN r)).map V.bl)) → Q (.ref p) H') : Gam K w (k + 1) .law_kinds xs H Q E := by
  obtain ⟨a, dx, x, rd, p, rfl, h1, h2, h3, h4⟩ := h
  subst hv
  cases r with
  | take n i =>
    dsimp only [clsN] at h1
    refine ⟨rfl, ?_⟩
    unfold rd_law_kinds
    refine k_start ?_
    walk_at "go"
    rename_i p' H' _ he hm
    have e : dueB (("take" : Str)) = [true, false, false, false, false, false, false, false, false, true, true, false, false, false] := by decide +kernel
    exact q p' H' (by walk_at "ex") (by dsimp only [kindN]; rw [e]; exact hm)
  | set n i =>
    dsimp only [clsN] at h1
    refine ⟨rfl, ?_⟩
    unfold rd_law_kinds
    refine k_start ?_
    walk_at "go"
    rename_i p' H' _ he hm
    have e : dueB (("set" : Str)) = [false, true, false, false, false, false, false, false, false, true, true, false, false, false] := by decide +kernel
    exact q p' H' (by walk_at "ex") (by dsimp only [kindN]; rw [e]; exact hm)
  | work n l r i =>
    dsimp only [clsN] at h1
    refine ⟨rfl, ?_⟩
    unfold rd_law_kinds
    refine k_start ?_
    walk_at "go"
    rename_i p' H' _ he hm
    have e : dueB (("work" : Str)) = [false, false, true, false, false, false, false, false, false, true, true, true, false, false] := by decide +kernel
    exact q p' H' (by walk_at "ex") (by dsimp only [kindN]; rw [e]; exact hm)
  | prn c n =>
    dsimp only [clsN] at h1
    refine ⟨rfl, ?_⟩
    unfold rd_law_kinds
    refine k_start ?_
    walk_at "go"
    rename_i p' H' _ he hm
    have e : dueB (("print" : Str)) = [false, false, false, true, false, false, false, false, false, true, false, true, false, false] := by decide +kernel
    exact q p' H' (by walk_at "ex") (by dsimp only [kindN]; rw [e]; exact hm)
  | test n a b =>
    dsimp only [clsN] at h1
    refine ⟨rfl, ?_⟩
    unfold rd_law_kinds
    refine k_start ?_
    walk_at "go"
    rename_i p' H' _ he hm
    have e : dueB (("test" : Str)) = [false, false, false, false, true, false, false, false, false, true, false, true, true, false] := by decide +kernel
    exact q p' H' (by walk_at "ex") (by dsimp only [kindN]; rw [e]; exact hm)
  | loop n i b =>
    dsimp only [clsN] at h1
    refine ⟨rfl, ?_⟩
    unfold rd_law_kinds
    refine k_start ?_
    walk_at "go"
    rename_i p' H' _ he hm
    have e : dueB (("loop" : Str)) = [false, false, false, false, false, true, false, false, false, true, false, true, true, true] := by decide +kernel
    exact q p' H' (by walk_at "ex") (by dsimp only [kindN]; rw [e]; exact hm)
  | guard a b =>
    dsimp only [clsN] at h1
    refine ⟨rfl, ?_⟩
    unfold rd_law_kinds
    refine k_start ?_
    walk_at "go"
    rename_i p' H' _ he hm
    have e : dueB (("guard" : Str)) = [false, false, false, false, false, false, true, false, false, true, false, false, true, true] := by decide +kernel
    exact q p' H' (by walk_at "ex") (by dsimp only [kindN]; rw [e]; exact hm)
  | call b =>
    dsimp only [clsN] at h1
    refine ⟨rfl, ?_⟩
    unfold rd_law_kinds
    refine k_start ?_
    walk_at "go"
    rename_i p' H' _ he hm
    have e : dueB (("call" : Str)) = [false, false, false, false, false, false, false, true, false, true, false, false, true, true] := by decide +kernel
    exact q p' H' (by walk_at "ex") (by dsimp only [kindN]; rw [e]; exact hm)
  | leave =>
    dsimp only [clsN] at h1
    refine ⟨rfl, ?_⟩
    unfold rd_law_kinds
    refine k_start ?_
    walk_at "go"
    rename_i p' H' _ he hm
    have e : dueB (("leave" : Str)) = [false, false, false, false, false, false, false, false, true, true, false, false, false, false] := by decide +kernel
    exact q p' H' (by walk_at "ex") (by dsimp only [kindN]; rw [e]; exact hm)
theorem s_law_due {s : Str} (hv : xs = [.str s]) (q : ∀ p H', Ex H H' → H' p = some (.lst ((dueB s).map V.bl)) → Q (.ref p) H') : Gam K w (k + 1) .law_due xs H Q E := by
  subst hv
  refine ⟨rfl, ?_⟩
  unfold rd_law_due
  refine k_start ?_
  walk_at "go"
  rename_i p0 H0 hp0 he0 hm0
  refine k_lcI (j := 0) (xs := KNDS.map V.str) (.inl (sqL_of hm0)) (fun D m H' => Ex H0 H' ∧ H' D = some (.lst ((KNDS.take m).map fun x => V.bl (decide (s = x))))) (fun D hD => ⟨Ex.new hD, upd_same⟩) (fun D m H' hD _ ⟨hx, _⟩ => ⟨hx.sqL, hx.sqT⟩) (fun D m x H' hD hm ⟨hx, hz⟩ => ?_) (fun D H' hD ⟨hx, hz⟩ => ?_)
  · obtain ⟨z, hs, rfl⟩ : ∃ z, KNDS[m]? = some z ∧ x = .str z := by
      rw [List.getElem?_map] at hm
      cases hh : KNDS[m]? with
      | none => rw [hh] at hm; cases hm
      | some s => rw [hh] at hm; exact ⟨s, rfl, (Option.some.inj hm).symm⟩
    refine ⟨rfl, ?_⟩
    unfold tYes
    dsimp only [wipe, List.set]
    rw [if_pos rfl]
    walk_at "go"
    refine ⟨_, hz, szl_of (by rw [List.length_map, List.length_take]; have : KNDS.length = 9 := rfl; omega), hx.new' hD, ?_⟩
    rw [upd_same, List.take_succ, hs]; simp
  · rw [List.length_map, List.take_length] at hz
    simp only [KNDS, List.map_cons, List.map_nil] at hz
    walk_at "go"
    rename_i p1 H1 hp1 he1 hm1
    refine q p1 H1 (by walk_at "ex") (hm1.trans ?_)
    simp only [dueB, KNDS, List.map_cons, List.map_nil, List.map_append, List.cons_append, List.nil_append, List.append_assoc]
theorem s_law_reads {r : Row} {v : V} (hv : xs = [v]) (h : RowA true H r v) (q : ∀ p H', Ex H H' → H' p = some (.lst ((rds r).map V.str)) → Q (.ref p) H') : Gam K w (k + 1) .law_reads xs H Q E := by
  obtain ⟨a, vs, rfl, ha, hi⟩ := h.its
  subst hv
  refine ⟨rfl, ?_⟩
  unfold rd_law_reads
  refine k_start ?_
  cases r with
  | take n i =>
    obtain ⟨_, _, rfl, ⟨rfl, _⟩, _, _, rfl, ⟨rfl, _⟩, _, _, rfl, ⟨rfl, _⟩, rfl⟩ := id hi
    walk_at "go"
    rename_i p' H' hp he hm
    exact q p' H' he hm
  | set n i =>
    obtain ⟨_, _, rfl, ⟨rfl, _⟩, _, _, rfl, ⟨rfl, _⟩, _, _, rfl, ⟨rfl, _⟩, rfl⟩ := id hi
    walk_at "go"
    rename_i p' H' hp he hm
    exact q p' H' he hm
  | work n l r i =>
    obtain ⟨_, _, rfl, ⟨rfl, _⟩, _, _, rfl, ⟨rfl, _⟩, _, _, rfl, ⟨rfl, _⟩, _, _, rfl, ⟨rfl, _⟩, _, _, rfl, ⟨rfl, _⟩, rfl⟩ := id hi
    walk_at "go"
    rename_i p' H' hp he hm
    exact q p' H' he hm
  | prn c n =>
    obtain ⟨_, _, rfl, ⟨rfl, _⟩, _, _, rfl, ⟨rfl, _⟩, _, _, rfl, ⟨rfl, _⟩, rfl⟩ := id hi
    walk_at "go"
    rename_i p' H' hp he hm
    exact q p' H' he hm
  | test n x y =>
    obtain ⟨_, _, rfl, ⟨rfl, _⟩, _, _, rfl, ⟨rfl, _⟩, _, _, rfl, ⟨p, rfl, _⟩, _, _, rfl, ⟨q1, rfl, _⟩, rfl⟩ := id hi
    walk_at "go"
    rename_i p' H' hp he hm
    exact q p' H' he hm
  | loop n i x =>
    obtain ⟨_, _, rfl, ⟨rfl, _⟩, _, _, rfl, ⟨rfl, _⟩, _, _, rfl, ⟨rfl, _⟩, _, _, rfl, ⟨p, rfl, _⟩, rfl⟩ := id hi
    walk_at "go"
    rename_i p' H' hp he hm
    exact q p' H' he hm
  | guard x y =>
    obtain ⟨_, _, rfl, ⟨rfl, _⟩, _, _, rfl, ⟨p, rfl, _⟩, _, _, rfl, ⟨q1, rfl, _⟩, rfl⟩ := id hi
    walk_at "go"
    rename_i p' H' hp he hm
    exact q p' H' he hm
  | call x =>
    obtain ⟨_, _, rfl, ⟨rfl, _⟩, _, _, rfl, ⟨p, rfl, _⟩, rfl⟩ := id hi
    walk_at "go"
    rename_i p' H' hp he hm
    exact q p' H' he hm
  | leave =>
    obtain ⟨_, _, rfl, ⟨rfl, _⟩, rfl⟩ := id hi
    walk_at "go"
    rename_i p' H' hp he hm
    exact q p' H' he hm
end
section
variable {K : PySem.W.Frag} [TxtK K] {w : World}
theorem nm_str {n : Str} (h : nmOk n) : PyData.strOk n = true := by
  obtain ⟨_, _, _, h⟩ := h
  have key : ∀ c ∈ ("abcdefghijklmnopqrstuvwxyz0123456789" : Str).cps.toList, c < 0x110000 := by decide +kernel
  unfold PyData.strOk
  rw [Array.all_eq_true]
  intro i hi
  simp only [decide_eq_true_eq]
  exact key _ (h i _ (Array.getElem?_eq_getElem hi))
theorem flat_nms {l : List Str} (h : ∀ n ∈ l, nmOk n) : flatOk (l.map V.str) = true := by
  unfold flatOk
  rw [List.all_eq_true]
  intro x hx
  obtain ⟨n, hn, rfl⟩ := List.mem_map.mp hx
  exact nm_str (h n hn)
theorem onc_mem {n : Str} : ∀ (l acc : List Str), n ∈ onc acc l → n ∈ acc ∨ n ∈ l
  | [], acc, h => .inl h
  | x :: l, acc, h => by
    have h' : n ∈ onc (if x ∈ acc then acc else acc ++ [x]) l := h
    rcases onc_mem l _ h' with z | z
    · split at z
      · exact .inl z
      · rcases List.mem_append.mp z with z | z
        · exact .inl z
        · simp only [List.mem_cons, List.not_mem_nil, or_false] at z; exact .inr (by rw [z]; exact List.mem_cons_self)
    · exact .inr (List.mem_cons_of_mem _ z)
mutual
theorem wf_wrn {nin : Nat} {nm : Str → Prop} {top : Int} {lv : Bool} {n : Str} : ∀ (r : Row), r.wf nin nm top lv → n ∈ r.wrn → nm n
  | .take _ _, h, z => by simp only [Row.wrn, List.mem_cons, List.not_mem_nil, or_false] at z; rw [z]; exact h.1
  | .set _ _, h, z => by simp only [Row.wrn, List.mem_cons, List.not_mem_nil, or_false] at z; rw [z]; exact h.1
  | .work _ _ _ _, h, z => by simp only [Row.wrn, List.mem_cons, List.not_mem_nil, or_false] at z; rw [z]; exact h.1
  | .prn _ _, h, z => by simp [Row.wrn] at z
  | .leave, h, z => by simp [Row.wrn] at z
  | .test _ a b, h, z => by
    have h1 := wfs_wrn (n := n) a h.2.1
    have h2 := wfs_wrn (n := n) b h.2.2
    rcases List.mem_append.mp z with z | z
    · exact h1 z
    · exact h2 z
  | .loop _ _ b, h, z => wfs_wrn b h.2.2.2 z
  | .guard a b, h, z => by
    have h1 := wfs_wrn (n := n) a h.1
    have h2 := wfs_wrn (n := n) b h.2
    rcases List.mem_append.mp z with z | z
    · exact h1 z
    · exact h2 z
  | .call b, h, z => wfs_wrn b h z
theorem wfs_wrn {nin : Nat} {nm : Str → Prop} {top : Int} {lv : Bool} {n : Str} : ∀ (rs : List Row), wfs nin nm top lv rs → n ∈ wrns rs → nm n
  | [], h, z => by simp [wrns] at z
  | r :: rs, h, z => by
    have h1 := wf_wrn (n := n) r h.1
    have h2 := wfs_wrn (n := n) rs h.2
    rcases List.mem_append.mp z with z | z
    · exact h1 z
    · exact h2 z
end
theorem wf_rds {nin : Nat} {nm : Str → Prop} {top : Int} {lv : Bool} {n : Str} {r : Row} (h : r.wf nin nm top lv) (z : n ∈ rds r) : nm n := by
  cases r with
  | work _ _ _ _ =>
    simp only [rds, List.mem_cons, List.not_mem_nil, or_false] at z
    rcases z with rfl | rfl
    · exact h.2.1
    · exact h.2.2.1
  | prn _ _ => simp only [rds, List.mem_cons, List.not_mem_nil, or_false] at z; rw [z]; exact h.1
  | test _ _ _ => simp only [rds, List.mem_cons, List.not_mem_nil, or_false] at z; rw [z]; exact h.1
  | loop _ _ _ => simp only [rds, List.mem_cons, List.not_mem_nil, or_false] at z; rw [z]; exact h.1
  | _ => simp [rds] at z
theorem rds_len (r : Row) : (rds r).length ≤ 2 := by cases r <;> simp [rds]
theorem s_law_fits {r : Row} {t : Bool} {k : Nat} {H : Hp} {Q : VK} {E : XK} {xs : List V} {va vg : V} {nin : Nat} {top : Int} {lv : Bool} (hv : xs = [va, vg]) (hk : 3 * r.dep + 9 ≤ k) (h1 : RowA true H r va) (h2 : RowA t H r vg) (hw : r.wf nin nmOk top lv) (hn : nin ≤ 16) (ht : top ≤ 3) (hd : r.dep ≤ 3) (hsz : r.sz ≤ 30000)
    (q : ∀ H', Ex H H' → Q (.bl true) H') : Gam K w k .law_fits xs H Q E := by
  obtain ⟨k, rfl⟩ : ∃ m, k = m + 9 := ⟨k - 9, by omega⟩
  have hlo : r.lo ≤ 3 := by have := (lo_dep r).2; omega
  subst hv
  refine ⟨rfl, ?_⟩
  unfold rd_law_fits
  refine k_start ?_
  walk_at "go"
  refine s_build_step r t (k + 8) (by omega) _ _ _ _ vg 0 nin top lv rfl h2 hw hn ht (by omega) (by omega) (by omega) hlo fun x H1 he1 hst => ?_
  walk_at "go"
  refine s_row r (k + 7) (by omega) _ _ _ _ _ hst (by omega) fun a H2 he2 hra => ?_
  have h1' := RowA.ex (he1.trans he2) r h1
  walk_at "go"
  refine same_row hra h1' (by omega) H2 (Ex.refl _) (k + 8) (by omega) _ _ _ rfl fun H3 he3 => ?_
  walk_at "go"
  have he13 := he2.trans he3
  obtain ⟨ps, hh⟩ := (hst.ex he13).hd
  refine s_law_kinds (k := k + 7) rfl hh fun p1 H4 he4 hm4 => ?_
  have he04 := he1.trans (he13.trans he4)
  obtain ⟨av, vs, rfl, hav, hi⟩ := (RowA.ex he04 r h1).its
  have hk0 : ∃ rest, vs = .str (kindN r) :: rest := by
    cases r <;> (obtain ⟨_, _, rfl, ⟨rfl, _⟩, _⟩ := hi; exact ⟨_, rfl⟩)
  obtain ⟨rest, rfl⟩ := hk0
  walk_at "go"
  refine s_law_due (k := k + 7) rfl fun p2 H5 he5 hm5 => ?_
  have hfl : flatOk ((dueB (kindN r)).map V.bl) = true := by unfold flatOk; rw [List.all_map]; exact List.all_eq_true.mpr fun x _ => rfl
  refine o_neLsame (sqL_of (he5.at hm4)) (sqL_of hm5) hfl ?_
  walk_at "go"
  have hst5 := (hst.ex (he13.trans (he4.trans he5)))
  obtain ⟨ps5, hh5⟩ := hst5.hd
  refine hh5.fw fun xw hxw => ?_
  walk_at "go"
  refine hh5.fr fun xr hxr => ?_
  walk_at "go"
  refine hh5.fw fun xw hxw => ?_
  have l1 := wr_len r
  have l2 := rds_len r
  walk_at "go"
  rename_i pw G1 hpw hew hmw pl G2 hpl hel hml
  have he5' := he04.trans (he5.trans (hew.trans hel))
  refine s_law_written [r] (k + 8) (by simp only [deps]; omega) _ _ _ _ [.ref av] pl rfl (.inl (sqL_of hml)) ⟨_, [], rfl, RowA.ex he5' r h1, rfl⟩ (by simp only [szs]; omega) fun p3 G3 he7 hm7 => ?_
  have lw := wrns_len [r]
  simp only [szs] at lw
  walk_at "go"
  refine s_law_once (k := k + 7) (l := wrns [r]) rfl (sqL_of hm7) (by omega) fun p4 G4 he8 hm8 => ?_
  have e : onc [] (wrns [r]) = r.wr := by rw [wr_onc]; simp [wrns]
  rw [e] at hm8
  have f1 : flatOk (r.wr.map V.str) = true := flat_nms fun n hn => by
    rw [wr_onc] at hn
    exact (onc_mem _ _ hn).elim (fun z => by cases z) fun z => wf_wrn r hw z
  have f2 : flatOk ((rds r).map V.str) = true := flat_nms fun n hn => wf_rds hw hn
  have h5e := hel.trans (he7.trans he8)
  refine o_eqLsame (sqL_of (h5e.at hmw)) (sqL_of hm8) f1 ?_
  obtain ⟨ps6, hh6⟩ := (hst5.ex (hew.trans h5e)).hd
  walk_at "go"
  refine hh6.fr fun xr hxr => ?_
  walk_at "go"
  rename_i pz G5 hpz hez hmz
  refine s_law_reads (k := k + 7) rfl (RowA.ex (he5'.trans (he7.trans (he8.trans hez))) r h1) fun p6 G6 he9 hm9 => ?_
  refine o_eqLsame (sqL_of (he9.at hmz)) (sqL_of hm9) f2 ?_
  walk_at "go"
  exact q _ (he5'.trans (he7.trans (he8.trans (hez.trans he9))))
end
local macro_rules | `(tactic| walk_at "cs") => `(tactic| ((with_reducible refine' s_law_cell ?hv ?hS ?hi ?q); (case hv => exact rfl); (case hS => walk_at "sq"); (case hi => first | decide | omega)))
local macro_rules | `(tactic| walk_at "cs") => `(tactic| ((with_reducible refine' s_law_draws ?hv ?hm ?hs ?q); (case hv => exact rfl); (case hm => decide); (case hs => decide); intro p H1 ds hp he hm hld hr))
local macro_rules | `(tactic| walk_at "cs") => `(tactic| ((with_reducible refine' s_law_names ?hv ?hS ?hl ?hr ?q); (case hv => exact rfl); (case hS => walk_at "sq"); (case hl => walk_at "len"); (case hr => assumption); intro p H2 nms hp he hm hln hok))
theorem law_ok {w : World} {K : PySem.W.Frag} {mg : Str → Option Value} (T : Txt K w mg) (H : Hp) (a : Addr) (ns : List Int) (hl : ns.length ≤ 63) (hS : SqL K H a (ns.map V.int)) : Gam K w 60 .law [.ref a] H (fun v _ => v = .bl true) (fun _ _ _ => False) := by
  haveI := T.k
  refine ⟨rfl, ?_⟩
  unfold rd_law
  refine k_start ?_
  walk_at "go"
  rename_i pd G1 ds hpd hed hmd hld hrd
  have hld : ds.length = 4 := hld
  refine s_law_names (k := 58) rfl (sqL_of hmd) (by omega) hrd fun na G2 nms hna hen hmn hln hok => ?_
  have hS2 := (hed.trans hen).sqL hS
  walk_at "go"
  rename_i pl G3 hpl hel hml sh G4 hsh hes hms da G5 dss hda hea hma hlda hrda
  have hlda : dss.length = 90 := hlda
  generalize hLV : decide (cellv ns 2 % 2 = 0) = LV at hms
  have D : Drn K G5 da na sh dss nms [0, 1, 2] 3 LV 12 := ⟨sqL_of hma, hrda, sqL_of ((hel.trans (hes.trans hea)).at hmn), hln, hok, ⟨pl, hea.at hms, sqL_of ((hes.trans hea).at hml)⟩, ⟨by omega, by omega⟩, ⟨by omega, by omega⟩, by decide⟩
  refine s_law_rows 3 59 (by omega) _ _ _ _ da na sh dss nms [0, 1, 2] 3 LV 12 0 9 rfl D (by omega) (by omega) (by omega) (by omega) (by omega) fun t p ys G6 rs at2 he6 hm6 hp6 hr6 hw6 hd6 ha6 hb6 hc6 => ?_
  have hS6 := (hel.trans (hes.trans (hea.trans he6))).sqL hS2
  walk_at "go"
  have hsz : szs rs ≤ 25 := by omega
  have fin : ∀ (G : Hp) (u : Option V) (pg : Addr) (ws : List V) (tt : Bool), Ex G6 G → SqB tt G pg ws → RowsA tt G rs ws → RR1 5 (tIfS (tNot (tB (tCallSD (Gam K w 59 .law_fits) [] (fun _ _ _ _ => False) (tCons (tOp (rIx K) (tVar 3) (tVar 5)) (tCons (tOp (rIx K) (tVar 4) (tVar 5)) tNil))))) (tRet (tC (.bl false))) tNext)
      { nx := tRet (tAndV (tCallSD (Gam K w 59 .law_fits) [] (fun _ _ _ _ => False) (tCons (tTup (tCons (tC (.str ("leave" : Str))) tNil)) (tCons (tTup (tCons (tC (.str ("leave" : Str))) tNil)) tNil))) (tCallSD (Gam K w 59 .law_fits) [] (fun _ _ _ _ => False) (tCons (tTup (tCons (tC (.str ("call" : Str))) (tCons (tTup tNil) tNil))) (tCons (tTup (tCons (tC (.str ("call" : Str))) (tCons (tLst tNil) tNil))) tNil)))) { nx := fun _ H' => (fun v _ => v = .bl true) V.non H', rt := fun v _ => v = .bl true }, rt := fun v _ => v = .bl true } [some (.ref a), some (.ref na), some (.ref sh), some (.ref p), some (.ref pg), u] [.int ys.length] G := by
    intro G u pg ws tt heG hpg hrw
    have hpG := heG.at hp6
    have hlr := hr6.len
    have hlw := hrw.len
    refine k_rr1I ⟨by omega, by omega⟩ (fun m σ G' => ∃ u, σ = [some (.ref a), some (.ref na), some (.ref sh), some (.ref p), some (.ref pg), u] ∧ Ex G G') ⟨_, rfl, Ex.refl _⟩ ?_ ?_
    · rintro m σ G' hm ⟨u, rfl, hg⟩
      have hmy : m < ys.length := by omega
      have hmw : m < ws.length := by omega
      have hpG' := hg.at hpG
      have hpw' := hpg.ex hg
      dsimp only [List.set]
      walk_at "go"
      refine o_ixTn (sqT_of hpG') (by omega) (by rw [Int.toNat_natCast]; exact List.getElem?_eq_getElem hmy) ?_
      walk_at "go"
      have hix : ∀ Q', Q' ws[m] G' → rIx K (.ref pg) (.int m) G' Q' := fun Q' q => by
        rcases hpw'.sq with z | z
        · exact o_ixLn z (by omega) (by rw [Int.toNat_natCast]; exact List.getElem?_eq_getElem hmw) q
        · exact o_ixTn z (by omega) (by rw [Int.toNat_natCast]; exact List.getElem?_eq_getElem hmw) q
      refine hix _ ?_
      walk_at "go"
      obtain ⟨r, e1, q1⟩ := hr6.at (List.getElem?_eq_getElem hmy)
      obtain ⟨r', e2, q2⟩ := hrw.at (List.getElem?_eq_getElem hmw)
      rw [e1] at e2
      cases e2
      have d1 := dep_at e1
      have d2 := sz_at e1
      refine s_law_fits (t := tt) rfl (by omega) (RowA.ex (heG.trans hg) r q1) (RowA.ex hg r q2) (wf_at hw6 e1) (by decide) (by omega) (by omega) (by omega) fun G2 he2 => ?_
      walk_at "go"
      exact ⟨_, rfl, hg.trans he2⟩
    · rintro σ G' ⟨u, rfl, hg⟩
      walk_at "go"
      rename_i p1 F1 hp1 hf1 hm1 p2 F2 hp2 hf2 hm2
      refine s_law_fits (r := .leave) (t := true) (nin := 0) (top := 3) (lv := true) rfl (by simp only [Row.dep]; omega) ⟨p1, rfl, hf2.at hm1⟩ ⟨p2, rfl, hm2⟩ rfl (by omega) (by omega) (by simp [Row.dep]) (by simp [Row.sz]) fun F3 hf3 => ?_
      walk_at "go"
      rename_i p3 F4 hp3 hf4 hm3 p4 F5 hp4 hf5 hm4 p5 F6 hp5 hf6 hm5 p6 F7 hp6 hf7 hm6
      refine s_law_fits (r := .call []) (t := false) (nin := 0) (top := 3) (lv := true) rfl (by simp only [Row.dep, deps]; omega) (RowA.kp (t := true) (.of (hf6.trans hf7)) (.call []) ⟨p4, p3, rfl, hm4, [], .inl (hf5.at hm3), rfl⟩) ⟨p6, p5, rfl, hm6, [], .inr ⟨rfl, hf7.at hm5⟩, rfl⟩ True.intro (by omega) (by omega) (by simp [Row.dep, deps]) (by simp [Row.sz, szs]) fun F8 hf8 => ?_
      rfl
  refine k_itd (fun z => ?_) (fun z => ?_)
  · walk_at "go"
    refine s_law_lists rs 59 (by omega) _ _ _ _ ys p rfl (.inr (sqT_of hp6)) hr6 (by omega) fun pg ws G7 he7 _ hm7 hr7 => ?_
    walk_at "go"
    exact fin G7 _ pg ws false he7 (.inr ⟨rfl, hm7⟩) (RowsA.ex nw_ex _ hr7)
  · walk_at "go"
    exact fin G6 _ p ys true (Ex.refl _) (.inl hp6) hr6
end L2.MP

set_option Elab.async false
set_option linter.all false
set_option maxRecDepth 100000
set_option maxHeartbeats 4000000
namespace L2.MP
open PySem PySem.Spec PyProof.Rows
end L2.MP
open PySem PySem.W PySem.Calls PyProof.Rows
set_option maxHeartbeats 0 in
theorem PySem.Challenge.cw_stickymarks_k15_build_step_holds : PySem.Challenge.rw_stickymarks_k15_build_step.Holds := by
  w_on; o_law
  refine HandSHeadRun.head_any (r := OpenLaw.row PySem.Challenge.rw_stickymarks_k15_build_step) (q := view (OpenLaw.row PySem.Challenge.rw_stickymarks_k15_build_step).prog [47]) (H := L2.MP.hkM) (ob := L2.MP.obsMSG 6 L2.MP.fnl L2.MP.exb L2.MP.tbs) (M := 20000) (loose := L2.MP.looseN)
    (d := HandSHeadRun.topDef (OpenLaw.row PySem.Challenge.rw_stickymarks_k15_build_step).prog 47) (kwd := []) (L2.MP.obsMSG_eq 6 L2.MP.fnl L2.MP.exb L2.MP.tbs)
    (by kernel_rfl) (fun s => by kernel_rfl) L2.MP.run_top (by kernel_rfl) (by kernel_rfl) (by kernel_rfl) (by rfl) (by first | assumption | decide +kernel) (by decide +kernel) ⟨rfl, rfl, rfl, rfl, rfl, by decide +kernel⟩ ?hw ?hc
  case hw => w_witness2
  case hc =>
    refine L2.walk_ofE (l := PySem.Challenge.rw_stickymarks_k15_build_step) (n := 63) (k := L2.MP.lev 60) (x := "_law_script") (CX := L2.CX0) rfl (by decide) (by kernel_rfl) ⟨rfl, by decide, by decide⟩ ?F (fun _ _ _ _ z => z)
    intro w mg fa h Y G hmg0
    obtain ⟨K, KX, c⟩ := Y
    have T := L2.MP.txt_of KX G c
    have hmg : mg ("law" : PySem.Str) = some (.ref fa) := by
      have e : (HandSHeadRun.topDef (OpenLaw.row PySem.Challenge.rw_stickymarks_k15_build_step).prog 47).name = ("law" : PySem.Str) := by kernel_rfl
      rw [← e]
      exact hmg0
    have e := hmg.symm.trans T.g_law
    cases e
    exact ⟨K, L2.MP.fdAt K (He.ga K "law"), fun vs H Q _ => L2.MP.Gam K w 60 .law vs H Q L2.E0, KX, fun s u => L2.FunD.bindsA (ps := ["_law_script"]) T.k.f_law (fun _ _ _ _ _ _ us hl => match us, hl with | [_], _ => rfl) s [u] rfl,
      fun H a ns hl hO hS => L2.MP.law_ok T H a ns hl hS, fun base _ _ => L2.MP.fn_close (L2.MP.ok_all T 60 .law)⟩
#print axioms PySem.Challenge.cw_stickymarks_k15_build_step_holds

