import PyProof.Rows.All
import Wide.All
import OpenK.AllK
import Wide.FinOn
import HandS.ForMost
import HandS.ForExc
import HandS.Flow
import HandS.Defaults
import HandS.MakeKwOnly
import HandS.MakeKw
import HandS.ExcInit
import HandS.ExcField
import HandS.ExcIs
import HandS.IsInst
import HandS.WrittenGet
import HandS.Property
import HandS.OwnEq
import HandS.DictEq
import HandS.DeepEq
import HandS.TupAny
import HandS.CallSlots
import HandS.FStr
import HandS.RaiseMore
import HandS.Codes
import HandS.Deep
import HandS.Rev
import HandS.Head2
import HandS.HeadEnd
import HandS.HeadHook4
import HandS.HeadWalk
import HandS.Style
import HandS.Conv
import HandS.NestedK
import KE.KNestStore
import PySem.Challenge.RW_stickymarks_k28_namer
set_option Elab.async false
set_option linter.all false
set_option maxRecDepth 100000
set_option maxHeartbeats 4000000
/-! Base rules of our own over the hand layer. -/
namespace L2.MP
open PySem PySem.Spec PyProof.Rows

/-! ### weaker readings -/
section
variable {X : Cx}
theorem wkE {e : Expr} {t t' : TE} (h : PE X e t) (w : ∀ σ H Q, t' σ H Q → t σ H Q) : PE X e t' :=
  ⟨fun pins s σ H Q I q => h.run pins s σ H Q I (w σ H Q q)⟩
theorem wkO {f : Value → Value → Sem Value} {r r' : R2} (h : OpR X f r) (w : ∀ x y H Q, r' x y H Q → r x y H Q) : OpR X f r' :=
  fun pins s σ H x y v u Q I rx ry q => h pins s σ H x y v u Q I rx ry (w x y H Q q)
theorem wkC {f : Value} {r r' : List V → Hp → VK → Prop} (h : CallR X f r) (w : ∀ xs H Q, r' xs H Q → r xs H Q) : CallR X f r' :=
  fun pins s σ H xs us Q I rv q => h pins s σ H xs us Q I rv (w xs H Q q)
theorem orO {f : Value → Value → Sem Value} {r r' : R2} (h : OpR X f r) (h' : OpR X f r') : OpR X f (fun x y H Q => r x y H Q ∨ r' x y H Q) :=
  fun pins s σ H x y v u Q I rx ry q => q.elim (h pins s σ H x y v u Q I rx ry) (h' pins s σ H x y v u Q I rx ry)
end

/-! ### calls whose exceptions are wished for at the slots: made instances, methods, properties -/
section
variable {X : Cx} {CX : CXT} {k n : Nat} {f C p g : Addr} {fd : FuncData} {ps : List Str} {sp : Sp} {dvs : List V} {ds : List Value} {E : St → XK}
variable {x m : Str} {pp pos apos : Pos} {e o : Expr} {es : List Expr} {ta : TE} {t : TA}

/-- what an answer of a callee gives -/
theorem back_of {pins : List (Addr × Obj)} {σ : St} {H : Hp} {s s' : Shared} {Q : VK} {E₁ : XK} {r : Result} (hx : PassesAt CX X σ E₁) (I : Inv X pins σ H s)
    (hq : CR CX X.stack X.prog X.w H s Q E₁ r s') : wants (EP X pins σ Q) X.xe r s' := by
  rcases r with er | fl
  · exact hx pins H s er s' I hq
  · cases fl <;> first | exact I.after hq | exact hq.elim

theorem pe_call0S (F : FnOk X.prog X.w X.K X.mg X.base CX k f fd ps sp) (hr : Room k X.A) (hg : Gl X x) (hm : X.mg x = some (.ref f)) (hk : PySem.W.keepIn X.K (.ref f) = true) (hb : Binds X.K fd ps ds) (hd : Vals dvs ds)
    (hx : ∀ σ, PassesAt CX X σ (E σ)) (hdb : (x == ("__debug__" : Str)) = false := by decide) : PE X (.Call (.Name x pp) [] [] pos) (tCallSD sp dvs E tNil) :=
  ⟨fun pins s σ H Q I h => wpAny_Call_Name_kw (ld_glob I hg hm (PySem.W.callWith_K0 I.kIn hk (run_fnSD (us := []) F hr hb hd (hx σ) I .nil h)) hdb)⟩

/-- C(..), what is raised wished for at the slots -/
def tMakeS (C : Addr) (sp : Sp) (dvs : List V) (E : St → XK) (t : TA) : TE := fun σ H Q => t σ H fun vs H1 => ∀ x dx, H1 x = none → H1 dx = none → dx ≠ x →
  sp (.ref x :: (vs ++ dvs)) (upd (upd H1 dx (.own x)) x (.ins C dx [])) (fun v H2 => v = .non ∧ Q (.ref x) H2) (E σ)
theorem run_mk {pins : List (Addr × Obj)} {σ : St} {H : Hp} {s : Shared} {Q : VK} {us : List Value} {kws : List (Str × Value)} {ws : List Value} {vs : List V} {E₁ : XK} (M : Mk X.K C f) (F : FnOk X.prog X.w X.K X.mg X.base CX k f fd ps sp) (hr : Room (k + 1) X.A)
    (hx : PassesAt CX X σ E₁) (I : Inv X pins σ H s)
    (hb : ∀ (s' : Shared) (a : Addr), X.K.In s'.heap → BindsTo s' fd ⟨.ref a :: us, kws⟩ (ps.zip (ws.set 0 (.ref a)))) (rv : ∀ a, Vals (vs.set 0 (.ref a)) (ws.set 0 (.ref a)))
    (h : ∀ x dx, H x = none → H dx = none → dx ≠ x → sp (vs.set 0 (.ref x)) (upd (upd H dx (.own x)) x (.ins C dx [])) (fun v H2 => v = .non ∧ Q (.ref x) H2) E₁) :
    wpAny (model X.prog X.w) X.A (call (.ref C) us kws) (EP X pins σ Q) X.xe s := by
  have J := Inv.made (C := C) I
  have hq := h (s.heap.objs.size + 1) s.heap.objs.size (I.hok.fresh (Nat.le_succ _)) (I.hok.fresh (Nat.le_refl _)) (Nat.ne_of_lt (Nat.lt_succ_self _))
  refine wpAny_call (make_map (f := f) I.kIn M.makes M.init (beq_iff_eq.mp M.fn) ?_)
  refine codeAny_mono (F.run _ X.stack _ _ _ _ _ _ _ (hr.make C us kws) (J.env0.make C us kws) (hb _ _ J.kIn) (rv _) hq) fun r s' hr' => ?_
  rcases r with er | fl
  · exact hx pins _ _ er s' J hr'
  · cases fl with
    | ret u =>
      obtain ⟨v, H', I3, rv, ev, q3⟩ := J.after hr'
      subst ev
      exact ⟨rv, .ref (s.heap.objs.size + 1), H', I3, rfl, q3⟩
    | _ => exact hr'.elim
theorem mk_binds {us : List Value} (hb : Binds X.K fd ps ds) (hl : us.length + 1 + ds.length = ps.length) (s' : Shared) (a : Addr) (hk : X.K.In s'.heap) :
    BindsTo s' fd ⟨.ref a :: us, []⟩ (ps.zip ((Value.none :: (us ++ ds)).set 0 (.ref a))) :=
  hb s' (.ref a :: us) hk (by simpa [Nat.add_right_comm] using hl)
theorem mk_len {H : Hp} {Q : VK} {E₁ : XK} {us : List Value} {vs : List V} (F : FnOk X.prog X.w X.K X.mg X.base CX k f fd ps sp) (r : Vals vs us) (hd : Vals dvs ds) {a : Addr} (h : sp (.ref a :: (vs ++ dvs)) H Q E₁) : us.length + 1 + ds.length = ps.length := by
  have := F.len _ _ _ _ h
  have l1 := r.length
  have l2 := hd.length
  simp at this
  omega
theorem run_mkP {pins : List (Addr × Obj)} {σ : St} {H : Hp} {s : Shared} {Q : VK} {us : List Value} {vs : List V} (M : Mk X.K C f) (F : FnOk X.prog X.w X.K X.mg X.base CX k f fd ps sp) (hr : Room (k + 1) X.A) (hb : Binds X.K fd ps ds) (hd : Vals dvs ds)
    (hx : PassesAt CX X σ (E σ)) (I : Inv X pins σ H s) (r : Vals vs us)
    (h : ∀ x dx, H x = none → H dx = none → dx ≠ x → sp (.ref x :: (vs ++ dvs)) (upd (upd H dx (.own x)) x (.ins C dx [])) (fun v H2 => v = .non ∧ Q (.ref x) H2) (E σ)) :
    wpAny (model X.prog X.w) X.A (call (.ref C) us) (EP X pins σ Q) X.xe s := by
  have hl := mk_len F r hd (h (s.heap.objs.size + 1) s.heap.objs.size (I.hok.fresh (Nat.le_succ _)) (I.hok.fresh (Nat.le_refl _)) (Nat.ne_of_lt (Nat.lt_succ_self _)))
  exact run_mk (kws := []) (ws := Value.none :: (us ++ ds)) (vs := V.non :: (vs ++ dvs)) M F hr hx I (mk_binds hb hl) (fun a => .cons rfl (r.append hd)) h
theorem pe_makeS (M : Mk X.K C f) (F : FnOk X.prog X.w X.K X.mg X.base CX k f fd ps sp) (hr : Room (k + 1) X.A) (hg : Gl X x) (hm : X.mg x = some (.ref C)) (hb : Binds X.K fd ps ds) (hd : Vals dvs ds) (hx : ∀ σ, PassesAt CX X σ (E σ))
    (ha : PA X (e :: es) t) (hdb : (x == ("__debug__" : Str)) = false := by decide) (he : starEach (e :: es) X.env = (false, eval e X.env) :: starEach es X.env := by rfl) (hpl : (backTo pos (starEach es X.env)).any (·.1) = false := by rfl) :
    PE X (.Call (.Name x pp) (e :: es) [] pos) (tMakeS C sp dvs E t) :=
  ⟨fun pins s σ H Q I h => wpAny_Call_Name_kw (ld_glob I hg hm (PySem.W.callWith_K (h₀ := X.base) I.ok.mod.kin M.kp
    (thn (ha.run pos pins s σ H _ I h) fun us s1 ⟨vs, H1, I1, r, q⟩ => ⟨I1.kIn, run_mkP M F hr hb hd (hx σ) I1 r q⟩) he hpl) hdb)⟩
theorem pe_make0S (M : Mk X.K C f) (F : FnOk X.prog X.w X.K X.mg X.base CX k f fd ps sp) (hr : Room (k + 1) X.A) (hg : Gl X x) (hm : X.mg x = some (.ref C)) (hb : Binds X.K fd ps ds) (hd : Vals dvs ds) (hx : ∀ σ, PassesAt CX X σ (E σ))
    (hdb : (x == ("__debug__" : Str)) = false := by decide) : PE X (.Call (.Name x pp) [] [] pos) (tMakeS C sp dvs E tNil) :=
  ⟨fun pins s σ H Q I h => wpAny_Call_Name_kw (ld_glob I hg hm (PySem.W.callWith_K0 I.kIn M.kp (run_mkP (us := []) M F hr hb hd (hx σ) I .nil h)) hdb)⟩

/-- C(k = v, ..): keywords alone -/
def tMakeKS (C : Addr) (m : Nat) (sp : Sp) (gV : List V → List V → List V) (E : St → XK) (tk : TA) : TE := fun σ H Q => tk σ H fun zs H1 => zs.length = m ∧ ∀ x dx, H1 x = none → H1 dx = none → dx ≠ x →
  sp (gV [.ref x] zs) (upd (upd H1 dx (.own x)) x (.ins C dx [])) (fun v H2 => v = .non ∧ Q (.ref x) H2) (E σ)
theorem run_mkK {ks : List Str} {G : List Value → List Value → List Value} {gV : List V → List V → List V} {pins : List (Addr × Obj)} {σ : St} {H : Hp} {s : Shared} {Q : VK} {ws : List Value} {zs : List V} (M : Mk X.K C f)
    (F : FnOk X.prog X.w X.K X.mg X.base CX k f fd ps sp) (hr : Room (k + 1) X.A) (hb : KBn X.K fd ps 1 ks G gV) (hx : PassesAt CX X σ (E σ)) (I : Inv X pins σ H s) (rz : Vals zs ws) (l2 : zs.length = ks.length)
    (h : ∀ x dx, H x = none → H dx = none → dx ≠ x → sp (gV [.ref x] zs) (upd (upd H dx (.own x)) x (.ins C dx [])) (fun v H2 => v = .non ∧ Q (.ref x) H2) (E σ)) :
    wpAny (model X.prog X.w) X.A (call (.ref C) [] (ks.zip ws)) (EP X pins σ Q) X.xe s := by
  have J := Inv.made (C := C) I
  have hq := h (s.heap.objs.size + 1) s.heap.objs.size (I.hok.fresh (Nat.le_succ _)) (I.hok.fresh (Nat.le_refl _)) (Nat.ne_of_lt (Nat.lt_succ_self _))
  have rv := hb.rel (vs := [V.ref (s.heap.objs.size + 1)]) (us := [Value.ref (s.heap.objs.size + 1)]) (.cons rfl .nil) rz
  refine wpAny_call (make_map (f := f) I.kIn M.makes M.init (beq_iff_eq.mp M.fn) ?_)
  refine codeAny_mono (F.run _ X.stack _ _ _ _ _ _ _ (hr.make C [] (ks.zip ws)) (J.env0.make C [] (ks.zip ws)) (hb.to _ _ ws J.kIn rfl (rz.length.symm.trans l2)) rv hq) fun r s' hr' => ?_
  rcases r with er | fl
  · exact hx pins _ _ er s' J hr'
  · cases fl with
    | ret u =>
      obtain ⟨v, H', I3, rv, ev, q3⟩ := J.after hr'
      subst ev
      exact ⟨rv, .ref (s.heap.objs.size + 1), H', I3, rfl, q3⟩
    | _ => exact hr'.elim
theorem pe_makeKS {ks : List Str} {G : List Value → List Value → List Value} {gV : List V → List V → List V} {kws : List Keyword} {tk : TA} (M : Mk X.K C f) (F : FnOk X.prog X.w X.K X.mg X.base CX k f fd ps sp) (hr : Room (k + 1) X.A) (hg : Gl X x) (hm : X.mg x = some (.ref C))
    (hb : KBn X.K fd ps 1 ks G gV) (hx : ∀ σ, PassesAt CX X σ (E σ)) (hkw : PK X kws tk)
    (hall : (backToKw pos (keywordEach kws X.env)).all (·.1.isSome) = true := by rfl) (hks : (backToKw pos (keywordEach kws X.env)).filterMap (·.1) = ks := by rfl) (hdb : (x == ("__debug__" : Str)) = false := by decide)
    (hpl : ((backTo pos (starEach [] X.env)).any (·.1) || (backToKw pos (keywordEach kws X.env)).any (·.1.isNone)) = false := by rfl) :
    PE X (.Call (.Name x pp) [] kws pos) (tMakeKS C ks.length sp gV E tk) :=
  ⟨fun pins s σ H Q I h => wpAny_Call_Name_kw (ld_glob I hg hm (PySem.W.callWith_KW0 (h₀ := X.base) I.ok.mod.kin M.kp hall
    (thn (hkw.run pos pins s σ H _ I h) fun ws s2 ⟨zs, H2, I2, rz, l2, q2⟩ => ⟨I2.kIn, hks ▸ run_mkK M F hr hb (hx σ) I2 rz l2 q2⟩) hpl) hdb)⟩

/-- o.m(..) of an instance of the class at C -/
def tMethS (C : Addr) (m : Str) (sp : Sp) (dvs : List V) (E : St → XK) (ta : TE) (t : TA) : TE := fun σ H Q => ta σ H fun x H1 => ∃ a dx fs, x = .ref a ∧ H1 a = some (.ins C dx fs) ∧ fs.lookup m = none ∧
  t σ H1 fun vs H2 => sp (x :: (vs ++ dvs)) H2 Q (E σ)
theorem pe_methS {pl : Sem Bool} (he : PE X o ta) (c : Cls X.K C) (hm : Meth X.K C m f) (F : FnOk X.prog X.w X.K X.mg X.base CX k f fd ps sp) (hr : Room k X.A) (hb : Binds X.K fd ps ds) (hd : Vals dvs ds) (hx : ∀ σ, PassesAt CX X σ (E σ)) (ha : PA X (e :: es) t)
    (hst : starEach (e :: es) X.env = (false, eval e X.env) :: starEach es X.env := by rfl) (hpl : (backTo pos (starEach es X.env)).any (·.1) = false := by rfl)
    (ht : eval (.Call (.Attribute o m apos) (e :: es) [] pos) X.env = (eval o X.env >>= fun ov => standAt apos.atName >>= fun _ => holding [ov] (getMethod ov m pl) >>= fun z =>
      callWith pos z.1 z.2 (backTo pos (starEach (e :: es) X.env)) (backToKw pos (keywordEach [] X.env))) := by rfl) :
    PE X (.Call (.Attribute o m apos) (e :: es) [] pos) (tMethS C m sp dvs E ta t) := by
  refine ⟨fun pins s σ H Q I h => PySem.W.methodCall_KW (pl := pl) (thn (he.run pins s σ H _ I h) ?_) ht⟩
  rintro u s1 ⟨x, H1, I1, rx, a, dx, fs, rfl, ea, l, q⟩
  obtain rfl : u = Value.ref a := rx
  exact getmeth_ok I1 ea c hm l (PySem.W.callWith_K (first := [.ref a]) (h₀ := X.base) I.ok.mod.kin hm.kp
    (thn (ha.run pos pins s1 σ H1 _ I1 q) fun us s2 ⟨vs, H2, I2, r, q2⟩ => ⟨I2.kIn, run_fnSD (us := .ref a :: us) (vs := .ref a :: vs) F hr hb hd (hx σ) I2 (.cons rfl r) q2⟩) hst hpl)
theorem pe_meth0S {pl : Sem Bool} (he : PE X o ta) (c : Cls X.K C) (hm : Meth X.K C m f) (F : FnOk X.prog X.w X.K X.mg X.base CX k f fd ps sp) (hr : Room k X.A) (hb : Binds X.K fd ps ds) (hd : Vals dvs ds) (hx : ∀ σ, PassesAt CX X σ (E σ))
    (ht : eval (.Call (.Attribute o m apos) [] [] pos) X.env = (eval o X.env >>= fun ov => standAt apos.atName >>= fun _ => holding [ov] (getMethod ov m pl) >>= fun z =>
      callWith pos z.1 z.2 (backTo pos (starEach [] X.env)) (backToKw pos (keywordEach [] X.env))) := by rfl) :
    PE X (.Call (.Attribute o m apos) [] [] pos) (tMethS C m sp dvs E ta tNil) := by
  refine ⟨fun pins s σ H Q I h => PySem.W.methodCall_KW (pl := pl) (thn (he.run pins s σ H _ I h) ?_) ht⟩
  rintro u s1 ⟨x, H1, I1, rx, a, dx, fs, rfl, ea, l, q⟩
  obtain rfl : u = Value.ref a := rx
  exact getmeth_ok I1 ea c hm l (PySem.W.callWith_K0 (first := [.ref a]) I1.kIn hm.kp (run_fnSD (us := [.ref a]) (vs := [.ref a]) F hr hb hd (hx σ) I1 (.cons rfl .nil) q))
end

/-! ### operators and comparisons that an own class defines (nothing is raised) -/
section
variable {X : Cx} {k : Nat} {f C a dx : Addr} {fd : FuncData} {ps : List Str} {sp : Sp} {fs : List (Str × V)}
/-- the special method m of the class at C is the def at f -/
structure Spc (K : PySem.W.Frag) (C : Addr) (m : Str) (f : Addr) : Prop where
  at_ : PySem.W.findIn K (.ref C) m = some (some (.ref f))
  fn : PySem.W.isFn K (.ref f) = true
theorem cmpBack {v : V} {u : Value} {s : Shared} {Q : Value → Shared → Prop} (r : RelV v u) (q : Q u s) : PySem.W.CmpBack Q u s := by
  cases v <;> first
    | (obtain ⟨t, rfl⟩ := r; exact q)
    | (cases r; exact q)
theorem inst_of {pins : List (Addr × Obj)} {σ : St} {H : Hp} {s : Shared} (I : Inv X pins σ H s) (e : H a = some (.ins C dx fs)) : ∃ od, PySem.W.InstAt s.heap a (PySem.W.instObj C dx) C (some od) := by
  obtain ⟨mA, O, _⟩ := ins_get I.hok e
  obtain ⟨od, J, _⟩ := O.look
  exact ⟨od, J⟩
/-- both of the class at C -/
def rOwn (C : Addr) (sp : Sp) : R2 := fun x y H Q => ∃ a dx fs b dy gs, x = .ref a ∧ y = .ref b ∧ H a = some (.ins C dx fs) ∧ H b = some (.ins C dy gs) ∧ sp [.ref a, .ref b] H Q E0
/-- the left one of the class at C, the right one an int -/
def rOwnI (C : Addr) (sp : Sp) : R2 := fun x y H Q => ∃ a dx fs i, x = .ref a ∧ y = .int i ∧ H a = some (.ins C dx fs) ∧ sp [.ref a, .int i] H Q E0
/-- the left one of the class at C, the right one anything -/
def rOwnA (C : Addr) (sp : Sp) : R2 := fun x y H Q => ∃ a dx fs, x = .ref a ∧ H a = some (.ins C dx fs) ∧ sp [.ref a, y] H Q E0
theorem op_own {op : Operator} (F : FnOk X.prog X.w X.K X.mg X.base (L2.CX X.prog X.w) k f fd ps sp) (hr : Room k X.A) (hb : Binds X.K fd ps []) (hc : PySem.W.selfFirst X.K C = true) (hs : Spc X.K C (PySem.dunder op.info.2) f) : OpR X (binaryOp op) (rOwn C sp) := by
  rintro pins s σ H x y v u Q I rx ry ⟨a, dx, fs, b, dy, gs, rfl, rfl, ha, hbb, q⟩
  cases rx
  cases ry
  obtain ⟨od, J⟩ := inst_of I ha
  obtain ⟨od2, J2⟩ := inst_of I hbb
  obtain ⟨m, fr⟩ := I.fr
  refine PySem.W.binop_K fr I.mod.kin J J2.type hc hs.at_ hs.fn (thn (run_fn (us := [.ref a, .ref b]) (vs := [.ref a, .ref b]) (dvs := []) F hr hb .nil passL I (.cons rfl (.cons rfl .nil)) q) ?_)
  rintro u s1 ⟨w, H1, I1, rw', q1⟩
  exact cmpBack rw' ⟨w, H1, I1, rw', q1⟩
theorem op_ownI {op : Operator} {fo ro rc : Option Value} (F : FnOk X.prog X.w X.K X.mg X.base (L2.CX X.prog X.w) k f fd ps sp) (hr : Room k X.A) (hb : Binds X.K fd ps []) (hc : PySem.W.selfFirst X.K C = true) (hs : Spc X.K C (PySem.dunder op.info.2) f)
    (hrf : PySem.W.findIn X.K (.ref C) (PySem.dunderR op.info.2) = some rc) (hp : rc = none ∨ ∃ g : Addr, rc = some (.ref g)) (h1 : PySem.W.findIn X.K (.type "int") (PySem.dunder op.info.2) = some fo)
    (h2 : PySem.W.findIn X.K (.type "int") (PySem.dunderR op.info.2) = some ro) (hsub : PySem.W.subIn X.K (.type "int") (.ref C) = some false) : OpR X (binaryOp op) (rOwnI C sp) := by
  rintro pins s σ H x y v u Q I rx ry ⟨a, dx, fs, i, rfl, rfl, ha, q⟩
  cases rx
  obtain ⟨t, rfl⟩ := ry
  obtain ⟨od, J⟩ := inst_of I ha
  obtain ⟨m, fr⟩ := I.fr
  refine PySem.W.ksp_binT (T := "int") fr I.mod.kin J rfl hc hs.at_ hs.fn hrf hp h1 h2 hsub (thn (run_fn (us := [.ref a, .int i t]) (vs := [.ref a, .int i]) (dvs := []) F hr hb .nil passL I (.cons rfl (.cons ⟨t, rfl⟩ .nil)) q) ?_)
  rintro u s1 ⟨w, H1, I1, rw', q1⟩
  exact cmpBack rw' ⟨w, H1, I1, rw', q1⟩
theorem iop_own {op : Operator} (F : FnOk X.prog X.w X.K X.mg X.base (L2.CX X.prog X.w) k f fd ps sp) (hr : Room k X.A) (hb : Binds X.K fd ps []) (hc : PySem.W.selfFirst X.K C = true) (hs : Spc X.K C (PySem.dunderI op.info.2) f) : OpR X (inplaceOp op) (rOwnA C sp) := by
  rintro pins s σ H x y v u Q I rx ry ⟨a, dx, fs, rfl, ha, q⟩
  cases rx
  obtain ⟨od, J⟩ := inst_of I ha
  obtain ⟨m, fr⟩ := I.fr
  refine PySem.W.ksp_inplace fr I.mod.kin J hc hs.at_ hs.fn (thn (run_fn (us := [.ref a, u]) (vs := [.ref a, y]) (dvs := []) F hr hb .nil passL I (.cons rfl (.cons ry .nil)) q) ?_)
  rintro u s1 ⟨w, H1, I1, rw', q1⟩
  exact cmpBack rw' ⟨w, H1, I1, rw', q1⟩
theorem rc_own {op : CmpOp} (F : FnOk X.prog X.w X.K X.mg X.base (L2.CX X.prog X.w) k f fd ps sp) (hr : Room k X.A) (hb : Binds X.K fd ps []) (hn : PySem.W.notFirst X.K C (.ref C) = true) (hs : Spc X.K C (cmpInfo op).2.1 f) : OpR X (richCompare op) (rOwn C sp) := by
  rintro pins s σ H x y v u Q I rx ry ⟨a, dx, fs, b, dy, gs, rfl, rfl, ha, hbb, q⟩
  cases rx
  cases ry
  obtain ⟨od, J⟩ := inst_of I ha
  obtain ⟨od2, J2⟩ := inst_of I hbb
  obtain ⟨m, fr⟩ := I.fr
  refine PySem.W.cmp_K hr.units0 fr I.mod.kin J J2.type hn hs.at_ hs.fn (thn (run_fn (us := [.ref a, .ref b]) (vs := [.ref a, .ref b]) (dvs := []) F hr hb .nil passL I (.cons rfl (.cons rfl .nil)) q) ?_)
  rintro u s1 ⟨w, H1, I1, rw', q1⟩
  exact cmpBack rw' ⟨w, H1, I1, rw', q1⟩

/-- o[i] by an own __getitem__ -/
def tOwnIx (C : Addr) (sp : Sp) (E : St → XK) (ta tb : TE) : TE := fun σ H Q => ta σ H fun x H1 => tb σ H1 fun y H2 => ∃ a dx fs, x = .ref a ∧ H2 a = some (.ins C dx fs) ∧ sp [.ref a, y] H2 Q (E σ)
/-- o[i] = v by an own __setitem__ -/
def sOwnPut (C : Addr) (sp : Sp) (E : St → XK) (to ti tv : TE) : TS := fun D σ H => tv σ H fun v H1 => to σ H1 fun x H2 => ti σ H2 fun y H3 => ∃ a dx fs, x = .ref a ∧ H3 a = some (.ins C dx fs) ∧ sp [.ref a, y, v] H3 (fun _ H4 => D.nx σ H4) (E σ)
end
section
variable {X : Cx} {CX : CXT} {k : Nat} {f C : Addr} {fd : FuncData} {ps : List Str} {sp : Sp} {E : St → XK} {o i value : Expr} {to ti tv : TE} {pos pos' : Pos}
theorem pe_ownIx (F : FnOk X.prog X.w X.K X.mg X.base CX k f fd ps sp) (hr : Room (k + 1) X.A) (hb : Binds X.K fd ps []) (hx : ∀ σ, PassesAt CX X σ (E σ)) (hs : Spc X.K C "__getitem__" f) (hf : PySem.W.fnIn X.K f = true) (ho : PE X o to) (hi : PE X i ti)
    (hsl : ∀ x v, subscripted i true (.ref x) v = runValue (.builtin "lifetime.subscript" ⟨[.ref x, v], []⟩) := by intro _ _; rfl) : PE X (.Subscript o i pos) (tOwnIx C sp E to ti) := by
  refine ⟨fun pins s σ H Q I h => Subscript_ (binT ho hi I h ?_)⟩
  rintro v u s2 x y H2 I2 rx ry ⟨a, dx, fs, rfl, ha, q⟩
  cases rx
  obtain ⟨od, J⟩ := inst_of I2 ha
  obtain ⟨m, fr⟩ := I2.fr
  refine PySem.W.sub_K fr I2.mod.kin J hs.at_ hf hs.fn ?_ (hsl a u)
  have rv : Vals [V.ref a, y] [Value.ref a, u] := .cons rfl (.cons ry .nil)
  refine wpAny_call (codeAny_mono (F.run X.A.in1 X.stack s2 H2 ⟨[.ref a, u], []⟩ [.ref a, u] [.ref a, y] Q (E σ) hr.in1 I2.env0.in1 (hb s2 [.ref a, u] I2.kIn ?_) rv q) fun r s' hq => back_of (hx σ) I2 hq)
  exact (F.len _ _ _ _ q)
theorem ps_ownPut (F : FnOk X.prog X.w X.K X.mg X.base CX k f fd ps sp) (hr : Room k X.A) (hb : Binds X.K fd ps []) (hx : ∀ σ, PassesAt CX X σ (E σ)) (hs : Spc X.K C "__setitem__" f) (hq : PySem.W.noSeq X.K C = true) (ho : PE X o to) (hi : PE X i ti) (hv : PE X value tv)
    (hsw : swapsWith value (some (.Subscript o i pos')) pos.line X.env = pure false) : PS X (.Assign [.Subscript o i pos'] value pos) (sOwnPut C sp E to ti tv) := by
  refine ⟨fun pins s σ H D I h => wpAny_Assign_Subscript (thn (hv.run pins s σ H _ I h) ?_) hsw⟩
  rintro r s1 ⟨v, H1, I1, rv, q1⟩
  refine thn (ho.run pins s1 σ H1 _ I1 q1) ?_
  rintro u s2 ⟨x, H2, I2, rx, q2⟩
  refine thn (hi.run pins s2 σ H2 _ I2 q2) ?_
  rintro iv s3 ⟨y, H3, I3, ry, a, dx, fs, rfl, ha, q3⟩
  cases rx
  obtain ⟨od, J⟩ := inst_of I3 ha
  obtain ⟨m, fr⟩ := I3.fr
  refine PySem.W.ksp_setItem fr I3.mod.kin J hq hs.at_ hs.fn ?_
  refine thn (run_fnSD (us := [.ref a, iv, r]) (vs := [.ref a, y, v]) (dvs := []) (E := E) F hr hb .nil (hx σ) I3 (.cons rfl (.cons ry (.cons rv .nil))) q3) ?_
  rintro _ s4 ⟨w, H4, I4, _, q4⟩
  exact ⟨σ, H4, I4, q4⟩
end
end L2.MP

set_option Elab.async false
set_option linter.all false
set_option maxRecDepth 100000
set_option maxHeartbeats 4000000
/-! The head: defs at any address that the written part tells, one Bool for all other facts, tables. -/
namespace L2.MP
open PySem PySem.Spec PyProof.Rows
/-- a def by the address that the written part gives it -/
structure DefM where
  adr : PySem.W.Frag → Addr
  name : Str
  qual : Str
  st : Stmt
  dfl : List He.Dv := []
  kwd : List (Str × He.Dv) := []
  fr : List Str := []
def dBody (s : Stmt) : List Stmt := defBody s
/-- a def's text; of its closure the names alone -/
abbrev FnV : Type := Option (Str × Str × Arguments × FuncBody × Scope × Addr × List Str × Addr)
def fnAt (K : PySem.W.Frag) (a : Addr) : FnV := match K.lookup a with
  | some ⟨_, _, .func fd, _⟩ => some (fd.name, fd.qualname, fd.params, fd.body, fd.scope, fd.globals, fd.closure.map (·.1), fd.builtins)
  | _ => none
def fdAt (K : PySem.W.Frag) (a : Addr) : FuncData := match K.lookup a with
  | some ⟨_, _, .func fd, _⟩ => fd
  | _ => PySem.W.fnOf "" "" (defArgs (.Pass ⟨0, 0, 0, 0⟩)) [] (defScope (.Pass ⟨0, 0, 0, 0⟩)) .none .none .none .none none .none .none
def DefM.val (d : DefM) : FnV := some (d.name, d.qual, defArgs d.st, .stmts (defBody d.st), defScope d.st, mainGlobals, d.fr, builtinsNs)
def DefM.dvs (K : PySem.W.Frag) (d : DefM) : List V := d.dfl.map (He.Dv.v K)
def DefM.kws (K : PySem.W.Frag) (d : DefM) : List (Str × V) := d.kwd.map fun q => (q.1, q.2.v K)
def DefM.ok (K : PySem.W.Frag) (d : DefM) : Bool := PySem.W.keepIn K (.ref (d.adr K)) && (match K.lookup (d.adr K) with
  | some ⟨_, _, .func fd, _⟩ => PySem.W.codeIn K fd.code d.qual && (He.dflB K fd.defaults (d.dvs K) && He.kwdB K fd.kwdefaults (d.kws K))
  | _ => false)
/-- a def of the text as it stands behind the top -/
abbrev FunM (K : PySem.W.Frag) (d : DefM) : Prop := FunD K d.name d.qual (defArgs d.st) (defBody d.st) (defScope d.st) (d.dvs K) (d.kws K) (d.adr K) (fdAt K (d.adr K))
theorem DefM.fun {K : PySem.W.Frag} {d : DefM} (hfr : d.fr = []) (e : fnAt K (d.adr K) = d.val) (c : d.ok K = true) : FunM K d := by
  obtain ⟨kp, c2⟩ := He.ba c
  revert e c2
  unfold FunM fnAt fdAt
  cases q : K.lookup (d.adr K) with
  | none => intro _ c2; cases c2
  | some o =>
    rcases o with ⟨oc, od, dt, osl⟩
    cases dt with
    | func fd =>
      rcases fd with ⟨n1, n2, n3, n4, n5, n6, n7, n8, n9, n10, n11, n12, n13, n14, n15⟩
      intro e c2
      have e2 : (some (n1, n2, n3, n4, n5, n6, n7.map (·.1), n15) : FnV) = some (d.name, d.qual, defArgs d.st, .stmts (defBody d.st), defScope d.st, mainGlobals, d.fr, builtinsNs) := e
      simp only [Option.some.injEq, Prod.mk.injEq] at e2
      rcases e2 with ⟨h1, h2, h3, h4, h5, h6, h7, h8⟩
      rw [hfr, List.map_eq_nil_iff] at h7
      subst h1 h2 h3 h4 h5 h6 h7 h8
      obtain ⟨k1, k2⟩ := He.ba c2
      obtain ⟨k3, k4⟩ := He.ba k2
      exact ⟨⟨oc, od, n8, n9, n10, n11, n12, n13, n14, osl, rfl, q, k1, He.dflB_ok k3, He.kwdB_ok k4⟩, kp⟩
    | _ => intro _ c2; cases c2
/-- a def that captures __class__ -/
structure FunC (K : PySem.W.Frag) (x qual : Str) (params : Arguments) (body : List Stmt) (scope : Scope) (f : Addr) (fd : FuncData) (c cc : Addr) : Prop where
  ex : ∃ (oc : Value) (od : Option Addr) (kV doc pm : Value) (an : Option Addr) (ct : Value) (osl : Array (Option Value)),
    fd = PySem.W.fnX x qual params body scope [("__class__", cc)] .none kV doc pm an (.ref c) ct ∧ K.lookup f = some ⟨oc, od, .func fd, osl⟩
  cd : PySem.W.codeIn K (.ref c) qual = true
  kp : PySem.W.keepIn K (.ref f) = true
def ccAt (K : PySem.W.Frag) (a : Addr) : Addr := match K.lookup a with
  | some ⟨_, _, .func fd, _⟩ => (match fd.closure with | (_, c) :: _ => c | _ => 0)
  | _ => 0
def cdAt (K : PySem.W.Frag) (a : Addr) : Addr := match K.lookup a with
  | some ⟨_, _, .func fd, _⟩ => (match fd.code with | .ref c => c | _ => 0)
  | _ => 0
abbrev FunMC (K : PySem.W.Frag) (d : DefM) : Prop := FunC K d.name d.qual (defArgs d.st) (defBody d.st) (defScope d.st) (d.adr K) (fdAt K (d.adr K)) (cdAt K (d.adr K)) (ccAt K (d.adr K))
theorem DefM.funC {K : PySem.W.Frag} {d : DefM} (hfr : d.fr = [("__class__" : Str)]) (hdf : d.dfl = []) (e : fnAt K (d.adr K) = d.val) (c : d.ok K = true) : FunMC K d := by
  obtain ⟨kp, c2⟩ := He.ba c
  revert e c2
  unfold FunMC fnAt fdAt ccAt cdAt
  cases q : K.lookup (d.adr K) with
  | none => intro _ c2; cases c2
  | some o =>
    rcases o with ⟨oc, od, dt, osl⟩
    cases dt with
    | func fd =>
      rcases fd with ⟨n1, n2, n3, n4, n5, n6, n7, n8, n9, n10, n11, n12, n13, n14, n15⟩
      intro e c2
      have e2 : (some (n1, n2, n3, n4, n5, n6, n7.map (·.1), n15) : FnV) = some (d.name, d.qual, defArgs d.st, .stmts (defBody d.st), defScope d.st, mainGlobals, d.fr, builtinsNs) := e
      simp only [Option.some.injEq, Prod.mk.injEq] at e2
      rcases e2 with ⟨h1, h2, h3, h4, h5, h6, h7, h8⟩
      rw [hfr] at h7
      obtain ⟨cc, rfl⟩ : ∃ cc : Addr, n7 = [(("__class__" : Str), cc)] := by
        rcases n7 with _ | ⟨⟨y, cc⟩, _ | ⟨z, r⟩⟩
        · cases h7
        · simp at h7
          exact ⟨cc, by rw [h7]⟩
        · simp at h7
      subst h1 h2 h3 h4 h5 h6 h8
      obtain ⟨k1, k2⟩ := He.ba c2
      obtain ⟨k3, k4⟩ := He.ba k2
      have k5 := He.dflB_ok k3
      rw [show d.dvs K = [] by unfold DefM.dvs; rw [hdf]; rfl] at k5
      have k6 : n8 = .none := by
        rcases k5 with ⟨_, z⟩ | ⟨z, _⟩
        · exact z
        · exact absurd rfl z
      obtain ⟨c1, rfl⟩ : ∃ c1, n13 = .ref c1 := by
        cases n13 with
        | ref c1 => exact ⟨c1, rfl⟩
        | _ => cases k1
      exact ⟨⟨oc, od, n9, n10, n11, n12, n14, osl, by rw [k6], q⟩, k1, kp⟩
    | _ => intro _ c2; cases c2
/-- the getter of the property m of the class named x -/
def pgA (x m : Str) (K : PySem.W.Frag) : Addr := match PySem.W.recIn K (He.ma K (He.ga K x) m) "property" with
  | some (.ref g :: _) => g
  | _ => 0
def propB (x m : Str) (K : PySem.W.Frag) : Bool := He.eqO (PySem.W.findIn K (.ref (He.ga K x)) m) (some (some (.ref (He.ma K (He.ga K x) m)))) &&
  (He.eqO (PySem.W.specialIn K (.ref (He.ma K (He.ga K x) m)) "__get__") (some (some (.builtin "property.__get__"))) && (decide (PySem.W.takesIn K (.ref (He.ma K (He.ga K x) m)) = some true) &&
    (match PySem.W.recIn K (He.ma K (He.ga K x) m) "property" with
    | some (.ref _ :: _) => true
    | _ => false)))
theorem propB_ok {x m : Str} {K : PySem.W.Frag} (h : propB x m K = true) : PropOf K (He.ga K x) m (He.ma K (He.ga K x) m) (pgA x m K) := by
  obtain ⟨h1, h⟩ := He.ba h
  obtain ⟨h2, h⟩ := He.ba h
  obtain ⟨h3, h4⟩ := He.ba h
  refine ⟨He.eqO_ok h1, He.eqO_ok h2, of_decide_eq_true h3, ?_⟩
  unfold pgA
  split at h4
  · rename_i g rest q
    rw [q]
    exact ⟨rest, rfl⟩
  · cases h4
def spcB (x m : Str) (K : PySem.W.Frag) : Bool := He.eqO (PySem.W.findIn K (.ref (He.ga K x)) m) (some (some (.ref (He.ma K (He.ga K x) m)))) && PySem.W.isFn K (.ref (He.ma K (He.ga K x) m))
theorem spcB_ok {x m : Str} {K : PySem.W.Frag} (h : spcB x m K = true) : Spc K (He.ga K x) m (He.ma K (He.ga K x) m) := by
  obtain ⟨h1, h2⟩ := He.ba h
  exact ⟨He.eqO_ok h1, h2⟩
/-- the Hook: all defs' texts, one Bool, tables with text keys -/
abbrev AlM : Type := List FnV × Bool × List (Option (List (Option (Str × Int))))
def obsM (fn : List DefM) (ex : PySem.W.Frag → Bool) (ts : List He.Tab) (K : PySem.W.Frag) : AlM := (fn.map (fun d => fnAt K (d.adr K)), (fn.all fun d => d.ok K) && ex K, ts.map fun t => He.dicW K (t.1 K))
def valM (fn : List DefM) (ts : List He.Tab) (w : World) : AlM := (fn.map DefM.val, true, ts.map fun t => some (He.keysIn w.params t.2))
structure SaysM (fn : List DefM) (ex : PySem.W.Frag → Bool) (ts : List He.Tab) (w : World) (K : PySem.W.Frag) : Prop where
  eq : obsM fn ex ts K = valM fn ts w
theorem SaysM.at_ {fn : List DefM} {ex : PySem.W.Frag → Bool} {ts : List He.Tab} {w : World} {K : PySem.W.Frag} (c : SaysM fn ex ts w K) (i : Nat) {d : DefM} (h : fn[i]? = some d := by rfl) : fnAt K (d.adr K) = d.val ∧ d.ok K = true := by
  have e1 : fn.map (fun d => fnAt K (d.adr K)) = fn.map DefM.val := congrArg (fun z : AlM => z.1) c.eq
  have e2 : ((fn.all fun d => d.ok K) && ex K) = true := congrArg (fun z : AlM => z.2.1) c.eq
  obtain ⟨h1, _⟩ := He.ba e2
  refine ⟨?_, List.all_eq_true.mp h1 d (List.mem_of_getElem? h)⟩
  have q := congrArg (fun l => l[i]?) e1
  simp only [List.getElem?_map, h, Option.map_some, Option.some.injEq] at q
  exact q
theorem SaysM.fun {fn : List DefM} {ex : PySem.W.Frag → Bool} {ts : List He.Tab} {w : World} {K : PySem.W.Frag} (c : SaysM fn ex ts w K) (i : Nat) {d : DefM} (hfr : d.fr = []) (h : fn[i]? = some d := by rfl) : FunM K d :=
  DefM.fun hfr (c.at_ i h).1 (c.at_ i h).2
theorem SaysM.funC {fn : List DefM} {ex : PySem.W.Frag → Bool} {ts : List He.Tab} {w : World} {K : PySem.W.Frag} (c : SaysM fn ex ts w K) (i : Nat) {d : DefM} (hfr : d.fr = [("__class__" : Str)]) (hdf : d.dfl = []) (h : fn[i]? = some d := by rfl) : FunMC K d :=
  DefM.funC hfr hdf (c.at_ i h).1 (c.at_ i h).2
theorem SaysM.more {fn : List DefM} {ex : PySem.W.Frag → Bool} {ts : List He.Tab} {w : World} {K : PySem.W.Frag} (c : SaysM fn ex ts w K) : ex K = true :=
  (He.ba (congrArg (fun z : AlM => z.2.1) c.eq : ((fn.all fun d => d.ok K) && ex K) = true)).2
theorem SaysM.tab {fn : List DefM} {ex : PySem.W.Frag → Bool} {ts : List He.Tab} {w : World} {K : PySem.W.Frag} (c : SaysM fn ex ts w K) (i : Nat) {t : He.Tab} (h : ts[i]? = some t := by rfl) : ∃ es n, KDict K w (t.1 K) es n := by
  have e : (ts.map fun t => He.dicW K (t.1 K)) = ts.map fun t => some (He.keysIn w.params t.2) := congrArg (fun z : AlM => z.2.2) c.eq
  have q := congrArg (fun l => l[i]?) e
  simp only [List.getElem?_map, h, Option.map_some, Option.some.injEq] at q
  exact He.dicW_ok q
def hookM (n : Nat) (fn : List DefM) (ex : PySem.W.Frag → Bool) (ts : List He.Tab) : PySem.W.Hook where
  α := AlM
  obs := fun s => obsM fn ex ts (He.frT s.heap.get? (He.asD s.heap.get? n))
  val := fun w => valM fn ts w
  says := fun w h => ∃ K : PySem.W.Frag, K.In h ∧ SaysM fn ex ts w K
  of := fun _ _ e => ⟨_, He.frT_in, ⟨e⟩⟩
  keeps := fun _ _ _ ⟨K, hK, c⟩ k => ⟨K, PySem.W.Frag.In.keeps hK k, c⟩
def obsMG (n : Nat) (fn : List DefM) (ex : PySem.W.Frag → Bool) (ts : List He.Tab) (s : PySem.W.SharedT) : AlM := obsM fn ex ts (He.frT (HandSHeadRun.getT s) (He.asD (HandSHeadRun.getT s) n))
theorem obsMG_eq (n : Nat) (fn : List DefM) (ex : PySem.W.Frag → Bool) (ts : List He.Tab) (s : PySem.W.SharedT) : obsMG n fn ex ts s = (hookM n fn ex ts).obs s.abs := by
  have e : HandSHeadRun.getT s = s.abs.heap.get? := funext (HandSHeadRun.getT_eq s)
  show obsM fn ex ts (He.frT (HandSHeadRun.getT s) (He.asD (HandSHeadRun.getT s) n)) = obsM fn ex ts (He.frT s.abs.heap.get? (He.asD s.abs.heap.get? n))
  rw [e]
end L2.MP

set_option Elab.async false
set_option linter.all false
set_option maxRecDepth 100000
set_option maxHeartbeats 4000000
/-! Named readings of the operators and built-in functions that the programs use. -/
namespace L2.MP
open PySem PySem.Spec PyProof.Rows
section
variable {X : Cx}
/-! ### names -/
theorem pe_gint {x : Str} {i : Int} {pos : Pos} (hg : Gl X x) (h : ∃ t, X.mg x = some (.int i t)) (hd : (x == ("__debug__" : Str)) = false := by decide) : PE X (.Name x pos) (tC (.int i)) := by
  obtain ⟨t, h⟩ := h
  exact pe_glob hg h ⟨t, rfl⟩ hd
theorem pe_gstr {x z : Str} {pos : Pos} (hg : Gl X x) (h : ∃ t, X.mg x = some (.str z t)) (hd : (x == ("__debug__" : Str)) = false := by decide) : PE X (.Name x pos) (tC (.str z)) := by
  obtain ⟨t, h⟩ := h
  exact pe_glob hg h ⟨t, rfl⟩ hd
/-! ### numbers -/
def rSubI : R2 := rI0 fun i j => .int (i - j)
def rAddI : R2 := rI0 fun i j => .int (i + j)
def rFdivI : R2 := rI CDiv fun i j => .int (i / j)
def rModI : R2 := rI (fun _ j => 0 < j) fun i j => .int (i % j)
def rPowI : R2 := rI CPow fun i j => .int (i ^ j.toNat)
def rNegI : V → Hp → VK → Prop := rU fun i => .int (-i)
theorem op_subI : OpR X (binaryOp .Sub) rSubI := op_sub
theorem op_fdivI : OpR X (binaryOp .FloorDiv) rFdivI := op_fdiv
theorem op_modI : OpR X (binaryOp .Mod) rModI := op_mod
theorem op_powI : OpR X (binaryOp .Pow) rPowI := op_pow
theorem un_negI : UnR X (unaryOp .USub) rNegI := un_neg
theorem iop_addI : OpR X (inplaceOp .Add) rAddI := iop_add
def rLtI : R2 := rI0 fun i j => .bl (decide (i < j))
def rLeI : R2 := rI0 fun i j => .bl (decide (i ≤ j))
def rGtI : R2 := rI0 fun i j => .bl (decide (j < i))
def rGeI : R2 := rI0 fun i j => .bl (decide (j ≤ i))
theorem op_ltI : OpR X (compareOp .Lt) rLtI := op_lt
theorem op_leI : OpR X (compareOp .LtE) rLeI := op_le
theorem op_gtI : OpR X (compareOp .Gt) rGtI := op_gt
theorem op_geI : OpR X (compareOp .GtE) rGeI := op_ge
/-! ### plus and times of any kind -/
def rAddA (K : PySem.W.Frag) : R2 := fun x y H Q => match x, y with
  | .int i, .int j => Q (.int (i + j)) H
  | .str i, .str j => i.length + j.length ≤ sizeLine ∧ Q (.str (i ++ j)) H
  | .ref a, .ref b => rCat (.ref a) (.ref b) H Q ∨ rCatA K (.ref a) (.ref b) H Q
  | _, _ => False
theorem op_addA : OpR X (binaryOp .Add) (rAddA X.K) := by
  intro pins s σ H x y v u Q I rx ry h
  cases x <;> cases y <;> first
    | exact op_add pins s σ H _ _ v u Q I rx ry ⟨_, _, rfl, rfl, h⟩
    | exact op_add_str pins s σ H _ _ v u Q I rx ry ⟨_, _, rfl, rfl, h.1, h.2⟩
    | exact h.elim (op_cat pins s σ H _ _ v u Q I rx ry) (op_catA pins s σ H _ _ v u Q I rx ry)
    | exact h.elim
def rMulA : R2 := fun x y H Q => match x, y with
  | .int i, .int j => CMul i j ∧ Q (.int (i * j)) H
  | .str z, .int n => MulOk z n ∧ Q (.str (Txt.mul z n)) H
  | _, _ => False
theorem op_mulA : OpR X (binaryOp .Mult) rMulA := by
  intro pins s σ H x y v u Q I rx ry h
  cases x <;> cases y <;> first
    | exact op_mul pins s σ H _ _ v u Q I rx ry ⟨_, _, rfl, rfl, h.1, h.2⟩
    | (obtain ⟨h1, q⟩ := h
       obtain ⟨t, rfl⟩ := rx
       obtain ⟨t', rfl⟩ := ry
       exact SB.mul h1 fun t2 k => ⟨.str _, H, I.tok _, ⟨_, rfl⟩, q⟩)
    | exact h.elim
/-! ### equal or not, of scalars and of nested data -/
def rEqA (K : PySem.W.Frag) : R2 := fun x y H Q => rEq x y H Q ∨ rEqD K x y H Q
def rNeA (K : PySem.W.Frag) : R2 := fun x y H Q => rNe x y H Q ∨ rNeD K x y H Q
theorem op_eqA (hu : X.A.units + 64 < cLine) : OpR X (compareOp .Eq) (rEqA X.K) := orO op_eq (op_eqD hu)
theorem op_neA (hu : X.A.units + 64 < cLine) : OpR X (compareOp .NotEq) (rNeA X.K) := orO op_ne (op_neD hu)
def rIsNone : R2 := fun x y H Q => y = .non ∧ Q (.bl (decide (x = .non))) H
def rNotNone : R2 := fun x y H Q => y = .non ∧ Q (.bl (!decide (x = .non))) H
theorem op_isNone : OpR X (compareOp .Is) rIsNone := op_isN
theorem op_notNone : OpR X (compareOp .IsNot) rNotNone := op_notN
/-! ### in -/
def rInDict (neg : Bool) : R2 := fun x y H Q => ∃ a o, y = .ref a ∧ DGet H a x o ∧ Q (.bl (if neg then !o.isSome else o.isSome)) H
theorem op_inDict (hu : X.A.units + 1 < cLine) : OpR X (compareOp .In) (rInDict false) := by
  rintro pins s σ H x y v u Q I rx ry ⟨a, o, rfl, g, q⟩
  cases ry
  exact d_in hu I g rx fun s' I' => ⟨.bl o.isSome, H, I', rfl, q⟩
theorem op_notInDict (hu : X.A.units + 1 < cLine) : OpR X (compareOp .NotIn) (rInDict true) := by
  rintro pins s σ H x y v u Q I rx ry ⟨a, o, rfl, g, q⟩
  cases ry
  exact d_notIn hu I g rx fun s' I' => ⟨.bl (!o.isSome), H, I', rfl, q⟩
def rInA (K : PySem.W.Frag) (neg : Bool) : R2 := fun x y H Q => rIn K neg x y H Q ∨ rInDict neg x y H Q
theorem op_inA (hu : X.A.units + 1 < cLine) : OpR X (compareOp .In) (rInA X.K false) := orO op_in_seq (op_inDict hu)
theorem op_notInA (hu : X.A.units + 1 < cLine) : OpR X (compareOp .NotIn) (rInA X.K true) := orO op_notIn_seq (op_notInDict hu)
/-! ### built-in functions -/
def rAbsI : List V → Hp → VK → Prop := fun xs H Q => match xs with
  | [.int i] => Q (.int (if i < 0 then -i else i)) H
  | _ => False
theorem call_absI : CallR X (.builtin "abs") rAbsI := wkC call_abs fun xs H Q q => by
  rcases xs with _ | ⟨x, _ | ⟨y, r⟩⟩
  · exact q.elim
  · cases x <;> first | exact ⟨_, rfl, q⟩ | exact q.elim
  · cases x <;> exact q.elim
def rMax2I : List V → Hp → VK → Prop := fun xs H Q => match xs with
  | [.int i, .int j] => Q (.int (if j > i then j else i)) H
  | _ => False
theorem two_of {P : List V → Prop} {F : Int → Int → Prop} {xs : List V} (h : match xs with | [.int i, .int j] => F i j | _ => False) : ∃ i j, xs = [.int i, .int j] ∧ F i j := by
  split at h
  · exact ⟨_, _, rfl, h⟩
  · exact h.elim
theorem call_max2I (hc : X.calm = true) : CallR X (.builtin "max") rMax2I := wkC (call_max2 hc) fun xs H Q q => two_of (P := fun _ => True) q
def rMin2I : List V → Hp → VK → Prop := fun xs H Q => match xs with
  | [.int i, .int j] => Q (.int (if j < i then j else i)) H
  | _ => False
theorem call_min2I (hc : X.calm = true) : CallR X (.builtin "min") rMin2I := wkC (call_min2 hc) fun xs H Q q => two_of (P := fun _ => True) q
def rIntA : List V → Hp → VK → Prop := fun xs H Q => match xs with
  | [.int i] => Q (.int i) H
  | [.bl k] => Q (.int (if k then 1 else 0)) H
  | _ => False
theorem call_intA : CallR X (.type "int") rIntA := wkC call_int1 fun xs H Q q => by
  unfold rIntA at q
  split at q
  · exact .inl ⟨_, rfl, q⟩
  · exact .inr ⟨_, rfl, q⟩
  · exact q.elim
def rLenA (K : PySem.W.Frag) : List V → Hp → VK → Prop := fun xs H Q => ∃ x n, xs = [x] ∧ LenV K x H n ∧ Q (.int n) H
theorem call_lenA : CallR X (.builtin "len") (rLenA X.K) := call_len
def rLenD : List V → Hp → VK → Prop := fun xs H Q => ∃ a kvs, xs = [V.ref a] ∧ H a = some (.dK kvs) ∧ Q (.int kvs.length) H
theorem call_lenDI : CallR X (.builtin "len") rLenD := call_lenD
def rListA (K : PySem.W.Frag) : List V → Hp → VK → Prop := fun xs H Q => ∃ p ys, xs = [.ref p] ∧ (SqL K H p ys ∨ SqT K H p ys) ∧ ∀ l, H l = none → Q (.ref l) (upd H l (.lst ys))
theorem call_listA : CallR X (.type "list") (rListA X.K) := call_list_of
def rTupleA (K : PySem.W.Frag) : List V → Hp → VK → Prop := fun xs H Q => ∃ p ys, xs = [.ref p] ∧ ((SqL K H p ys ∧ ∀ l, H l = none → Q (.ref l) (upd H l (.tup ys))) ∨ (SqT K H p ys ∧ Q (.ref p) H))
theorem call_tupleA : CallR X (.type "tuple") (rTupleA X.K) := call_tuple_of
def rStrI : List V → Hp → VK → Prop := fun xs H Q => ∃ i, xs = [.int i] ∧ i.natAbs.log2 < 1920 ∧ Q (.str (toString i)) H
theorem call_strI : CallR X (.type "str") rStrI := call_str_int
/-! ### texts -/
def rSplitA : V → List V → Hp → VK → Prop := fun x xs H Q => ∃ a b, x = V.str a ∧ xs = [V.str b] ∧ (b.length == 0) = false ∧ a.length + 2 ≤ sizeLine ∧ rNewStrs (Txt.split a b) H Q
theorem pe_splitA {o e : Expr} {to te : TE} {apos pos : Pos} (ho : PE X o to) (he : PE X e te) (h1 : starEach [e] X.env = [(false, eval e X.env)] := by rfl) (h2 : attributeBase o "split" X.env (eval o X.env) = eval o X.env := by rfl)
    (h3 : (apos.endLine == pos.line) = true := by rfl) : PE X (.Call (.Attribute o "split" apos) [e] [] pos) (tM1 rSplitA to te) := pe_split ho he h1 h2 h3
def rJoinA (K : PySem.W.Frag) : V → List V → Hp → VK → Prop := fun x xs H Q => ∃ a p ys, x = V.str a ∧ xs = [V.ref p] ∧ (SqL K H p (ys.map V.str) ∨ SqT K H p (ys.map V.str)) ∧ (ys.map (·.length)).sum + ys.length * a.length ≤ 16777216 ∧ Q (V.str (Txt.join a ys)) H
theorem pe_joinA {o e : Expr} {to te : TE} {apos pos : Pos} (ho : PE X o to) (he : PE X e te) (h1 : starEach [e] X.env = [(false, eval e X.env)] := by rfl) (h2 : attributeBase o "join" X.env (eval o X.env) = eval o X.env := by rfl)
    (h3 : (apos.endLine == pos.line) = true := by rfl) : PE X (.Call (.Attribute o "join" apos) [e] [] pos) (tM1 (rJoinA X.K) to te) := pe_join ho he h1 h2 h3
def rSlAny (K : PySem.W.Frag) : V → Option Int → Option Int → Hp → VK → Prop := fun x lo hi H Q => rSlL K x lo hi H Q ∨ rSlA K x lo hi H Q ∨ rSlS x lo hi H Q
theorem sl_Any : SlR X (rSlAny X.K) := sl_list.or (sl_tupA.or sl_str)
/-! ### raising -/
def tRaiseE (E : XK) (cls : Value) : TS := fun _ _ H => E cls none H
end
theorem passL0 {X : Cx} {σ : St} : PassesAt (L2.CX X.prog X.w) X σ E0 := fun pins H s e s' I c => passL pins σ H s e s' I c
/-! ### facts by Bools, the end -/
def excM (x : Str) (K : PySem.W.Frag) : Bool := PySem.W.excIn K (He.ga K x) He.veBase "ValueError.__new__" && (PySem.W.keepIn K (.ref (He.ga K x)) && (decide (PySem.W.subIn K (.ref (He.ga K x)) (.type "BaseException") = some true) && decide (PySem.W.typeIn K (.ref (He.ga K x)) = some (.type "type"))))
theorem excM_ok {x : Str} {K : PySem.W.Frag} (h : excM x K = true) : PySem.W.excIn K (He.ga K x) He.veBase "ValueError.__new__" = true ∧ PySem.W.keepIn K (.ref (He.ga K x)) = true ∧ PySem.W.subIn K (.ref (He.ga K x)) (.type "BaseException") = some true ∧ PySem.W.typeIn K (.ref (He.ga K x)) = some (.type "type") := by
  obtain ⟨h1, h⟩ := He.ba h
  obtain ⟨h2, h⟩ := He.ba h
  obtain ⟨h3, h4⟩ := He.ba h
  exact ⟨h1, h2, of_decide_eq_true h3, of_decide_eq_true h4⟩
def orIntB (x : Str) (K : PySem.W.Frag) : Bool := (PySem.W.findIn K (.type "int") "__or__").isSome && ((PySem.W.findIn K (.type "int") "__ror__").isSome && (decide (PySem.W.subIn K (.type "int") (.ref (He.ga K x)) = some false) &&
  (match PySem.W.findIn K (.ref (He.ga K x)) "__ror__" with
  | some none => true
  | some (some (.ref _)) => true
  | _ => false)))
theorem orIntB_ok {x : Str} {K : PySem.W.Frag} (h : orIntB x K = true) : (∃ fo, PySem.W.findIn K (.type "int") "__or__" = some fo) ∧ (∃ ro, PySem.W.findIn K (.type "int") "__ror__" = some ro) ∧ PySem.W.subIn K (.type "int") (.ref (He.ga K x)) = some false ∧
    (∃ rc, PySem.W.findIn K (.ref (He.ga K x)) "__ror__" = some rc ∧ (rc = none ∨ ∃ g : Addr, rc = some (.ref g))) := by
  obtain ⟨h1, h⟩ := He.ba h
  obtain ⟨h2, h⟩ := He.ba h
  obtain ⟨h3, h4⟩ := He.ba h
  refine ⟨Option.isSome_iff_exists.mp h1, Option.isSome_iff_exists.mp h2, of_decide_eq_true h3, ?_⟩
  split at h4
  · rename_i q; exact ⟨none, q, .inl rfl⟩
  · rename_i g q; exact ⟨some (.ref g), q, .inr ⟨g, rfl⟩⟩
  · cases h4
theorem op_ownI2 {X : Cx} {k : Nat} {f C : Addr} {fd : FuncData} {ps : List Str} {sp : Sp} (hf : (∃ fo, PySem.W.findIn X.K (.type "int") "__or__" = some fo) ∧ (∃ ro, PySem.W.findIn X.K (.type "int") "__ror__" = some ro) ∧ PySem.W.subIn X.K (.type "int") (.ref C) = some false ∧
    (∃ rc, PySem.W.findIn X.K (.ref C) "__ror__" = some rc ∧ (rc = none ∨ ∃ g : Addr, rc = some (.ref g))))
    (F : FnOk X.prog X.w X.K X.mg X.base (L2.CX X.prog X.w) k f fd ps sp) (hr : Room k X.A) (hb : Binds X.K fd ps []) (hc : PySem.W.selfFirst X.K C = true) (hs : Spc X.K C "__or__" f) : OpR X (binaryOp .BitOr) (rOwnI C sp) := by
  obtain ⟨⟨fo, h1⟩, ⟨ro, h2⟩, h3, rc, h4, h5⟩ := hf
  exact op_ownI (op := .BitOr) F hr hb hc hs h4 h5 h1 h2 h3
theorem fact_of {l : List (PySem.W.Frag → Bool)} {K : PySem.W.Frag} (h : (l.all fun f => f K) = true) (i : Nat) {f : PySem.W.Frag → Bool} (e : l[i]? = some f := by rfl) : f K = true :=
  List.all_eq_true.mp h f (List.mem_of_getElem? e)
/-- a def from which nothing that is raised comes -/
theorem fn_close {P : Program} {w : World} {K : PySem.W.Frag} {mg : Str → Option Value} {base : Heap} {k : Nat} {f : Addr} {fd : FuncData} {ps : List Str} {sp : Sp} (F : FnOk P w K mg base (L2.CX P w) k f fd ps sp) :
    FnOk P w K mg base CX0 k f fd ps (fun vs H Q _ => sp vs H Q E0) := by
  refine ⟨fun vs H Q _ h => F.len vs H Q E0 h, fun A outer s H args us vs Q E hr he hb hv h => codeAny_mono (F.run A outer s H args us vs Q E0 hr he hb hv h) fun r s' hq => ?_⟩
  rcases r with e | fl
  · obtain ⟨_, _, _, _, _, _, _, _, _, _, _, _, z⟩ := (show L2.CX P w outer H s E0 e s' from hq)
    exact z.elim
  · cases fl <;> exact hq
end L2.MP

set_option Elab.async false
set_option linter.all false
set_option maxRecDepth 100000
set_option maxHeartbeats 4000000
/-! Reading step by step: one lemma a combinator, and the tactic that takes them. -/
namespace L2.MP
open PySem PySem.Spec PyProof.Rows
/-- all that is tracked stays -/
def Ex (H H' : Hp) : Prop := ∀ a o, H a = some o → H' a = some o
theorem Ex.refl (H : Hp) : Ex H H := fun _ _ h => h
theorem Ex.trans {H H1 H2 : Hp} (a : Ex H H1) (b : Ex H1 H2) : Ex H H2 := fun x o h => b x o (a x o h)
theorem Ex.new {H : Hp} {p : Addr} {o : HO} (h : H p = none) : Ex H (upd H p o) := fun a u e => by rw [upd_ne (ne_of_none e h)]; exact e
theorem Ex.new' {H H' : Hp} {p : Addr} {o : HO} (e : Ex H H') (h : H p = none) : Ex H (upd H' p o) := fun a u ha => by rw [upd_ne (ne_of_none ha h)]; exact e a u ha
theorem Ex.at {H H' : Hp} {a : Addr} {o : HO} (e : Ex H H') (h : H a = some o) : H' a = some o := e a o h
theorem Ex.none {H H' : Hp} {a : Addr} (e : Ex H H') (h : H' a = none) : H a = none := by
  cases q : H a with
  | none => rfl
  | some o => rw [e a o q] at h; cases h
theorem Ex.sqL {K : PySem.W.Frag} {H H' : Hp} {a : Addr} {xs : List V} (e : Ex H H') (h : SqL K H a xs) : SqL K H' a xs := Same.seq e h
theorem Ex.sqT {K : PySem.W.Frag} {H H' : Hp} {a : Addr} {xs : List V} (e : Ex H H') (h : SqT K H a xs) : SqT K H' a xs := by
  rcases h with (h | ⟨o, h⟩) | h
  · exact .inl (.inl (e _ _ h))
  · exact .inl (.inr ⟨o, e _ _ h⟩)
  · exact .inr h
theorem up_new {H : Hp} {p a : Addr} {o u : HO} (hp : H p = none) (h : H a = some u) : upd H p o a = some u := (Ex.new hp).at h
theorem up_ne {H : Hp} {p a : Addr} {o u : HO} (hn : a ≠ p) (h : H a = some u) : upd H p o a = some u := by rw [upd_ne hn]; exact h
theorem up_none {H : Hp} {p a : Addr} {o : HO} (h : upd H p o a = none) : H a = none := by
  by_cases e : a = p
  · subst e; rw [upd_same] at h; cases h
  · rw [upd_ne e] at h; exact h
theorem sqL_of {K : PySem.W.Frag} {H : Hp} {a : Addr} {xs : List V} (h : H a = some (.lst xs)) : SqL K H a xs := .inl (.inl h)
theorem sqT_of {K : PySem.W.Frag} {H : Hp} {a : Addr} {xs : List V} (h : H a = some (.tup xs)) : SqT K H a xs := .inl (.inl h)
theorem sqL_ne {K : PySem.W.Frag} {H : Hp} {p a : Addr} {o : HO} {xs : List V} (hn : a ≠ p) (h : SqL K H a xs) : SqL K (upd H p o) a xs := by
  rcases h with (h | ⟨u, h⟩) | h
  · exact .inl (.inl (up_ne hn h))
  · exact .inl (.inr ⟨u, up_ne hn h⟩)
  · exact .inr h
theorem sqT_ne {K : PySem.W.Frag} {H : Hp} {p a : Addr} {o : HO} {xs : List V} (hn : a ≠ p) (h : SqT K H a xs) : SqT K (upd H p o) a xs := by
  rcases h with (h | ⟨u, h⟩) | h
  · exact .inl (.inl (up_ne hn h))
  · exact .inl (.inr ⟨u, up_ne hn h⟩)
  · exact .inr h
theorem up_sqL {K : PySem.W.Frag} {H : Hp} {p a : Addr} {o : HO} {xs : List V} (hp : H p = none) (h : SqL K H a xs) : SqL K (upd H p o) a xs := (Ex.new hp).sqL h
theorem up_sqT {K : PySem.W.Frag} {H : Hp} {p a : Addr} {o : HO} {xs : List V} (hp : H p = none) (h : SqT K H a xs) : SqT K (upd H p o) a xs := (Ex.new hp).sqT h
theorem sz_of {n : Nat} (h : n ≤ 100000) : n ≤ sizeLine := Nat.le_trans h (by decide)
theorem szl_of {n : Nat} (h : n < 100000) : n < sizeLine := Nat.lt_of_lt_of_le h (by decide)
/-- the field f of instances of C is read plainly -/
class HasF (K : PySem.W.Frag) (C : Addr) (f : Str) : Prop where
  cls : Cls K C
  na : NoAttr K C f
class Lk (fs : List (Str × V)) (f : Str) (v : outParam V) : Prop where
  eq : fs.lookup f = some v
class LkN (fs : List (Str × V)) (f : Str) : Prop where
  eq : fs.lookup f = none
class Pf (f : Str) (v : V) (fs : List (Str × V)) (gs : outParam (List (Str × V))) : Prop where
  eq : putF f v fs = gs
  sm : fs.length < 1000

/-- the names of a turn, written out -/
class StC (ns : List Str) (vs : List V) (σ : outParam St) : Prop where
  eq : start ns vs = σ
class SetC (σ : St) (i : Nat) (o : Option V) (σ' : outParam St) : Prop where
  eq : σ.set i o = σ'
class GetC (σ : St) (i : Nat) (v : outParam V) : Prop where
  eq : σ[i]? = some (some v)
instance : StC [] [] [] := ⟨rfl⟩
instance {n : Str} {ns : List Str} {σ : St} [c : StC ns [] σ] : StC (n :: ns) [] (none :: σ) := ⟨by rw [← c.eq]; simp [start, List.replicate_succ]⟩
instance {n : Str} {ns : List Str} {v : V} {vs : List V} {σ : St} [c : StC ns vs σ] : StC (n :: ns) (v :: vs) (some v :: σ) := ⟨by rw [← c.eq]; simp [start]⟩
instance {a o : Option V} {l : St} : SetC (a :: l) 0 o (o :: l) := ⟨rfl⟩
instance {a o : Option V} {l l' : St} {i : Nat} [c : SetC l i o l'] : SetC (a :: l) (i + 1) o (a :: l') := ⟨by rw [← c.eq]; rfl⟩
instance {v : V} {l : St} : GetC (some v :: l) 0 v := ⟨rfl⟩
instance {v : V} {a : Option V} {l : St} {i : Nat} [c : GetC l i v] : GetC (a :: l) (i + 1) v := ⟨by rw [← c.eq]; rfl⟩
section
variable {K : PySem.W.Frag} {σ : St} {H : Hp} {Q : VK} {te ta tb : TE} {tr : TA} {v x y : V} {i : Nat} {n b c : St → Hp → Prop} {r : VK} {t u : TS} {tt tu : TT} {BQ : Bool → Hp → Prop} {AQ : List V → Hp → Prop} {vs : List V}
/-! statements -/
theorem k_seq (h : t ⟨u ⟨n, r, b, c⟩, r, b, c⟩ σ H) : tSeq t u ⟨n, r, b, c⟩ σ H := h
theorem k_next (h : n σ H) : tNext ⟨n, r, b, c⟩ σ H := h
theorem k_brk (h : b σ H) : tBreak ⟨n, r, b, c⟩ σ H := h
theorem k_cont (h : c σ H) : tCont ⟨n, r, b, c⟩ σ H := h
theorem k_drop (h : te σ H fun _ H1 => n σ H1) : tDrop te ⟨n, r, b, c⟩ σ H := h
theorem k_ret (h : te σ H r) : tRet te ⟨n, r, b, c⟩ σ H := h
theorem k_retN (h : r .non H) : tRetN ⟨n, r, b, c⟩ σ H := h
theorem k_if (h : tt σ H fun k H1 => if k = true then t ⟨n, r, b, c⟩ σ H1 else u ⟨n, r, b, c⟩ σ H1) : tIfS tt t u ⟨n, r, b, c⟩ σ H := h
def Asg (i : Nat) (σ : St) (n : St → Hp → Prop) : VK := fun z H1 => n (σ.set i (some z)) H1
theorem k_asg (h : te σ H (Asg i σ n)) : tAsg te (gName i) ⟨n, r, b, c⟩ σ H := h
theorem k_asgS {σ' : St} [c : SetC σ i (some x) σ'] (q : n σ' H) : Asg i σ n x H := by show n _ H; rw [c.eq]; exact q
theorem k_aug {ti : TIp} [g : GetC σ i x] (h : te σ H fun y H1 => ti x y H1 (Asg i σ n)) : tAug i te ti ⟨n, r, b, c⟩ σ H := ⟨x, g.eq, h⟩
theorem o_addIp {p q' : Int} (q : Q (.int (p + q')) H) : rAddI (.int p) (.int q') H Q := ⟨p, q', rfl, rfl, q⟩
theorem k_start {T : TS} {D : Ends} {ns : List Str} {vs : List V} {σ' : St} [c : StC ns vs σ'] (q : T D σ' H) : T D (start ns vs) H := by rw [c.eq]; exact q
theorem k_raise {E : XK} {cls : Value} (h : E cls none H) : tRaiseE E cls ⟨n, r, b, c⟩ σ H := h
def RPut (K : PySem.W.Frag) (f : Str) (x y : V) (H : Hp) (k : Hp → Prop) : Prop := ∃ a C dx fs, x = .ref a ∧ H a = some (.ins C dx fs) ∧ Cls K C ∧ NoAttr K C f ∧ fs.length < 1000 ∧ k (upd H a (.ins C dx (putF f y fs)))
theorem k_fldp {f : Str} {tv : TE} (h : tv σ H fun y H1 => ta σ H1 fun x H2 => RPut K f x y H2 (fun H3 => n σ H3)) : sFld K ta tv f ⟨n, r, b, c⟩ σ H := h
theorem k_rput {f : Str} {a C dx : Addr} {fs gs : List (Str × V)} {k : Hp → Prop} (h : H a = some (.ins C dx fs)) (i : HasF K C f) (j : Pf f y fs gs) (q : k (upd H a (.ins C dx gs))) : RPut K f (.ref a) y H k :=
  ⟨a, C, dx, fs, rfl, h, i.cls, i.na, j.sm, by rw [j.eq]; exact q⟩
/-! tests -/
def Bq (BQ : Bool → Hp → Prop) (x : V) (H : Hp) : Prop := ∃ k, x = .bl k ∧ BQ k H
theorem k_test (h : te σ H (Bq BQ)) : tTest te σ H BQ := h
theorem k_tB (h : te σ H (Bq BQ)) : tB te σ H BQ := h
theorem k_bl {k : Bool} (h : BQ k H) : Bq BQ (.bl k) H := ⟨k, rfl, h⟩
def RAndT (tu : TT) (σ : St) (BQ : Bool → Hp → Prop) (k : Bool) (H : Hp) : Prop := if k = true then tu σ H BQ else BQ false H
def ROrT (tu : TT) (σ : St) (BQ : Bool → Hp → Prop) (k : Bool) (H : Hp) : Prop := if k = true then BQ true H else tu σ H BQ
theorem k_and (h : tt σ H (RAndT tu σ BQ)) : tAnd tt tu σ H BQ := h
theorem k_or (h : tt σ H (ROrT tu σ BQ)) : tOr tt tu σ H BQ := h
theorem k_not (h : tt σ H fun k H1 => BQ (!k) H1) : tNot tt σ H BQ := h
theorem k_itT {A B : Prop} (h : A) : if true = true then A else B := by rw [if_pos rfl]; exact h
theorem k_itF {A B : Prop} (h : B) : if false = true then A else B := by rw [if_neg Bool.false_ne_true]; exact h
theorem k_itdT {p A B : Prop} [Decidable p] (hp : p) (h : A) : if decide p = true then A else B := by rw [decide_eq_true hp]; exact k_itT h
theorem k_itdF {p A B : Prop} [Decidable p] (hp : ¬ p) (h : B) : if decide p = true then A else B := by rw [decide_eq_false hp]; exact k_itF h
theorem k_itnT {p A B : Prop} [Decidable p] (hp : ¬ p) (h : A) : if (!decide p) = true then A else B := by rw [decide_eq_false hp]; exact k_itT h
theorem k_itnF {p A B : Prop} [Decidable p] (hp : p) (h : B) : if (!decide p) = true then A else B := by rw [decide_eq_true hp]; exact k_itF h
theorem k_itd {p A B : Prop} [Decidable p] (h1 : p → A) (h2 : ¬ p → B) : if decide p = true then A else B := by
  by_cases h : p
  · exact k_itdT h (h1 h)
  · exact k_itdF h (h2 h)
theorem k_inot {k : Bool} {A B : Prop} (h : if k = true then B else A) : if (!k) = true then A else B := by
  cases k
  · exact k_itT (by rw [if_neg Bool.false_ne_true] at h; exact h)
  · exact k_itF (by rw [if_pos rfl] at h; exact h)
theorem k_itb {k : Bool} {A B : Prop} (h1 : k = true → A) (h2 : k = false → B) : if k = true then A else B := by
  cases k
  · exact k_itF (h2 rfl)
  · exact k_itT (h1 rfl)
theorem k_randtP {e z : Bool} (h2 : ∀ Q' : Bool → Hp → Prop, Q' z H → tu σ H Q') (q : BQ (e && z) H) : RAndT tu σ BQ e H := by cases e; exact k_itF q; exact k_itT (h2 _ q)
theorem k_rortP {e z : Bool} (h2 : ∀ Q' : Bool → Hp → Prop, Q' z H → tu σ H Q') (q : BQ (e || z) H) : ROrT tu σ BQ e H := by cases e; exact k_itF (h2 _ q); exact k_itT q
theorem k_randtS {e : Bool} (h : if e = true then tu σ H BQ else BQ false H) : RAndT tu σ BQ e H := h
theorem k_rortS {e : Bool} (h : if e = true then BQ true H else tu σ H BQ) : ROrT tu σ BQ e H := h
/-! expressions -/
theorem k_var [h : GetC σ i v] (q : Q v H) : tVar i σ H Q := ⟨v, h.eq, q⟩
theorem k_c (q : Q v H) : tC v σ H Q := q
theorem k_op {ro : R2} (h : ta σ H fun x H1 => tb σ H1 fun y H2 => ro x y H2 Q) : tOp ro ta tb σ H Q := h
theorem k_un {ro : V → Hp → VK → Prop} (h : ta σ H fun x H1 => ro x H1 Q) : tUn ro ta σ H Q := h
theorem k_nil (q : AQ [] H) : tNil σ H AQ := q
theorem k_cons (h : ta σ H fun x H1 => tr σ H1 fun xs H2 => AQ (x :: xs) H2) : tCons ta tr σ H AQ := h
theorem k_cb {ro : List V → Hp → VK → Prop} (h : tr σ H fun xs H1 => ro xs H1 Q) : tCB ro tr σ H Q := h
def RIfE (ta tb : TE) (σ : St) (Q : VK) (k : Bool) (H : Hp) : Prop := if k = true then ta σ H Q else tb σ H Q
theorem k_randtT (h : tu σ H BQ) : RAndT tu σ BQ true H := k_itT h
theorem k_randtF (h : BQ false H) : RAndT tu σ BQ false H := k_itF h
theorem k_rortT (h : BQ true H) : ROrT tu σ BQ true H := k_itT h
theorem k_rortF (h : tu σ H BQ) : ROrT tu σ BQ false H := k_itF h
theorem k_ifT {A B : Prop} {e : Bool} (h : e = true) (q : A) : if e = true then A else B := by rw [if_pos h]; exact q
theorem k_ifF {A B : Prop} {e : Bool} (h : e = false) (q : B) : if e = true then A else B := by rw [h]; exact k_itF q
theorem k_ifE (h : tt σ H (RIfE ta tb σ Q)) : tIf tt ta tb σ H Q := h
theorem k_rifI {e : Bool} {p p' : Int} (h1 : ∀ Q' : VK, Q' (.int p) H → ta σ H Q') (h2 : ∀ Q' : VK, Q' (.int p') H → tb σ H Q') (q : Q (.int (if e = true then p else p')) H) : RIfE ta tb σ Q e H := by cases e; exact k_itF (h2 _ q); exact k_itT (h1 _ q)
theorem k_rifS {e : Bool} (h : if e = true then ta σ H Q else tb σ H Q) : RIfE ta tb σ Q e H := h
def RAnd (k f : Hp → Prop) (x : V) (H : Hp) : Prop := ∃ c, x = .bl c ∧ if c = true then k H else f H
theorem k_rand {k f : Hp → Prop} {e : Bool} (h : if e = true then k H else f H) : RAnd k f (.bl e) H := ⟨e, rfl, h⟩
def RAndV (tb : TE) (σ : St) (Q : VK) (x : V) (H : Hp) : Prop := ∃ c, x = .bl c ∧ if c = true then tb σ H Q else Q (.bl false) H
def ROrV (tb : TE) (σ : St) (Q : VK) (x : V) (H : Hp) : Prop := ∃ c, x = .bl c ∧ if c = true then Q (.bl true) H else tb σ H Q
theorem k_andV (h : ta σ H (RAndV tb σ Q)) : tAndV ta tb σ H Q := h
theorem k_orV (h : ta σ H (ROrV tb σ Q)) : tOrV ta tb σ H Q := h
theorem k_randP {e z : Bool} (h2 : ∀ Q' : VK, Q' (.bl z) H → tb σ H Q') (q : Q (.bl (e && z)) H) : RAndV tb σ Q (.bl e) H := ⟨e, rfl, by cases e; exact k_itF q; exact k_itT (h2 _ q)⟩
theorem k_rorP {e z : Bool} (h2 : ∀ Q' : VK, Q' (.bl z) H → tb σ H Q') (q : Q (.bl (e || z)) H) : ROrV tb σ Q (.bl e) H := ⟨e, rfl, by cases e; exact k_itF (h2 _ q); exact k_itT q⟩
theorem k_randS {e : Bool} (h : if e = true then tb σ H Q else Q (.bl false) H) : RAndV tb σ Q (.bl e) H := ⟨e, rfl, h⟩
theorem k_rorS {e : Bool} (h : if e = true then Q (.bl true) H else tb σ H Q) : ROrV tb σ Q (.bl e) H := ⟨e, rfl, h⟩
theorem k_randT (h : tb σ H Q) : RAndV tb σ Q (.bl true) H := k_randS (k_itT h)
theorem k_randF (h : Q (.bl false) H) : RAndV tb σ Q (.bl false) H := k_randS (k_itF h)
theorem k_rorT (h : Q (.bl true) H) : ROrV tb σ Q (.bl true) H := k_rorS (k_itT h)
theorem k_rorF (h : tb σ H Q) : ROrV tb σ Q (.bl false) H := k_rorS (k_itF h)
def RNot (Q : VK) (x : V) (H : Hp) : Prop := ∃ c, x = .bl c ∧ Q (.bl (!c)) H
theorem k_notV (h : ta σ H (RNot Q)) : tNotV ta σ H Q := h
theorem k_rnot {e : Bool} (h : Q (.bl (!e)) H) : RNot Q (.bl e) H := ⟨e, rfl, h⟩
def NewT (xs : List V) (H : Hp) (Q : VK) : Prop := xs.length ≤ sizeLine ∧ ∀ p, H p = none → Q (.ref p) (upd H p (.tup xs))
def NewL (xs : List V) (H : Hp) (Q : VK) : Prop := xs.length ≤ sizeLine ∧ ∀ p, H p = none → Q (.ref p) (upd H p (.lst xs))
theorem k_tup (h : tr σ H fun xs H1 => NewT xs H1 Q) : tTup tr σ H Q := h
theorem k_lst (h : tr σ H fun xs H1 => NewL xs H1 Q) : tLst tr σ H Q := h
theorem k_newT (h : vs.length ≤ 100000) (q : ∀ p, H p = none → Q (.ref p) (upd H p (.tup vs))) : NewT vs H Q := ⟨sz_of h, q⟩
theorem k_newL (h : vs.length ≤ 100000) (q : ∀ p, H p = none → Q (.ref p) (upd H p (.lst vs))) : NewL vs H Q := ⟨sz_of h, q⟩
def RFld (K : PySem.W.Frag) (f : Str) (x : V) (H : Hp) (Q : VK) : Prop := ∃ a C dx fs v, x = .ref a ∧ H a = some (.ins C dx fs) ∧ Cls K C ∧ NoAttr K C f ∧ fs.lookup f = some v ∧ Q v H
theorem k_fld {f : Str} (h : ta σ H fun x H1 => RFld K f x H1 Q) : tFld K ta f σ H Q := h
theorem k_rfld {f : Str} {a C dx : Addr} {fs : List (Str × V)} (h : H a = some (.ins C dx fs)) (i : HasF K C f) (j : Lk fs f v) (q : Q v H) : RFld K f (.ref a) H Q := ⟨a, C, dx, fs, v, rfl, h, i.cls, i.na, j.eq, q⟩
theorem k_call {sp : Sp} {dvs : List V} {E : St → XK} (h : tr σ H fun vs H1 => sp (vs ++ dvs) H1 Q (E σ)) : tCallSD sp dvs E tr σ H Q := h
def RMk (C : Addr) (sp : Sp) (vs : List V) (E : XK) (H : Hp) (Q : VK) : Prop := ∀ x dx, H x = none → H dx = none → dx ≠ x → sp (.ref x :: vs) (upd (upd H dx (.own x)) x (.ins C dx [])) (fun v H2 => v = .non ∧ Q (.ref x) H2) E
theorem k_make {C : Addr} {sp : Sp} {dvs : List V} {E : St → XK} (h : tr σ H fun vs H1 => RMk C sp (vs ++ dvs) (E σ) H1 Q) : tMakeS C sp dvs E tr σ H Q := h
def RProp (C : Addr) (sp : Sp) (dvs : List V) (E : XK) (x : V) (H : Hp) (Q : VK) : Prop := ∃ a dx fs, x = .ref a ∧ H a = some (.ins C dx fs) ∧ sp (.ref a :: dvs) H Q E
theorem k_prop {C : Addr} {sp : Sp} {dvs : List V} {E : XK} (h : ta σ H fun x H1 => RProp C sp dvs E x H1 Q) : tProp C sp dvs E ta σ H Q := h
theorem k_rprop {C a dx : Addr} {sp : Sp} {dvs : List V} {E : XK} {fs : List (Str × V)} (h : H a = some (.ins C dx fs)) (q : sp (.ref a :: dvs) H Q E) : RProp C sp dvs E (.ref a) H Q := ⟨a, dx, fs, rfl, h, q⟩
def RMeth (C : Addr) (m : Str) (x : V) (H : Hp) (k : Prop) : Prop := ∃ a dx fs, x = .ref a ∧ H a = some (.ins C dx fs) ∧ fs.lookup m = none ∧ k
theorem k_meth {C : Addr} {m : Str} {sp : Sp} {dvs : List V} {E : St → XK} (h : ta σ H fun x H1 => RMeth C m x H1 (tr σ H1 fun vs H2 => sp (x :: (vs ++ dvs)) H2 Q (E σ))) : tMethS C m sp dvs E ta tr σ H Q := h
theorem k_rmeth {C a dx : Addr} {m : Str} {fs : List (Str × V)} {k : Prop} (h : H a = some (.ins C dx fs)) (j : LkN fs m) (q : k) : RMeth C m (.ref a) H k := ⟨a, dx, fs, rfl, h, j.eq, q⟩
theorem k_own {C a dx e dy : Addr} {sp : Sp} {fs gs : List (Str × V)} (h1 : H a = some (.ins C dx fs)) (h2 : H e = some (.ins C dy gs)) (q : sp [.ref a, .ref e] H Q E0) : rOwn C sp (.ref a) (.ref e) H Q := ⟨a, dx, fs, e, dy, gs, rfl, rfl, h1, h2, q⟩
theorem k_ownI {C a dx : Addr} {m : Int} {sp : Sp} {fs : List (Str × V)} (h1 : H a = some (.ins C dx fs)) (q : sp [.ref a, .int m] H Q E0) : rOwnI C sp (.ref a) (.int m) H Q := ⟨a, dx, fs, m, rfl, rfl, h1, q⟩
theorem k_ownA {C a dx : Addr} {sp : Sp} {fs : List (Str × V)} (h1 : H a = some (.ins C dx fs)) (q : sp [.ref a, y] H Q E0) : rOwnA C sp (.ref a) y H Q := ⟨a, dx, fs, rfl, h1, q⟩
/-! operators on values -/
variable {p q' : Int} {s z : Str} {k1 k2 : Bool}
theorem o_addI (q : Q (.int (p + q')) H) : rAddA K (.int p) (.int q') H Q := q
theorem o_addS (h : s.length + z.length ≤ 100000) (q : Q (.str (s ++ z)) H) : rAddA K (.str s) (.str z) H Q := ⟨sz_of h, q⟩
theorem o_addL {a e : Addr} {xs ys : List V} (h1 : H a = some (.lst xs)) (h2 : H e = some (.lst ys)) (h : xs.length + ys.length ≤ 100000) (q : ∀ p, H p = none → Q (.ref p) (upd H p (.lst (xs ++ ys)))) : rAddA K (.ref a) (.ref e) H Q :=
  .inl ⟨a, e, xs, ys, rfl, rfl, h1, h2, sz_of h, q⟩
theorem o_subI (q : Q (.int (p - q')) H) : rSubI (.int p) (.int q') H Q := ⟨p, q', rfl, rfl, q⟩
theorem o_mulI (h : CMul p q') (q : Q (.int (p * q')) H) : rMulA (.int p) (.int q') H Q := ⟨h, q⟩
theorem o_fdiv (h : CDiv p q') (q : Q (.int (p / q')) H) : rFdivI (.int p) (.int q') H Q := ⟨p, q', rfl, rfl, h, q⟩
theorem o_mod (h : 0 < q') (q : Q (.int (p % q')) H) : rModI (.int p) (.int q') H Q := ⟨p, q', rfl, rfl, h, q⟩
theorem o_lt (q : Q (.bl (decide (p < q'))) H) : rLtI (.int p) (.int q') H Q := ⟨p, q', rfl, rfl, q⟩
theorem o_le (q : Q (.bl (decide (p ≤ q'))) H) : rLeI (.int p) (.int q') H Q := ⟨p, q', rfl, rfl, q⟩
theorem o_gt (q : Q (.bl (decide (q' < p))) H) : rGtI (.int p) (.int q') H Q := ⟨p, q', rfl, rfl, q⟩
theorem o_ge (q : Q (.bl (decide (q' ≤ p))) H) : rGeI (.int p) (.int q') H Q := ⟨p, q', rfl, rfl, q⟩
theorem dInt {a b : Int} : decide (V.int a = V.int b) = decide (a = b) := by simp
theorem dBl {a b : Bool} : decide (V.bl a = V.bl b) = decide (a = b) := by simp
theorem dStr {a b : Str} : decide (V.str a = V.str b) = decide (a = b) := by simp
theorem o_eqI (q : Q (.bl (decide (p = q'))) H) : rEqA K (.int p) (.int q') H Q := .inl ⟨rfl, by rw [dInt]; exact q⟩
theorem o_eqB (q : Q (.bl (decide (k1 = k2))) H) : rEqA K (.bl k1) (.bl k2) H Q := .inl ⟨rfl, by rw [dBl]; exact q⟩
theorem o_eqS (q : Q (.bl (decide (s = z))) H) : rEqA K (.str s) (.str z) H Q := .inl ⟨rfl, by rw [dStr]; exact q⟩
theorem o_neI (q : Q (.bl (!decide (p = q'))) H) : rNeA K (.int p) (.int q') H Q := .inl ⟨rfl, by rw [dInt]; exact q⟩
theorem o_neB (q : Q (.bl (!decide (k1 = k2))) H) : rNeA K (.bl k1) (.bl k2) H Q := .inl ⟨rfl, by rw [dBl]; exact q⟩
theorem o_neS (q : Q (.bl (!decide (s = z))) H) : rNeA K (.str s) (.str z) H Q := .inl ⟨rfl, by rw [dStr]; exact q⟩
theorem o_isN (q : Q (.bl (decide (x = .non))) H) : rIsNone x .non H Q := ⟨rfl, q⟩
theorem o_notN (q : Q (.bl (!decide (x = .non))) H) : rNotNone x .non H Q := ⟨rfl, q⟩
theorem o_max (q : Q (.int (if q' > p then q' else p)) H) : rMax2I [.int p, .int q'] H Q := q
theorem o_min (q : Q (.int (if q' < p then q' else p)) H) : rMin2I [.int p, .int q'] H Q := q
theorem o_intI (q : Q (.int p) H) : rIntA [.int p] H Q := q
theorem o_intB (q : Q (.int (if k1 then 1 else 0)) H) : rIntA [.bl k1] H Q := q
theorem o_abs (q : Q (.int (if p < 0 then -p else p)) H) : rAbsI [.int p] H Q := q
theorem o_ixL {a : Addr} {xs : List V} (h : SqL K H a xs) (e : atI xs p = some v) (q : Q v H) : rIx K (.ref a) (.int p) H Q := .inl ⟨a, xs, p, v, rfl, rfl, h, e, q⟩
theorem o_ixT {a : Addr} {xs : List V} (h : SqT K H a xs) (e : atI xs p = some v) (q : Q v H) : rIx K (.ref a) (.int p) H Q := .inr (.inl ⟨a, xs, p, v, rfl, rfl, h, e, q⟩)
theorem o_lenL {a : Addr} {xs : List V} (h : SqL K H a xs) (q : Q (.int xs.length) H) : rLenA K [.ref a] H Q := ⟨.ref a, xs.length, rfl, .inl ⟨xs, h, rfl⟩, q⟩
theorem o_lenT {a : Addr} {xs : List V} (h : SqT K H a xs) (q : Q (.int xs.length) H) : rLenA K [.ref a] H Q := ⟨.ref a, xs.length, rfl, .inr ⟨xs, h, rfl⟩, q⟩
/-! isinstance -/
theorem o_isi {c : V} {tv uv : Value} {k : Bool} (h1 : ClsV c uv) (h2 : TyX K H x tv) (h3 : PySem.W.kitOne K tv uv = some k) (q : Q (.bl k) H) : rIsi K [x, c] H Q := ⟨x, c, tv, uv, k, rfl, h1, h2, h3, q⟩
end
end L2.MP
namespace L2.MP
open PySem PySem.Spec PyProof.Rows
/-! ### looking up in written attribute lists -/
theorem lk0 {f : Str} {v : V} {r : List (Str × V)} : ((f, v) :: r).lookup f = some v := by rw [List.lookup_cons, beq_self_eq_true]
theorem lkS {f k : Str} {u v : V} {r : List (Str × V)} (h : (f == k) = false) (e : r.lookup f = some v) : ((k, u) :: r).lookup f = some v := by rw [List.lookup_cons, h]; exact e
theorem lkN0 {f : Str} : ([] : List (Str × V)).lookup f = none := rfl
theorem lkNS {f k : Str} {u : V} {r : List (Str × V)} (h : (f == k) = false) (e : r.lookup f = none) : ((k, u) :: r).lookup f = none := by rw [List.lookup_cons, h]; exact e
theorem pf0 {f : Str} {v : V} : putF f v [] = [(f, v)] := rfl
theorem pfE {f : Str} {u v : V} {r : List (Str × V)} : putF f v ((f, u) :: r) = (f, v) :: r := by
  show (if f = f then (f, v) :: r else (f, u) :: putF f v r) = _
  rw [if_pos rfl]
theorem pfS {f k : Str} {u v : V} {r r' : List (Str × V)} (h : (k == f) = false) (e : putF f v r = r') : putF f v ((k, u) :: r) = (k, u) :: r' := by
  show (if k = f then (k, v) :: r else (k, u) :: putF f v r) = _
  rw [if_neg (fun z => by rw [z, beq_self_eq_true] at h; cases h), e]
/-! ### isinstance -/
class IsiC (K : PySem.W.Frag) (C : Addr) : Prop where
  cl : Cls K C
  ha : PySem.W.findIn K (.ref C) "__class__" = some (some (.builtin "object.__class__"))
  hn : PySem.W.specialIn K (.builtin "object.__class__") "__get__" = some (some (.builtin "getset_descriptor.__get__"))
  tk : PySem.W.takesIn K (.builtin "object.__class__") = some true
  hm : PySem.W.mroIn K C (.type "object") = some true
def isiB (x : Str) (K : PySem.W.Frag) : Bool := He.eqO (PySem.W.findIn K (.ref (He.ga K x)) "__class__") (some (some (.builtin "object.__class__"))) && (He.eqO (PySem.W.specialIn K (.builtin "object.__class__") "__get__") (some (some (.builtin "getset_descriptor.__get__"))) &&
  (decide (PySem.W.takesIn K (.builtin "object.__class__") = some true) && decide (PySem.W.mroIn K (He.ga K x) (.type "object") = some true)))
theorem isiB_ok {x : Str} {K : PySem.W.Frag} (cl : Cls K (He.ga K x)) (h : isiB x K = true) : IsiC K (He.ga K x) := by
  obtain ⟨h1, h⟩ := He.ba h
  obtain ⟨h2, h⟩ := He.ba h
  obtain ⟨h3, h4⟩ := He.ba h
  exact ⟨cl, He.eqO_ok h1, He.eqO_ok h2, of_decide_eq_true h3, of_decide_eq_true h4⟩
class Kit (K : PySem.W.Frag) (t c : Value) (k : outParam Bool) : Prop where
  eq : PySem.W.kitOne K t c = some k
/-- the built-in type of a plain value -/
class TyN (x : V) (T : outParam String) : Prop where
  ty : ∀ K H, TyX K H x (.type T)
instance : TyN .non "NoneType" := ⟨fun _ _ => .base .non⟩
instance {b : Bool} : TyN (.bl b) "bool" := ⟨fun _ _ => .base (.bl b)⟩
instance {i : Int} : TyN (.int i) "int" := ⟨fun _ _ => .base (.int i)⟩
instance {s : Str} : TyN (.str s) "str" := ⟨fun _ _ => .base (.str s)⟩
section
variable {K : PySem.W.Frag}
theorem kb {a b : String} {k : Bool} (h : kitB a b = some k) : Kit K (.type a) (.type b) k := ⟨kit_ty h⟩
instance : Kit K (.type "NoneType") (.type "int") false := kb (by decide +kernel)
instance : Kit K (.type "NoneType") (.type "bool") false := kb (by decide +kernel)
instance : Kit K (.type "NoneType") (.type "str") false := kb (by decide +kernel)
instance : Kit K (.type "NoneType") (.type "list") false := kb (by decide +kernel)
instance : Kit K (.type "NoneType") (.type "tuple") false := kb (by decide +kernel)
instance : Kit K (.type "bool") (.type "int") true := kb (by decide +kernel)
instance : Kit K (.type "bool") (.type "bool") true := kb (by decide +kernel)
instance : Kit K (.type "bool") (.type "str") false := kb (by decide +kernel)
instance : Kit K (.type "bool") (.type "list") false := kb (by decide +kernel)
instance : Kit K (.type "bool") (.type "tuple") false := kb (by decide +kernel)
instance : Kit K (.type "int") (.type "int") true := kb (by decide +kernel)
instance : Kit K (.type "int") (.type "bool") false := kb (by decide +kernel)
instance : Kit K (.type "int") (.type "str") false := kb (by decide +kernel)
instance : Kit K (.type "int") (.type "list") false := kb (by decide +kernel)
instance : Kit K (.type "int") (.type "tuple") false := kb (by decide +kernel)
instance : Kit K (.type "str") (.type "int") false := kb (by decide +kernel)
instance : Kit K (.type "str") (.type "bool") false := kb (by decide +kernel)
instance : Kit K (.type "str") (.type "str") true := kb (by decide +kernel)
instance : Kit K (.type "str") (.type "list") false := kb (by decide +kernel)
instance : Kit K (.type "str") (.type "tuple") false := kb (by decide +kernel)
instance : Kit K (.type "list") (.type "int") false := kb (by decide +kernel)
instance : Kit K (.type "list") (.type "bool") false := kb (by decide +kernel)
instance : Kit K (.type "list") (.type "str") false := kb (by decide +kernel)
instance : Kit K (.type "list") (.type "list") true := kb (by decide +kernel)
instance : Kit K (.type "list") (.type "tuple") false := kb (by decide +kernel)
instance : Kit K (.type "tuple") (.type "int") false := kb (by decide +kernel)
instance : Kit K (.type "tuple") (.type "bool") false := kb (by decide +kernel)
instance : Kit K (.type "tuple") (.type "str") false := kb (by decide +kernel)
instance : Kit K (.type "tuple") (.type "list") false := kb (by decide +kernel)
instance : Kit K (.type "tuple") (.type "tuple") true := kb (by decide +kernel)
variable {H : Hp} {Q : VK} {x : V} {a C dx D : Addr} {fs : List (Str × V)} {k : Bool} {T S : String}
theorem i_plain [t : TyN x T] [c : Kit K (.type T) (.type S) k] (q : Q (.bl k) H) : rIsi K [x, .ty S] H Q := o_isi (.ty S) (t.ty K H) c.eq q
theorem i_plainC [t : TyN x T] [c : Kit K (.type T) (.ref D) k] (q : Q (.bl k) H) : rIsi K [x, .ref D] H Q := o_isi (.own D) (t.ty K H) c.eq q
theorem i_insC (h : H a = some (.ins C dx fs)) (i : IsiC K C) (c : Kit K (.ref C) (.ref D) k) (q : Q (.bl k) H) : rIsi K [.ref a, .ref D] H Q := o_isi (.own D) (.base (.ins h i.cl i.ha i.hn i.tk i.hm)) c.eq q
theorem i_lst {xs : List V} (h : H a = some (.lst xs)) (c : Kit K (.type "list") (.type S) k) (q : Q (.bl k) H) : rIsi K [.ref a, .ty S] H Q := o_isi (.ty S) (.base (.lst h)) c.eq q
theorem i_tup {xs : List V} (h : H a = some (.tup xs)) (c : Kit K (.type "tuple") (.type S) k) (q : Q (.bl k) H) : rIsi K [.ref a, .ty S] H Q := o_isi (.ty S) (.base (.tup h)) c.eq q
end
end L2.MP
namespace L2.MP
open PySem PySem.Spec PyProof.Rows
/-! ### loops, turn by turn -/
section
variable {K : PySem.W.Frag} {σ : St} {H : Hp} {n b c : St → Hp → Prop} {r : VK} {i : Nat} {tb : TS} {tr : TA} {te : TE}
/-- cnt turns from x on -/
def RFor (i : Nat) (tb : TS) (n : St → Hp → Prop) (r : VK) : Nat → Int → St → Hp → Prop
  | 0, _ => n
  | m + 1, x => fun σ H => tb ⟨RFor i tb n r m (x + 1), r, n, RFor i tb n r m (x + 1)⟩ (σ.set i (some (.int x))) H
theorem k_forN (h : RFor i tb n r 0 x σ H) : n σ H := h
theorem rfor_ok {lo : Int} {cnt : Nat} (h : RFor i tb n r cnt lo σ H) {D : Ends} (e : D = ⟨n, r, b, c⟩) : ∃ W : Nat → Nat → St → Hp → Prop, (∃ m, W 0 m σ H) ∧ ∀ i' m σ H, W i' m σ H →
      ((Itr lo cnt).stop i' H ∧ D.nx σ H) ∨ ((Itr lo cnt).go i' H ∧ ∃ N : St → Hp → Prop, (∀ σ' H', N σ' H' → ∃ m', m' < m ∧ W (i' + 1) m' σ' H') ∧ ∀ x H', (Itr lo cnt).yld i' H x H' → gName i x σ H' fun σ2 H2 => tb { nx := N, rt := D.rt, bk := D.nx, ct := N } σ2 H2) := by
  subst e
  refine for_range (D := ⟨n, r, b, c⟩) (fun j σ H => j ≤ cnt ∧ RFor i tb n r (cnt - j) (lo + j) σ H) ⟨Nat.zero_le _, by simpa using h⟩ (fun j σ H hj ⟨_, q⟩ => ?_) (fun σ H ⟨_, q⟩ => ?_)
  · obtain ⟨m, hm⟩ : ∃ m, cnt - j = m + 1 := ⟨cnt - j - 1, by omega⟩
    rw [hm] at q
    have e1 : cnt - (j + 1) = m := by omega
    have e2 : lo + ((j + 1 : Nat) : Int) = lo + (j : Int) + 1 := by omega
    have ef : (fun σ H => j + 1 ≤ cnt ∧ RFor i tb n r (cnt - (j + 1)) (lo + ((j + 1 : Nat) : Int)) σ H) = RFor i tb n r m (lo + j + 1) := by
      funext σ H
      rw [e1, e2]
      exact propext ⟨fun z => z.2, fun z => ⟨hj, z⟩⟩
    show tb ⟨fun σ H => j + 1 ≤ cnt ∧ RFor i tb n r (cnt - (j + 1)) (lo + ((j + 1 : Nat) : Int)) σ H, r, n, fun σ H => j + 1 ≤ cnt ∧ RFor i tb n r (cnt - (j + 1)) (lo + ((j + 1 : Nat) : Int)) σ H⟩ _ _
    rw [ef]
    exact q
  · rw [Nat.sub_self] at q
    exact q
/-- what a for asks of its turns -/
def FW (J : It) (i : Nat) (tb : TS) (D : Ends) (σ : St) (H : Hp) : Prop := ∃ W : Nat → Nat → St → Hp → Prop, (∃ m, W 0 m σ H) ∧ ∀ i' m σ H, W i' m σ H →
  (J.stop i' H ∧ D.nx σ H) ∨ (J.go i' H ∧ ∃ N : St → Hp → Prop, (∀ σ' H', N σ' H' → ∃ m', m' < m ∧ W (i' + 1) m' σ' H') ∧ ∀ x H', J.yld i' H x H' → gName i x σ H' fun σ2 H2 => tb { D with nx := N, ct := N, bk := D.nx } σ2 H2)
def RR1 (i : Nat) (tb : TS) (D : Ends) (σ : St) (vs : List V) (H : Hp) : Prop := ∃ j : Int, vs = [.int j] ∧ -(2 ^ 62) ≤ j ∧ j < 2 ^ 62 ∧ FW (Itr 0 j.toNat) i tb D σ H
def RR2 (i : Nat) (tb : TS) (D : Ends) (σ : St) (vs : List V) (H : Hp) : Prop := ∃ lo hi : Int, vs = [.int lo, .int hi] ∧ (-(2 ^ 62) ≤ lo ∧ lo < 2 ^ 62 ∧ -(2 ^ 62) ≤ hi ∧ hi < 2 ^ 62) ∧ FW (Itr lo (hi - lo).toNat) i tb D σ H
def RL (K : PySem.W.Frag) (i : Nat) (tb : TS) (D : Ends) (σ : St) (x : V) (H : Hp) : Prop := ∃ a, x = .ref a ∧ (∃ xs, SqL K H a xs) ∧ FW (Itl K a) i tb D σ H
def RT (K : PySem.W.Frag) (i : Nat) (tb : TS) (D : Ends) (σ : St) (x : V) (H : Hp) : Prop := ∃ a, x = .ref a ∧ (∃ xs, SqT K H a xs) ∧ FW (Itt K a) i tb D σ H
theorem k_forR1 (h : tr σ H (RR1 i tb ⟨n, r, b, c⟩ σ)) : tFor (iRng1 tr) (gName i) tb ⟨n, r, b, c⟩ σ H := h
theorem k_forR2 (h : tr σ H (RR2 i tb ⟨n, r, b, c⟩ σ)) : tFor (iRng2 tr) (gName i) tb ⟨n, r, b, c⟩ σ H := h
theorem k_forL (h : te σ H (RL K i tb ⟨n, r, b, c⟩ σ)) : tFor (iList K te) (gName i) tb ⟨n, r, b, c⟩ σ H := h
theorem k_forT (h : te σ H (RT K i tb ⟨n, r, b, c⟩ σ)) : tFor (iTup K te) (gName i) tb ⟨n, r, b, c⟩ σ H := h
/-- a range, all its turns written -/
theorem k_rr1 {j : Int} (h : -(2 ^ 62) ≤ j ∧ j < 2 ^ 62) (q : RFor i tb n r j.toNat 0 σ H) : RR1 i tb ⟨n, r, b, c⟩ σ [.int j] H := ⟨j, rfl, h.1, h.2, rfor_ok q rfl⟩
theorem k_rr2 {lo hi : Int} (h : -(2 ^ 62) ≤ lo ∧ lo < 2 ^ 62 ∧ -(2 ^ 62) ≤ hi ∧ hi < 2 ^ 62) (q : RFor i tb n r (hi - lo).toNat lo σ H) : RR2 i tb ⟨n, r, b, c⟩ σ [.int lo, .int hi] H := ⟨lo, hi, rfl, h, rfor_ok q rfl⟩
/-- a range by an invariant -/
theorem k_rr1I {j : Int} (h : 0 ≤ j ∧ j < 2 ^ 62) (P : Nat → St → Hp → Prop) (h0 : P 0 σ H) (ht : ∀ (m : Nat) σ H, (m : Int) < j → P m σ H → tb ⟨P (m + 1), r, n, P (m + 1)⟩ (σ.set i (some (.int m))) H) (hd : ∀ σ H, P j.toNat σ H → n σ H) : RR1 i tb ⟨n, r, b, c⟩ σ [.int j] H := by
  refine ⟨j, rfl, by omega, h.2, for_range (D := ⟨n, r, b, c⟩) P h0 (fun m σ H hm q => ?_) hd⟩
  have := ht m σ H (by omega) q
  show tb _ (σ.set i (some (.int (0 + (m : Int))))) H
  rw [Int.zero_add]
  exact this
/-- a list, turn by turn -/
def RForL (K : PySem.W.Frag) (a : Addr) (all : List V) (i : Nat) (tb : TS) (n : St → Hp → Prop) (r : VK) : List V → St → Hp → Prop
  | [] => fun σ H => SqL K H a all ∧ n σ H
  | x :: rest => fun σ H => SqL K H a all ∧ tb ⟨RForL K a all i tb n r rest, r, n, RForL K a all i tb n r rest⟩ (σ.set i (some x)) H
theorem RForL.sq {a : Addr} {all : List V} : ∀ {rest : List V} {σ : St} {H : Hp}, RForL K a all i tb n r rest σ H → SqL K H a all
  | [], _, _, h => h.1
  | _ :: _, _, _, h => h.1
theorem k_rl {a : Addr} {xs : List V} (h : SqL K H a xs) (q : RForL K a xs i tb n r xs σ H) : RL K i tb ⟨n, r, b, c⟩ σ (.ref a) H := by
  refine ⟨a, rfl, ⟨xs, h⟩, for_list (D := ⟨n, r, b, c⟩) (fun j σ H => RForL K a xs i tb n r (xs.drop j) σ H) q (fun j σ H _ z => z.sq) (fun j x σ H hj z => ?_) (fun σ H z => ?_)⟩
  · have e : xs.drop j = x :: xs.drop (j + 1) := by
      obtain ⟨hl, e⟩ := List.getElem?_eq_some_iff.mp hj
      rw [List.drop_eq_getElem_cons hl, e]
    rw [e] at z
    exact z.2
  · rw [List.drop_length] at z
    exact z.2
theorem k_rlI {a : Addr} {xs : List V} (h : SqL K H a xs) (P : Nat → St → Hp → Prop) (h0 : P 0 σ H) (hl : ∀ (m : Nat) σ H, m ≤ xs.length → P m σ H → SqL K H a xs)
    (ht : ∀ (m : Nat) x σ H, xs[m]? = some x → P m σ H → tb ⟨P (m + 1), r, n, P (m + 1)⟩ (σ.set i (some x)) H) (hd : ∀ σ H, P xs.length σ H → n σ H) : RL K i tb ⟨n, r, b, c⟩ σ (.ref a) H :=
  ⟨a, rfl, ⟨xs, h⟩, for_list (D := ⟨n, r, b, c⟩) P h0 hl (fun m x σ H hm q => ht m x σ H hm q) hd⟩
def RForT (K : PySem.W.Frag) (a : Addr) (all : List V) (i : Nat) (tb : TS) (n : St → Hp → Prop) (r : VK) : List V → St → Hp → Prop
  | [] => fun σ H => SqT K H a all ∧ n σ H
  | x :: rest => fun σ H => SqT K H a all ∧ tb ⟨RForT K a all i tb n r rest, r, n, RForT K a all i tb n r rest⟩ (σ.set i (some x)) H
theorem RForT.sq {a : Addr} {all : List V} : ∀ {rest : List V} {σ : St} {H : Hp}, RForT K a all i tb n r rest σ H → SqT K H a all
  | [], _, _, h => h.1
  | _ :: _, _, _, h => h.1
theorem k_rt {a : Addr} {xs : List V} (h : SqT K H a xs) (q : RForT K a xs i tb n r xs σ H) : RT K i tb ⟨n, r, b, c⟩ σ (.ref a) H := by
  refine ⟨a, rfl, ⟨xs, h⟩, for_tup (D := ⟨n, r, b, c⟩) (fun j σ H => RForT K a xs i tb n r (xs.drop j) σ H) q (fun j σ H _ z => z.sq) (fun j x σ H hj z => ?_) (fun σ H z => ?_)⟩
  · have e : xs.drop j = x :: xs.drop (j + 1) := by
      obtain ⟨hl, e⟩ := List.getElem?_eq_some_iff.mp hj
      rw [List.drop_eq_getElem_cons hl, e]
    rw [e] at z
    exact z.2
  · rw [List.drop_length] at z
    exact z.2
theorem k_turnL {a : Addr} {all rest : List V} {x : V} {σ' : St} (h : SqL K H a all) [c : SetC σ i (some x) σ'] (q : tb ⟨RForL K a all i tb n r rest, r, n, RForL K a all i tb n r rest⟩ σ' H) : RForL K a all i tb n r (x :: rest) σ H := ⟨h, by rw [c.eq]; exact q⟩
theorem k_doneL {a : Addr} {all : List V} (h : SqL K H a all) (q : n σ H) : RForL K a all i tb n r [] σ H := ⟨h, q⟩
theorem k_turnT {a : Addr} {all rest : List V} {x : V} {σ' : St} (h : SqT K H a all) [c : SetC σ i (some x) σ'] (q : tb ⟨RForT K a all i tb n r rest, r, n, RForT K a all i tb n r rest⟩ σ' H) : RForT K a all i tb n r (x :: rest) σ H := ⟨h, by rw [c.eq]; exact q⟩
theorem k_doneT {a : Addr} {all : List V} (h : SqT K H a all) (q : n σ H) : RForT K a all i tb n r [] σ H := ⟨h, q⟩
theorem k_turnR {m : Nat} {x x' : Int} {σ' : St} [c : SetC σ i (some (.int x)) σ'] (e : x + 1 = x') (q : tb ⟨RFor i tb n r m x', r, n, RFor i tb n r m x'⟩ σ' H) : RFor i tb n r (m + 1) x σ H := by
  subst e
  show tb _ _ H
  rw [c.eq]
  exact q
theorem k_doneR {x : Int} (q : n σ H) : RFor i tb n r 0 x σ H := q
end
end L2.MP
namespace L2.MP
open PySem PySem.Spec PyProof.Rows
section
variable {K : PySem.W.Frag} {σ : St} {H : Hp} {n b c : St → Hp → Prop} {r : VK} {i : Nat} {tb : TS}
theorem k_rr1L (m : Nat) {j : Int} (e : j = (m : Int)) (hm : m < 2 ^ 62) (q : RFor i tb n r m 0 σ H) : RR1 i tb ⟨n, r, b, c⟩ σ [.int j] H := by
  subst e
  exact k_rr1 ⟨by omega, by omega⟩ (by rw [Int.toNat_natCast]; exact q)
/-- the law's cell of the script -/
def cellv (ns : List Int) (i : Int) : Int := ns.getD i.toNat 0
theorem cell_at {ns : List Int} {i : Int} (h0 : 0 ≤ i) (h : i < (ns.map V.int).length) : atI (ns.map V.int) i = some (.int (cellv ns i)) := by
  obtain ⟨m, rfl⟩ : ∃ m : Nat, i = (m : Int) := ⟨i.toNat, by omega⟩
  have hm : m < ns.length := by simpa using h
  rw [atI_nat (v := V.int (cellv ns m)) ?_]
  simp [cellv, List.getD, hm]
theorem cell_out {ns : List Int} {i : Int} (h0 : 0 ≤ i) (h : ¬ i < (ns.map V.int).length) : cellv ns i = 0 := by
  have hm : ns.length ≤ i.toNat := by simp at h; omega
  simp [cellv, List.getD, List.getElem?_eq_none hm]
end
end L2.MP
namespace L2.MP
open PySem PySem.Spec PyProof.Rows
section
variable {K : PySem.W.Frag} {H : Hp} {Q : VK} {v : V} {p : Int} {a : Addr} {xs : List V}
theorem atI_toNat {α : Type} {xs : List α} {v : α} (h0 : 0 ≤ p) (e : xs[p.toNat]? = some v) : atI xs p = some v := by
  obtain ⟨m, rfl⟩ : ∃ m : Nat, p = (m : Int) := ⟨p.toNat, by omega⟩
  exact atI_nat (by simpa using e)
theorem o_ixTn (h : SqT K H a xs) (h0 : 0 ≤ p) (e : xs[p.toNat]? = some v) (q : Q v H) : rIx K (.ref a) (.int p) H Q := o_ixT h (atI_toNat h0 e) q
theorem o_ixLn (h : SqL K H a xs) (h0 : 0 ≤ p) (e : xs[p.toNat]? = some v) (q : Q v H) : rIx K (.ref a) (.int p) H Q := o_ixL h (atI_toNat h0 e) q
end
end L2.MP

set_option Elab.async false
set_option linter.all false
set_option maxRecDepth 100000
set_option maxHeartbeats 4000000
/-! Steps for dicts, own subscripts, methods of texts and lists. -/
namespace L2.MP
open PySem PySem.Spec PyProof.Rows
class DNe (a b : Str) : Prop where
  ne : a ≠ b
class ValC (kvs : List (Key × V)) (s : Str) (v : outParam V) : Prop where
  eq : valV kvs (.inr s) = some v
instance {r : List (Key × V)} {s : Str} {v : V} : ValC ((.inr s, v) :: r) s v := ⟨valV_pos rfl⟩
instance {r : List (Key × V)} {s t : Str} {v u : V} [d : DNe t s] [c : ValC r s v] : ValC ((.inr t, u) :: r) s v := ⟨by rw [valV_neg (fun e => d.ne (Sum.inr.inj e))]; exact c.eq⟩
class TdS (trs : List (TE × TE)) (l : outParam (List (Str × Str))) : Prop where
  eq : trs = l.map fun p => (tC (.str p.1), tC (.str p.2))
instance : TdS [] [] := ⟨rfl⟩
instance {a b : Str} {r : List (TE × TE)} {l : List (Str × Str)} [c : TdS r l] : TdS ((tC (.str a), tC (.str b)) :: r) ((a, b) :: l) := ⟨by rw [c.eq]; rfl⟩
class PutC (kvs : List (Key × V)) (s : Str) (v : V) (out : outParam (List (Key × V))) : Prop where
  eq : putK kvs (.inr s) v = out
class NoC (kvs : List (Key × V)) (s : Str) : Prop where
  eq : (kvs.any fun kv => decide (kv.1 = .inr s)) = false
instance {s : Str} : NoC [] s := ⟨rfl⟩
instance {r : List (Key × V)} {s t : Str} {u : V} [d : DNe t s] [c : NoC r s] : NoC ((.inr t, u) :: r) s := ⟨by
  rw [List.any_cons, c.eq, Bool.or_false]
  exact decide_eq_false (fun e => d.ne (Sum.inr.inj e))⟩
theorem put_new {kvs : List (Key × V)} {s : Str} {v : V} (c : NoC kvs s) : putK kvs (.inr s) v = kvs ++ [(.inr s, v)] := by
  unfold putK
  rw [if_neg (by rw [c.eq]; decide)]
section
variable {K : PySem.W.Frag} {σ : St} {H : Hp} {Q : VK} {td ty tv te ta : TE} {tr : TA} {n b c : St → Hp → Prop} {r : VK} {x y v u : V} {a p : Addr} {s z : Str} {kvs gs : List (Key × V)}
def NewD (H : Hp) (Q : VK) : Prop := ∀ p, H p = none → Q (.ref p) (upd H p (.dK []))
theorem k_newK (h : NewD H Q) : tDNewK σ H Q := h
theorem k_newD (q : ∀ p, H p = none → Q (.ref p) (upd H p (.dK []))) : NewD H Q := q
def RDGet (x y : V) (H : Hp) (Q : VK) : Prop := ∃ a v, x = .ref a ∧ DGet H a y (some v) ∧ Q v H
theorem k_dget (h : td σ H fun x H1 => ty σ H1 fun y H2 => RDGet x y H2 Q) : tDGet td ty σ H Q := h
theorem k_rdget (h : H a = some (.dK kvs)) (e : valV kvs (.inr s) = some v) (q : Q v H) : RDGet (.ref a) (.str s) H Q := ⟨a, v, rfl, e ▸ DGet.k (k := .inr s) h, q⟩
def RDGet2 (x y z : V) (H : Hp) (Q : VK) : Prop := ∃ a, x = .ref a ∧ ∃ o, DGet H a y o ∧ Q (o.getD z) H
def RDG2 (ty tx : TE) (σ : St) (Q : VK) (x : V) (H : Hp) : Prop := ∃ a, x = .ref a ∧ IsD H a ∧ ty σ H fun y H2 => tx σ H2 fun z H3 => ∃ o, DGet H3 a y o ∧ Q (o.getD z) H3
theorem k_dget2 {tx : TE} (h : td σ H (RDG2 ty tx σ Q)) : tDGet2 td ty tx σ H Q := h
def RDo (a : Addr) (Q : VK) (y z : V) (H : Hp) : Prop := ∃ o, DGet H a y o ∧ Q (o.getD z) H
theorem k_rdg2 {tx : TE} (h : H a = some (.dK kvs)) (q : ty σ H fun y H2 => tx σ H2 fun z H3 => RDo a Q y z H3) : RDG2 ty tx σ Q (.ref a) H := ⟨a, rfl, .inl ⟨kvs, .inl h⟩, q⟩
theorem k_rdo {z : V} (h : H a = some (.dK kvs)) (q : Q ((valV kvs (.inr s)).getD z) H) : RDo a Q (.str s) z H := ⟨_, DGet.k (k := .inr s) h, q⟩
def RDPut (x y v : V) (H : Hp) (k : Hp → Prop) : Prop := ∃ a H4, x = .ref a ∧ DPut H a y v H4 ∧ k H4
theorem k_dput (h : tv σ H fun v H1 => td σ H1 fun x H2 => ty σ H2 fun y H3 => RDPut x y v H3 (fun H4 => n σ H4)) : sDPut td ty tv ⟨n, r, b, c⟩ σ H := h
theorem k_rdput {k : Hp → Prop} (h : H a = some (.dK kvs)) (hl : kvs.length ≤ 90000) (e : putK kvs (.inr s) v = gs) (q : k (upd H a (.dK gs))) : RDPut (.ref a) (.str s) v H k := ⟨a, _, rfl, DPut.k (k := .inr s) h (szl_of (by omega)), by rw [e]; exact q⟩
theorem k_rdputC {k : Hp → Prop} (h : H a = some (.dK kvs)) (hl : kvs.length ≤ 90000) (e : PutC kvs s v gs) (q : k (upd H a (.dK gs))) : RDPut (.ref a) (.str s) v H k := k_rdput h hl e.eq q
theorem k_rdgetC (h : H a = some (.dK kvs)) (e : ValC kvs s v) (q : Q v H) : RDGet (.ref a) (.str s) H Q := k_rdget h e.eq q
/-! a display of texts -/
def dS (l : List (Str × Str)) : List (Key × V) := l.map fun p => (.inr p.1, .str p.2)
theorem tPairs_S {σ : St} (l : List (Str × Str)) : ∀ {H : Hp} {R : List (V × V) → Hp → Prop}, R (l.map fun p => (V.str p.1, V.str p.2)) H → tPairs (l.map fun p => (tC (.str p.1), tC (.str p.2))) σ H R := by
  induction l with
  | nil => intro H R q; exact q
  | cons a l ih =>
    intro H R q
    show tPairs (l.map fun p => (tC (.str p.1), tC (.str p.2))) σ H fun ps H3 => R ((V.str a.1, V.str a.2) :: ps) H3
    exact ih q
def RDisp (l : List (Str × Str)) (H : Hp) (Q : VK) : Prop := ∀ p, H p = none → Q (.ref p) (upd H p (.dK (mergeK [] (dS l))))
theorem k_disp {trs : List (TE × TE)} {l : List (Str × Str)} [c : TdS trs l] (hl : l.length ≤ 15) (q : ∀ p, H p = none → Q (.ref p) (upd H p (.dK (mergeK [] (dS l))))) : tDisp trs σ H Q := by
  intro p hp
  rw [c.eq]
  refine tPairs_S l ⟨upd_same, dS l, ?_, by rw [dS, List.length_map]; exact hl, ?_⟩
  · rw [dS, List.map_map]; rfl
  · rw [upd_upd]; exact q p hp
/-! texts and lists -/
def RM1 (ro : V → List V → Hp → VK → Prop) (te : TE) (σ : St) (Q : VK) (x : V) (H : Hp) : Prop := (∃ a, x = .str a) ∧ te σ H fun y H2 => ro x [y] H2 Q
theorem k_m1 {ro : V → List V → Hp → VK → Prop} (h : td σ H (RM1 ro te σ Q)) : tM1 ro td te σ H Q := h
theorem k_rm1 {ro : V → List V → Hp → VK → Prop} (h : te σ H fun y H2 => ro (.str s) [y] H2 Q) : RM1 ro te σ Q (.str s) H := ⟨⟨s, rfl⟩, h⟩
theorem o_split {l : List Str} (hz : (z.length == 0) = false) (hs : s.length ≤ 90000) (e : Txt.split s z = l) (hl : l.length ≤ 90000) (q : ∀ p, H p = none → Q (.ref p) (upd H p (.lst (l.map V.str)))) : rSplitA (.str s) [.str z] H Q :=
  ⟨s, z, rfl, rfl, hz, sz_of (by omega), by subst e; exact q⟩
def RBM (K : PySem.W.Frag) (T : String) (ro : V → List V → Hp → VK → Prop) (tr : TA) (σ : St) (Q : VK) (x : V) (H : Hp) : Prop := tyV K T x H ∧ tr σ H fun xs H2 => ro x xs H2 Q
theorem k_bm {ro : V → List V → Hp → VK → Prop} {T : String} (h : ta σ H (RBM K T ro tr σ Q)) : tBM K T ro ta tr σ H Q := h
theorem k_rbmL {ro : V → List V → Hp → VK → Prop} {xs : List V} (h : SqL K H a xs) (q : tr σ H fun xs H2 => ro (.ref a) xs H2 Q) : RBM K "list" ro tr σ Q (.ref a) H := ⟨.inl ⟨rfl, xs, h⟩, q⟩
theorem o_append {xs : List V} (h : H a = some (.lst xs)) (hl : xs.length ≤ 90000) (q : Q .non (upd H a (.lst (xs ++ [y])))) : rAppend (.ref a) [y] H Q := ⟨a, xs, y, rfl, rfl, h, szl_of (by omega), q⟩
/-! own subscripts -/
def ROwnIx (C : Addr) (sp : Sp) (E : XK) (x y : V) (H : Hp) (Q : VK) : Prop := ∃ a dx fs, x = .ref a ∧ H a = some (.ins C dx fs) ∧ sp [.ref a, y] H Q E
theorem k_ownIx {C : Addr} {sp : Sp} {E : St → XK} (h : ta σ H fun x H1 => te σ H1 fun y H2 => ROwnIx C sp (E σ) x y H2 Q) : tOwnIx C sp E ta te σ H Q := h
theorem k_rownIx {C dx : Addr} {sp : Sp} {E : XK} {fs : List (Str × V)} (h : H a = some (.ins C dx fs)) (q : sp [.ref a, y] H Q E) : ROwnIx C sp E (.ref a) y H Q := ⟨a, dx, fs, rfl, h, q⟩
def ROwnPut (C : Addr) (sp : Sp) (E : XK) (x y v : V) (H : Hp) (k : Hp → Prop) : Prop := ∃ a dx fs, x = .ref a ∧ H a = some (.ins C dx fs) ∧ sp [.ref a, y, v] H (fun _ H4 => k H4) E
theorem k_ownPut {C : Addr} {sp : Sp} {E : St → XK} (h : tv σ H fun v H1 => ta σ H1 fun x H2 => te σ H2 fun y H3 => ROwnPut C sp (E σ) x y v H3 (n σ)) : sOwnPut C sp E ta te tv ⟨n, r, b, c⟩ σ H := h
theorem k_rownPut {C dx : Addr} {sp : Sp} {E : XK} {fs : List (Str × V)} {k : Hp → Prop} (h : H a = some (.ins C dx fs)) (q : sp [.ref a, y, v] H (fun _ H4 => k H4) E) : ROwnPut C sp E (.ref a) y v H k := ⟨a, dx, fs, rfl, h, q⟩
/-! in -/
theorem allF (l : List Str) : (l.map V.str).all flatV = true := by
  induction l with
  | nil => rfl
  | cons a l ih => rw [List.map_cons, List.all_cons, ih]; rfl
theorem inS {s : Str} {l : List Str} : inV (.str s) (l.map V.str) = decide (s ∈ l) := by
  induction l with
  | nil => simp [inV]
  | cons a l ih =>
    rw [List.map_cons, inV, List.any_cons, ← inV, ih]
    by_cases e : a = s
    · subst e; simp [eqV]
    · have e' : s ≠ a := fun z => e z.symm
      simp [eqV, e, e']
theorem o_inT {l : List Str} (h : SqT K H a (l.map V.str)) (q : Q (.bl (decide (s ∈ l))) H) : rInA K false (.str s) (.ref a) H Q := .inl ⟨a, _, rfl, .inr h, rfl, (allF l), by rw [inS]; exact q⟩
theorem o_ninT {l : List Str} (h : SqT K H a (l.map V.str)) (q : Q (.bl (!decide (s ∈ l))) H) : rInA K true (.str s) (.ref a) H Q := .inl ⟨a, _, rfl, .inr h, rfl, (allF l), by rw [inS]; exact q⟩
theorem o_inL {l : List Str} (h : SqL K H a (l.map V.str)) (q : Q (.bl (decide (s ∈ l))) H) : rInA K false (.str s) (.ref a) H Q := .inl ⟨a, _, rfl, .inl h, rfl, (allF l), by rw [inS]; exact q⟩
theorem o_ninL {l : List Str} (h : SqL K H a (l.map V.str)) (q : Q (.bl (!decide (s ∈ l))) H) : rInA K true (.str s) (.ref a) H Q := .inl ⟨a, _, rfl, .inl h, rfl, (allF l), by rw [inS]; exact q⟩
/-! powers, fresh things -/
theorem o_pow18 (q : Q (.int 1000000000000000000) H) : rPowI (.int 10) (.int 18) H Q := ⟨10, 18, rfl, rfl, ⟨by decide, by decide, by decide⟩, q⟩
theorem o_pow9 (q : Q (.int 1000000000) H) : rPowI (.int 10) (.int 9) H Q := ⟨10, 9, rfl, rfl, ⟨by decide, by decide, by decide⟩, q⟩
theorem o_pow30 (q : Q (.int 1000000000000000000000000000000) H) : rPowI (.int 10) (.int 30) H Q := ⟨10, 30, rfl, rfl, ⟨by decide, by decide, by decide⟩, q⟩
/-! a thing written twice -/
theorem k_rdputU {k : Hp → Prop} (hl : kvs.length ≤ 90000) (e : PutC kvs s v gs) (q : k (upd H a (.dK gs))) : RDPut (.ref a) (.str s) v (upd H a (.dK kvs)) k := k_rdputC upd_same hl e (by rw [upd_upd]; exact q)
theorem o_appendU {xs : List V} (hl : xs.length ≤ 90000) (q : Q .non (upd H a (.lst (xs ++ [y])))) : rAppend (.ref a) [y] (upd H a (.lst xs)) Q := o_append upd_same hl (by rw [upd_upd]; exact q)
theorem k_rputU {f : Str} {C dx : Addr} {fs hs : List (Str × V)} {k : Hp → Prop} (i : HasF K C f) (j : Pf f y fs hs) (q : k (upd H a (.ins C dx hs))) : RPut K f (.ref a) y (upd H a (.ins C dx fs)) k := k_rput upd_same i j (by rw [upd_upd]; exact q)
end
end L2.MP

set_option Elab.async false
set_option linter.all false
set_option maxRecDepth 100000
set_option maxHeartbeats 4000000
/-! The written tables of a book: the entries and their choices. -/
namespace L2.MP
open PySem PySem.Spec PyProof.Rows
abbrev ENT : List Str := [("work" : Str), ("write" : Str), ("meet" : Str), ("test" : Str), ("partly" : Str), ("value" : Str), ("path" : Str), ("loop" : Str), ("guard" : Str), ("call" : Str)]
instance : DNe ("work" : Str) ("write" : Str) := ⟨by decide +kernel⟩
instance : DNe ("work" : Str) ("meet" : Str) := ⟨by decide +kernel⟩
instance : DNe ("work" : Str) ("test" : Str) := ⟨by decide +kernel⟩
instance : DNe ("work" : Str) ("partly" : Str) := ⟨by decide +kernel⟩
instance : DNe ("work" : Str) ("value" : Str) := ⟨by decide +kernel⟩
instance : DNe ("work" : Str) ("path" : Str) := ⟨by decide +kernel⟩
instance : DNe ("work" : Str) ("loop" : Str) := ⟨by decide +kernel⟩
instance : DNe ("work" : Str) ("guard" : Str) := ⟨by decide +kernel⟩
instance : DNe ("work" : Str) ("call" : Str) := ⟨by decide +kernel⟩
instance : DNe ("write" : Str) ("work" : Str) := ⟨by decide +kernel⟩
instance : DNe ("write" : Str) ("meet" : Str) := ⟨by decide +kernel⟩
instance : DNe ("write" : Str) ("test" : Str) := ⟨by decide +kernel⟩
instance : DNe ("write" : Str) ("partly" : Str) := ⟨by decide +kernel⟩
instance : DNe ("write" : Str) ("value" : Str) := ⟨by decide +kernel⟩
instance : DNe ("write" : Str) ("path" : Str) := ⟨by decide +kernel⟩
instance : DNe ("write" : Str) ("loop" : Str) := ⟨by decide +kernel⟩
instance : DNe ("write" : Str) ("guard" : Str) := ⟨by decide +kernel⟩
instance : DNe ("write" : Str) ("call" : Str) := ⟨by decide +kernel⟩
instance : DNe ("meet" : Str) ("work" : Str) := ⟨by decide +kernel⟩
instance : DNe ("meet" : Str) ("write" : Str) := ⟨by decide +kernel⟩
instance : DNe ("meet" : Str) ("test" : Str) := ⟨by decide +kernel⟩
instance : DNe ("meet" : Str) ("partly" : Str) := ⟨by decide +kernel⟩
instance : DNe ("meet" : Str) ("value" : Str) := ⟨by decide +kernel⟩
instance : DNe ("meet" : Str) ("path" : Str) := ⟨by decide +kernel⟩
instance : DNe ("meet" : Str) ("loop" : Str) := ⟨by decide +kernel⟩
instance : DNe ("meet" : Str) ("guard" : Str) := ⟨by decide +kernel⟩
instance : DNe ("meet" : Str) ("call" : Str) := ⟨by decide +kernel⟩
instance : DNe ("test" : Str) ("work" : Str) := ⟨by decide +kernel⟩
instance : DNe ("test" : Str) ("write" : Str) := ⟨by decide +kernel⟩
instance : DNe ("test" : Str) ("meet" : Str) := ⟨by decide +kernel⟩
instance : DNe ("test" : Str) ("partly" : Str) := ⟨by decide +kernel⟩
instance : DNe ("test" : Str) ("value" : Str) := ⟨by decide +kernel⟩
instance : DNe ("test" : Str) ("path" : Str) := ⟨by decide +kernel⟩
instance : DNe ("test" : Str) ("loop" : Str) := ⟨by decide +kernel⟩
instance : DNe ("test" : Str) ("guard" : Str) := ⟨by decide +kernel⟩
instance : DNe ("test" : Str) ("call" : Str) := ⟨by decide +kernel⟩
instance : DNe ("partly" : Str) ("work" : Str) := ⟨by decide +kernel⟩
instance : DNe ("partly" : Str) ("write" : Str) := ⟨by decide +kernel⟩
instance : DNe ("partly" : Str) ("meet" : Str) := ⟨by decide +kernel⟩
instance : DNe ("partly" : Str) ("test" : Str) := ⟨by decide +kernel⟩
instance : DNe ("partly" : Str) ("value" : Str) := ⟨by decide +kernel⟩
instance : DNe ("partly" : Str) ("path" : Str) := ⟨by decide +kernel⟩
instance : DNe ("partly" : Str) ("loop" : Str) := ⟨by decide +kernel⟩
instance : DNe ("partly" : Str) ("guard" : Str) := ⟨by decide +kernel⟩
instance : DNe ("partly" : Str) ("call" : Str) := ⟨by decide +kernel⟩
instance : DNe ("value" : Str) ("work" : Str) := ⟨by decide +kernel⟩
instance : DNe ("value" : Str) ("write" : Str) := ⟨by decide +kernel⟩
instance : DNe ("value" : Str) ("meet" : Str) := ⟨by decide +kernel⟩
instance : DNe ("value" : Str) ("test" : Str) := ⟨by decide +kernel⟩
instance : DNe ("value" : Str) ("partly" : Str) := ⟨by decide +kernel⟩
instance : DNe ("value" : Str) ("path" : Str) := ⟨by decide +kernel⟩
instance : DNe ("value" : Str) ("loop" : Str) := ⟨by decide +kernel⟩
instance : DNe ("value" : Str) ("guard" : Str) := ⟨by decide +kernel⟩
instance : DNe ("value" : Str) ("call" : Str) := ⟨by decide +kernel⟩
instance : DNe ("path" : Str) ("work" : Str) := ⟨by decide +kernel⟩
instance : DNe ("path" : Str) ("write" : Str) := ⟨by decide +kernel⟩
instance : DNe ("path" : Str) ("meet" : Str) := ⟨by decide +kernel⟩
instance : DNe ("path" : Str) ("test" : Str) := ⟨by decide +kernel⟩
instance : DNe ("path" : Str) ("partly" : Str) := ⟨by decide +kernel⟩
instance : DNe ("path" : Str) ("value" : Str) := ⟨by decide +kernel⟩
instance : DNe ("path" : Str) ("loop" : Str) := ⟨by decide +kernel⟩
instance : DNe ("path" : Str) ("guard" : Str) := ⟨by decide +kernel⟩
instance : DNe ("path" : Str) ("call" : Str) := ⟨by decide +kernel⟩
instance : DNe ("loop" : Str) ("work" : Str) := ⟨by decide +kernel⟩
instance : DNe ("loop" : Str) ("write" : Str) := ⟨by decide +kernel⟩
instance : DNe ("loop" : Str) ("meet" : Str) := ⟨by decide +kernel⟩
instance : DNe ("loop" : Str) ("test" : Str) := ⟨by decide +kernel⟩
instance : DNe ("loop" : Str) ("partly" : Str) := ⟨by decide +kernel⟩
instance : DNe ("loop" : Str) ("value" : Str) := ⟨by decide +kernel⟩
instance : DNe ("loop" : Str) ("path" : Str) := ⟨by decide +kernel⟩
instance : DNe ("loop" : Str) ("guard" : Str) := ⟨by decide +kernel⟩
instance : DNe ("loop" : Str) ("call" : Str) := ⟨by decide +kernel⟩
instance : DNe ("guard" : Str) ("work" : Str) := ⟨by decide +kernel⟩
instance : DNe ("guard" : Str) ("write" : Str) := ⟨by decide +kernel⟩
instance : DNe ("guard" : Str) ("meet" : Str) := ⟨by decide +kernel⟩
instance : DNe ("guard" : Str) ("test" : Str) := ⟨by decide +kernel⟩
instance : DNe ("guard" : Str) ("partly" : Str) := ⟨by decide +kernel⟩
instance : DNe ("guard" : Str) ("value" : Str) := ⟨by decide +kernel⟩
instance : DNe ("guard" : Str) ("path" : Str) := ⟨by decide +kernel⟩
instance : DNe ("guard" : Str) ("loop" : Str) := ⟨by decide +kernel⟩
instance : DNe ("guard" : Str) ("call" : Str) := ⟨by decide +kernel⟩
instance : DNe ("call" : Str) ("work" : Str) := ⟨by decide +kernel⟩
instance : DNe ("call" : Str) ("write" : Str) := ⟨by decide +kernel⟩
instance : DNe ("call" : Str) ("meet" : Str) := ⟨by decide +kernel⟩
instance : DNe ("call" : Str) ("test" : Str) := ⟨by decide +kernel⟩
instance : DNe ("call" : Str) ("partly" : Str) := ⟨by decide +kernel⟩
instance : DNe ("call" : Str) ("value" : Str) := ⟨by decide +kernel⟩
instance : DNe ("call" : Str) ("path" : Str) := ⟨by decide +kernel⟩
instance : DNe ("call" : Str) ("loop" : Str) := ⟨by decide +kernel⟩
instance : DNe ("call" : Str) ("guard" : Str) := ⟨by decide +kernel⟩
/-! a new key -/
theorem put_cons {t s : Str} {u v : V} {r : List (Key × V)} (d : t ≠ s) : putK ((.inr t, u) :: r) (.inr s) v = (.inr t, u) :: putK r (.inr s) v := by
  have d' : ¬ (Sum.inr t : Key) = Sum.inr s := fun z => d (Sum.inr.inj z)
  unfold putK
  rw [List.any_cons, show decide ((Sum.inr t : Key) = Sum.inr s) = false from decide_eq_false d', Bool.false_or]
  split
  · rw [List.map_cons]
    congr 1
    show (if (Sum.inr t : Key) = Sum.inr s then (Sum.inr t, v) else (Sum.inr t, u)) = _
    rw [if_neg d']
  · rfl
instance {s : Str} {v : V} : PutC [] s v [(.inr s, v)] := ⟨rfl⟩
instance {t s : Str} {u v : V} {r r' : List (Key × V)} [d : DNe t s] [c : PutC r s v r'] : PutC ((.inr t, u) :: r) s v ((.inr t, u) :: r') := ⟨by rw [put_cons d.ne, c.eq]⟩
def CHT : List (Str × List Str) := [(("work" : Str), [("drop" : Str), ("left" : Str), ("short" : Str), ("join" : Str)]), (("write" : Str), [("raise" : Str), ("partly" : Str), ("skip" : Str), ("stop" : Str)]), (("meet" : Str), [("leave" : Str), ("raise" : Str)]),
  (("test" : Str), [("ignore" : Str), ("raise" : Str), ("stop" : Str)]), (("partly" : Str), [("pass" : Str), ("stop" : Str)]), (("value" : Str), [("show" : Str), ("blank" : Str), ("skip" : Str), ("stop" : Str)]), (("path" : Str), [("show" : Str), ("blank" : Str), ("skip" : Str), ("stop" : Str)])]
/-- the choices of an entry -/
def chs (e : Str) : List Str := (CHT.lookup e).getD [("forget" : Str), ("stick" : Str), ("stop" : Str)]
def strsB : List Str → List Value → Bool
  | [], [] => true
  | a :: l, .str b _ :: r => decide (a = b) && strsB l r
  | _, _ => false
theorem strsB_ok : ∀ {l : List Str} {r : List Value}, strsB l r = true → Vals (l.map V.str) r
  | [], [], _ => .nil
  | a :: l, .str b t :: r, h => by
    obtain ⟨h1, h2⟩ := He.ba h
    obtain rfl := of_decide_eq_true h1
    exact .cons ⟨t, rfl⟩ (strsB_ok h2)
  | [], _ :: _, h => by cases h
  | _ :: _, [], h => by cases h
def wtupB (a : Addr) (l : List Str) (K : PySem.W.Frag) : Bool := match K.lookup a with
  | some o => decide (o.cls = .type "tuple") && (match o.data with
    | .seq its _ => decide (its.size ≤ 1000) && strsB l its.toList
    | _ => false)
  | none => false
theorem wtupB_ok {a : Addr} {l : List Str} {K : PySem.W.Frag} (h : wtupB a l K = true) (H : Hp) : SqT K H a (l.map V.str) := by
  unfold wtupB at h
  split at h
  · rename_i o e
    obtain ⟨h1, h2⟩ := He.ba h
    split at h2
    · rename_i its n d
      obtain ⟨h3, h4⟩ := He.ba h2
      exact .inr ⟨o, its, n, e, of_decide_eq_true h1, d, Nat.le_trans (of_decide_eq_true h3) (by decide), strsB_ok h4⟩
    · cases h2
  · cases h
/-- where the choices of an entry stand -/
def chA (K : PySem.W.Frag) (e : Str) : Addr := match PySem.W.nsIn K (He.ga K "CHOICES") e with
  | some (some (.ref g)) => g
  | _ => 0
def chB (K : PySem.W.Frag) : Bool := ENT.all fun e => decide (PySem.W.nsIn K (He.ga K "CHOICES") e = some (some (.ref (chA K e)))) && wtupB (chA K e) (chs e) K
def entB (K : PySem.W.Frag) : Bool := wtupB (He.ga K "ENTRIES") ENT K
class BookK (K : PySem.W.Frag) : Prop where
  ent : entB K = true
  ch : chB K = true
class BookW (K : PySem.W.Frag) (w : World) : Prop where
  kd : ∃ es n, KDict K w (He.ga K "CHOICES") es n
section
variable {K : PySem.W.Frag} {w : World} {H : Hp} {Q : VK} {e s : Str}
theorem ent_sq [b : BookK K] : SqT K H (He.ga K "ENTRIES") (ENT.map V.str) := wtupB_ok b.ent H
theorem ch_sq [b : BookK K] (he : e ∈ ENT) : SqT K H (chA K e) ((chs e).map V.str) := wtupB_ok (He.ba (List.all_eq_true.mp b.ch e he)).2 H
theorem ch_kd [b : BookK K] [c : BookW K w] (he : e ∈ ENT) : KDct K w (He.ga K "CHOICES") e (.ref (chA K e)) := by
  obtain ⟨es, n, d⟩ := c.kd
  exact ⟨es, n, _, d.at_, d.lit, of_decide_eq_true (He.ba (List.all_eq_true.mp b.ch e he)).1, rfl⟩
def rIxW (K : PySem.W.Frag) (w : World) : R2 := rIxD K w
theorem k_ixW [BookK K] [BookW K w] (he : e ∈ ENT) (q : Q (.ref (chA K e)) H) : rIxW K w (.ref (He.ga K "CHOICES")) (.str e) H Q := ⟨_, e, _, rfl, rfl, ch_kd he, q⟩
theorem pe_ixW {X : Cx} {a b : Expr} {ta tb : TE} {pos : Pos} (ha : PE X a ta) (hb : PE X b tb) (hs : PlainIx b) : PE X (.Subscript a b pos) (tOp (rIxW X.K X.w) ta tb) := pe_ix ix_kdict ha hb hs
/-- in the choices of an entry; in the entries -/
theorem k_ninCh [BookK K] (he : e ∈ ENT) (q : Q (.bl (!decide (s ∈ chs e))) H) : rInA K true (.str s) (.ref (chA K e)) H Q := o_ninT (ch_sq he) q
theorem k_ninEnt [BookK K] (q : Q (.bl (!decide (s ∈ ENT))) H) : rInA K true (.str s) (.ref (He.ga K "ENTRIES")) H Q := o_ninT ent_sq q
theorem k_lenEnt [BookK K] (q : Q (.int 10) H) : rLenA K [.ref (He.ga K "ENTRIES")] H Q := o_lenT ent_sq q
/-! the book's dict: each entry with its choice -/
def bk (f : Str → Str) : List (Key × V) := ENT.map fun e => (Sum.inr e, V.str (f e))
def fset (f : Str → Str) (e c : Str) : Str → Str := fun x => if x = e then c else f x
theorem bk_get {f : Str → Str} (he : e ∈ ENT) : valV (bk f) (.inr e) = some (.str (f e)) := by
  unfold bk
  generalize ENT = l at he
  induction l with
  | nil => cases he
  | cons a l ih =>
    by_cases h : a = e
    · subst h; exact valV_pos rfl
    · rw [List.map_cons, valV_neg (fun z => h (Sum.inr.inj z))]
      exact ih ((List.mem_cons.mp he).resolve_left (fun z => h z.symm))
theorem bk_put {f : Str → Str} {c : Str} (he : e ∈ ENT) : putK (bk f) (.inr e) (.str c) = bk (fset f e c) := by
  unfold putK
  have h : ((bk f).any fun kv => decide (kv.1 = Sum.inr e)) = true := by
    rw [List.any_eq_true]
    exact ⟨(.inr e, .str (f e)), List.mem_map.mpr ⟨e, he, rfl⟩, by simp⟩
  rw [if_pos h]
  unfold bk
  rw [List.map_map]
  refine List.map_congr_left fun x _ => ?_
  show (if (Sum.inr x : Key) = Sum.inr e then ((Sum.inr x : Key), V.str c) else (Sum.inr x, V.str (f x))) = (Sum.inr x, V.str (fset f e c x))
  by_cases z : x = e
  · subst z; simp [fset]
  · simp [fset, z]
theorem bk_len {f : Str → Str} : (bk f).length = 10 := rfl
theorem fset_eq {f : Str → Str} {c : Str} : fset f e c e = c := if_pos rfl
theorem fset_ne {f : Str → Str} {c x : Str} (h : x ≠ e) : fset f e c x = f x := if_neg h
theorem k_bkget {f : Str → Str} {a : Addr} (h : H a = some (.dK (bk f))) (he : e ∈ ENT) (q : Q (.str (f e)) H) : RDGet (.ref a) (.str e) H Q := k_rdget h (bk_get he) q
theorem k_bkput {f : Str → Str} {a : Addr} {c : Str} {k : Hp → Prop} (h : H a = some (.dK (bk f))) (he : e ∈ ENT) (q : k (upd H a (.dK (bk (fset f e c))))) : RDPut (.ref a) (.str e) (.str c) H k :=
  k_rdput h (by rw [bk_len]; decide) (bk_put he) q
end
/-- the choices told as the law tells them -/
abbrev CHX : List (Str × Str) := [(("work" : Str), ("drop left short join" : Str)), (("write" : Str), ("raise partly skip stop" : Str)), (("meet" : Str), ("leave raise" : Str)), (("test" : Str), ("ignore raise stop" : Str)), (("partly" : Str), ("pass stop" : Str)), (("value" : Str), ("show blank skip stop" : Str)), (("path" : Str), ("show blank skip stop" : Str))]
def chT (e : Str) : Str := (CHX.lookup e).getD ("forget stick stop" : Str)
theorem ent_all {P : Str → Prop} (h : ∀ e ∈ ENT, P e) : ∀ e ∈ ENT, P e := h
theorem chx_ok : ∀ e ∈ ENT, ((valV (mergeK [] (dS CHX)) (.inr e)).getD (.str ("forget stick stop" : Str)) = .str (chT e) ∧ Txt.split (chT e) (" " : Str) = chs e) ∧ ((chT e).length ≤ 90 ∧ (chs e).length ≤ 4 ∧ 2 ≤ (chs e).length) := by
  intro e he
  simp only [ENT, List.mem_cons, List.not_mem_nil, or_false] at he
  rcases he with rfl | rfl | rfl | rfl | rfl | rfl | rfl | rfl | rfl | rfl <;> exact ⟨⟨by kernel_rfl, by kernel_rfl⟩, by decide +kernel⟩
/-! the top run holds a dict: the one question to the world that it asks, told both ways -/
abbrev wB (w : World) (b : Bool) : World := ⟨w.draws, { w.params with followText := fun r => if r = "special-get-raises" then b else w.params.followText r }⟩
theorem wB_eq (w : World) : wB w (w.params.followText "special-get-raises") = w := by
  have e : (fun r => if r = "special-get-raises" then w.params.followText "special-get-raises" else w.params.followText r) = w.params.followText := by
    funext r
    split
    · rename_i h; rw [h]
    · rfl
  unfold wB
  rw [e]
end L2.MP

set_option Elab.async false
set_option linter.all false
set_option maxRecDepth 100000
set_option maxHeartbeats 4000000
/-! Lists by an open place; a book's choices by names. -/
namespace L2.MP
open PySem PySem.Spec PyProof.Rows
theorem up_new' {H : Hp} {p a dx : Addr} {o u v : HO} (hp : H p = none) (h : upd H dx v a = some u) (hn : dx ≠ p := by assumption) : upd (upd H dx v) p o a = some u := up_ne (fun z => by subst z; rw [upd_ne (Ne.symm hn), hp] at h; cases h) h
def sv (l : List Str) (i : Int) : Str := l.getD i.toNat ("" : Str)
theorem sv_mem {l : List Str} {i : Int} (h0 : 0 ≤ i) (h : i < l.length) : sv l i ∈ l := by
  have h' : i.toNat < l.length := by omega
  simp [sv, List.getD, h']
section
variable {K : PySem.W.Frag} {H : Hp} {Q : VK} {v : V} {p : Int} {a : Addr}
theorem o_ixD {ds : List Int} (h : SqL K H a (ds.map V.int)) (h0 : 0 ≤ p) (h1 : p < ds.length) (q : Q (.int (cellv ds p)) H) : rIx K (.ref a) (.int p) H Q :=
  o_ixL h (cell_at h0 (by simpa using h1)) q
theorem o_ixSv {l : List Str} (h : SqL K H a (l.map V.str)) (h0 : 0 ≤ p) (h1 : p < l.length) (q : Q (.str (sv l p)) H) : rIx K (.ref a) (.int p) H Q := by
  obtain ⟨m, rfl⟩ : ∃ m : Nat, p = (m : Int) := ⟨p.toNat, by omega⟩
  have hm : m < l.length := by omega
  refine o_ixL h (atI_nat (v := V.str (sv l m)) ?_) q
  simp [sv, List.getD, hm]
theorem o_ix2S {s0 s1 : Str} {c : Bool} (h : SqL K H a [.str s0, .str s1]) (q : Q (.str (if c = true then s1 else s0)) H) : rIx K (.ref a) (.int (if c = true then 1 else 0)) H Q := by
  cases c
  · exact o_ixL h (atI_nat (j := 0) rfl) q
  · exact o_ixL h (atI_nat (j := 1) rfl) q
theorem o_ix2I {i0 i1 : Int} {c : Bool} (h : SqL K H a [.int i0, .int i1]) (q : Q (.int (if c = true then i1 else i0)) H) : rIx K (.ref a) (.int (if c = true then 1 else 0)) H Q := by
  cases c
  · exact o_ixL h (atI_nat (j := 0) rfl) q
  · exact o_ixL h (atI_nat (j := 1) rfl) q
theorem cell60 {ds : List Int} {i : Int} (h : ∀ d ∈ ds, 0 ≤ d ∧ d < 60) : 0 ≤ cellv ds i ∧ cellv ds i < 60 := by
  by_cases e : i.toNat < ds.length
  · have : cellv ds i ∈ ds := by simp [cellv, List.getD, e]
    exact h _ this
  · have : cellv ds i = 0 := by simp [cellv, List.getD, Nat.le_of_not_lt e]
    rw [this]; decide
end
class InE (e : Str) : Prop where
  mem : e ∈ ENT
instance : InE ("work" : Str) := ⟨by decide +kernel⟩
instance : InE ("write" : Str) := ⟨by decide +kernel⟩
instance : InE ("meet" : Str) := ⟨by decide +kernel⟩
instance : InE ("test" : Str) := ⟨by decide +kernel⟩
instance : InE ("partly" : Str) := ⟨by decide +kernel⟩
instance : InE ("value" : Str) := ⟨by decide +kernel⟩
instance : InE ("path" : Str) := ⟨by decide +kernel⟩
instance : InE ("loop" : Str) := ⟨by decide +kernel⟩
instance : InE ("guard" : Str) := ⟨by decide +kernel⟩
instance : InE ("call" : Str) := ⟨by decide +kernel⟩
/-- the choice at an entry, told -/
class FEq (f : Str → Str) (e : Str) (v : outParam Str) : Prop where
  eq : f e = v
instance (priority := low) {f : Str → Str} {e : Str} : FEq f e (f e) := ⟨rfl⟩
instance {f : Str → Str} {e c : Str} : FEq (fset f e c) e c := ⟨fset_eq⟩
instance {f : Str → Str} {e x c v : Str} [d : DNe x e] [i : FEq f x v] : FEq (fset f e c) x v := ⟨by rw [fset_ne d.ne]; exact i.eq⟩
/-- all choices are choices of their entries -/
def Good (f : Str → Str) : Prop := ∀ e ∈ ENT, f e ∈ chs e
theorem Good.set {f : Str → Str} {e c : Str} (g : Good f) (h : c ∈ chs e) : Good (fset f e c) := fun x hx => by
  unfold fset
  split
  · rename_i z; rw [z]; exact h
  · exact g x hx
/-- ten choices in the order of the entries -/
def fL (cs : List Str) : Str → Str := fun e => cs.getD (ENT.idxOf e) ("" : Str)
theorem bk_fL {c0 c1 c2 c3 c4 c5 c6 c7 c8 c9 : Str} : bk (fL [c0, c1, c2, c3, c4, c5, c6, c7, c8, c9]) = [(.inr "work", .str c0), (.inr "write", .str c1), (.inr "meet", .str c2), (.inr "test", .str c3), (.inr "partly", .str c4), (.inr "value", .str c5), (.inr "path", .str c6), (.inr "loop", .str c7), (.inr "guard", .str c8), (.inr "call", .str c9)] := by
  unfold bk ENT
  simp only [List.map_cons, List.map_nil]
  rfl
theorem bk_list {f : Str → Str} : bk f = [(.inr "work", .str (f "work")), (.inr "write", .str (f "write")), (.inr "meet", .str (f "meet")), (.inr "test", .str (f "test")), (.inr "partly", .str (f "partly")), (.inr "value", .str (f "value")), (.inr "path", .str (f "path")), (.inr "loop", .str (f "loop")), (.inr "guard", .str (f "guard")), (.inr "call", .str (f "call"))] := rfl
theorem bk_congr {f g : Str → Str} (h : ∀ e ∈ ENT, f e = g e) : bk f = bk g := List.map_congr_left fun e he => by rw [h e he]
/-- the first m entries -/
def bkm (m : Nat) (f : Str → Str) : List (Key × V) := (ENT.take m).map fun e => (Sum.inr e, V.str (f e))
theorem bkm_ten {f : Str → Str} : bkm 10 f = bk f := rfl
theorem ent_fresh : ∀ m < 10, sv ENT (m : Nat) ∉ ENT.take m ∧ ENT.take (m + 1) = ENT.take m ++ [sv ENT (m : Nat)] ∧ sv ENT (m : Nat) ∈ ENT := by decide +kernel
theorem bkm_put {f : Str → Str} {m : Nat} {c : Str} (h : m < 10) : putK (bkm m f) (.inr (sv ENT m)) (.str c) = bkm (m + 1) (fset f (sv ENT m) c) := by
  obtain ⟨h1, h2, _⟩ := ent_fresh m h
  have nk : ((bkm m f).any fun kv => decide (kv.1 = Sum.inr (sv ENT m))) = false := by
    rw [List.any_eq_false]
    intro kv hkv
    obtain ⟨x, hx, rfl⟩ := List.mem_map.mp hkv
    simp only [decide_eq_true_eq]
    intro z
    exact h1 ((Sum.inr.inj z) ▸ hx)
  unfold putK
  rw [if_neg (by rw [nk]; decide)]
  unfold bkm
  rw [h2, List.map_append]
  congr 1
  · refine List.map_congr_left fun x hx => ?_
    rw [fset_ne (fun (z : x = sv ENT m) => h1 (by rw [← z]; exact hx))]
  · simp only [List.map_cons, List.map_nil]
    rw [fset_eq]
section
variable {K : PySem.W.Frag} {H : Hp} {Q : VK} {e c : Str}
theorem k_ninEntT [BookK K] (he : e ∈ ENT) (q : Q (.bl false) H) : rInA K true (.str e) (.ref (He.ga K "ENTRIES")) H Q := k_ninEnt (by rw [decide_eq_true he]; exact q)
theorem k_ninChT [BookK K] (he : e ∈ ENT) (hc : c ∈ chs e) (q : Q (.bl false) H) : rInA K true (.str c) (.ref (chA K e)) H Q := k_ninCh he (by rw [decide_eq_true hc]; exact q)
end
end L2.MP
namespace L2.MP
open PySem PySem.Spec PyProof.Rows
section
variable {K : PySem.W.Frag} {H : Hp} {Q : VK} {a : Addr}
theorem o_lenLS {l : List Str} (h : SqL K H a (l.map V.str)) (q : Q (.int l.length) H) : rLenA K [.ref a] H Q := o_lenL h (by rw [List.length_map]; exact q)
theorem o_lenLI {l : List Int} (h : SqL K H a (l.map V.int)) (q : Q (.int l.length) H) : rLenA K [.ref a] H Q := o_lenL h (by rw [List.length_map]; exact q)
theorem k_rdputB {m : Nat} {f : Str → Str} {c : Str} {k : Hp → Prop} (h : H a = some (.dK (bkm m f))) (hm : m < 10) (q : k (upd H a (.dK (bkm (m + 1) (fset f (sv ENT m) c))))) : RDPut (.ref a) (.str (sv ENT m)) (.str c) H k :=
  k_rdput h (by simp [bkm]; omega) (bkm_put hm) q
end
end L2.MP
namespace L2.MP
open PySem PySem.Spec PyProof.Rows
/-! new things, the heap behind them as a letter -/
section
variable {K : PySem.W.Frag} {σ : St} {H : Hp} {Q : VK} {a e : Addr} {vs xs ys : List V}
theorem k_newTA (h : vs.length ≤ 100000) (q : ∀ p H', H p = none → Ex H H' → H' p = some (.tup vs) → Q (.ref p) H') : NewT vs H Q := k_newT h fun p hp => q p _ hp (Ex.new hp) upd_same
theorem k_newLA (h : vs.length ≤ 100000) (q : ∀ p H', H p = none → Ex H H' → H' p = some (.lst vs) → Q (.ref p) H') : NewL vs H Q := k_newL h fun p hp => q p _ hp (Ex.new hp) upd_same
theorem k_newDA (q : ∀ p H', H p = none → Ex H H' → H' p = some (.dK []) → Q (.ref p) H') : NewD H Q := k_newD fun p hp => q p _ hp (Ex.new hp) upd_same
theorem k_dispA {trs : List (TE × TE)} {l : List (Str × Str)} [c : TdS trs l] (hl : l.length ≤ 15) (q : ∀ p H', H p = none → Ex H H' → H' p = some (.dK (mergeK [] (dS l))) → Q (.ref p) H') : tDisp trs σ H Q := k_disp hl fun p hp => q p _ hp (Ex.new hp) upd_same
theorem o_addLA (h1 : H a = some (.lst xs)) (h2 : H e = some (.lst ys)) (h : xs.length + ys.length ≤ 100000) (q : ∀ p H', H p = none → Ex H H' → H' p = some (.lst (xs ++ ys)) → Q (.ref p) H') : rAddA K (.ref a) (.ref e) H Q := o_addL h1 h2 h fun p hp => q p _ hp (Ex.new hp) upd_same
theorem o_splitA {s z : Str} {l : List Str} (hz : (z.length == 0) = false) (hs : s.length ≤ 90000) (e : Txt.split s z = l) (hl : l.length ≤ 90000) (q : ∀ p H', H p = none → Ex H H' → H' p = some (.lst (l.map V.str)) → Q (.ref p) H') : rSplitA (.str s) [.str z] H Q :=
  o_split hz hs e hl fun p hp => q p _ hp (Ex.new hp) upd_same
end
end L2.MP
namespace L2.MP
open PySem PySem.Spec PyProof.Rows
theorem ent_inj : ∀ i < 10, ∀ j < 10, sv ENT (i : Nat) = sv ENT (j : Nat) → i = j := by decide +kernel
theorem ent_ix : ∀ e ∈ ENT, ∃ i < 10, e = sv ENT (i : Nat) := by
  intro e he
  simp only [ENT, List.mem_cons, List.not_mem_nil, or_false] at he
  rcases he with rfl | rfl | rfl | rfl | rfl | rfl | rfl | rfl | rfl | rfl
  · exact ⟨0, by decide, rfl⟩
  · exact ⟨1, by decide, rfl⟩
  · exact ⟨2, by decide, rfl⟩
  · exact ⟨3, by decide, rfl⟩
  · exact ⟨4, by decide, rfl⟩
  · exact ⟨5, by decide, rfl⟩
  · exact ⟨6, by decide, rfl⟩
  · exact ⟨7, by decide, rfl⟩
  · exact ⟨8, by decide, rfl⟩
  · exact ⟨9, by decide, rfl⟩
theorem good_of {f : Str → Str} (h : ∀ i < 10, f (sv ENT (i : Nat)) ∈ chs (sv ENT (i : Nat))) : Good f := fun e he => by
  obtain ⟨i, hi, rfl⟩ := ent_ix e he
  exact h i hi
theorem goods_set {f : Str → Str} {m : Nat} {c : Str} (hm : m < 10) (h : ∀ i < m, f (sv ENT (i : Nat)) ∈ chs (sv ENT (i : Nat))) (hc : c ∈ chs (sv ENT m)) : ∀ i < m + 1, fset f (sv ENT m) c (sv ENT (i : Nat)) ∈ chs (sv ENT (i : Nat)) := fun i hi => by
  by_cases e : i = m
  · subst e; rw [fset_eq]; exact hc
  · rw [fset_ne (fun z => e (ent_inj i (by omega) m hm z))]
    exact h i (by omega)
theorem chs_two {e : Str} (he : e ∈ ENT) : 2 ≤ (chs e).length := (chx_ok e he).2.2.2
end L2.MP
namespace L2.MP
open PySem PySem.Spec PyProof.Rows
theorem bk_full {f g : Str → Str} : bk (fset (fset (fset (fset (fset (fset (fset (fset (fset (fset g "work" (f "work")) "write" (f "write")) "meet" (f "meet")) "test" (f "test")) "partly" (f "partly")) "value" (f "value")) "path" (f "path")) "loop" (f "loop")) "guard" (f "guard")) "call" (f "call")) = bk f := by
  refine bk_congr fun e he => ?_
  simp only [ENT, List.mem_cons, List.not_mem_nil, or_false] at he
  rcases he with rfl | rfl | rfl | rfl | rfl | rfl | rfl | rfl | rfl | rfl <;> exact FEq.eq
end L2.MP
namespace L2.MP
open PySem PySem.Spec PyProof.Rows
@[simp] theorem ofString_inj {a b : String} : (Str.ofString a = Str.ofString b) ↔ a = b := by
  constructor
  · intro h
    rw [Str.ofString_eq_toList, Str.ofString_eq_toList] at h
    have h1 : (a.toList.map Char.toNat).toArray = (b.toList.map Char.toNat).toArray := congrArg Str.cps h
    have h2 : a.toList.map Char.toNat = b.toList.map Char.toNat := by simpa using h1
    have inj : ∀ {x y : Char}, x.toNat = y.toNat → x = y := fun {x y} e => Char.ext (UInt32.toNat_inj.mp e)
    have h3 : ∀ (l m : List Char), l.map Char.toNat = m.map Char.toNat → l = m := by
      intro l
      induction l with
      | nil => intro m e; cases m with | nil => rfl | cons _ _ => simp at e
      | cons x l ih =>
        intro m e
        cases m with
        | nil => simp at e
        | cons y m =>
          simp only [List.map_cons, List.cons.injEq] at e
          rw [inj e.1, ih m e.2]
    exact String.toList_inj.mp (h3 _ _ h2)
  · rintro rfl; rfl
/-- the choices of an entry, written -/
class ChV (e : Str) (vs : outParam (List V)) : Prop where
  eq : (chs e).map V.str = vs
instance : ChV ("work" : Str) [.str "drop", .str "left", .str "short", .str "join"] := ⟨by kernel_rfl⟩
instance : ChV ("write" : Str) [.str "raise", .str "partly", .str "skip", .str "stop"] := ⟨by kernel_rfl⟩
instance : ChV ("meet" : Str) [.str "leave", .str "raise"] := ⟨by kernel_rfl⟩
instance : ChV ("test" : Str) [.str "ignore", .str "raise", .str "stop"] := ⟨by kernel_rfl⟩
instance : ChV ("partly" : Str) [.str "pass", .str "stop"] := ⟨by kernel_rfl⟩
instance : ChV ("value" : Str) [.str "show", .str "blank", .str "skip", .str "stop"] := ⟨by kernel_rfl⟩
instance : ChV ("path" : Str) [.str "show", .str "blank", .str "skip", .str "stop"] := ⟨by kernel_rfl⟩
instance : ChV ("loop" : Str) [.str "forget", .str "stick", .str "stop"] := ⟨by kernel_rfl⟩
instance : ChV ("guard" : Str) [.str "forget", .str "stick", .str "stop"] := ⟨by kernel_rfl⟩
instance : ChV ("call" : Str) [.str "forget", .str "stick", .str "stop"] := ⟨by kernel_rfl⟩
section
variable {K : PySem.W.Frag} {σ : St} {H : Hp} {n b c : St → Hp → Prop} {r : VK} {i : Nat} {tb : TS} {x : V} {xs : List V} {a : Addr}
/-- a written list or tuple, turn by turn -/
theorem k_rlC (h : SqL K H a (x :: xs)) (q : RForL K a (x :: xs) i tb n r (x :: xs) σ H) : RL K i tb ⟨n, r, b, c⟩ σ (.ref a) H := k_rl h q
theorem k_rtC (h : SqT K H a (x :: xs)) (q : RForT K a (x :: xs) i tb n r (x :: xs) σ H) : RT K i tb ⟨n, r, b, c⟩ σ (.ref a) H := k_rt h q
end
end L2.MP
namespace L2.MP
open PySem PySem.Spec PyProof.Rows
/-! == of lists and tuples of plain values -/
def pd : V → PyData
  | .bl b => .bool b
  | .int i => .int i
  | .str x => .str x
  | _ => .none
def flat1 : V → Bool
  | .non => true
  | .bl _ => true
  | .int _ => true
  | .str x => PyData.strOk x
  | _ => false
def flatOk (xs : List V) : Bool := xs.all flat1
theorem dp_flat {K : PySem.W.Frag} {H : Hp} : ∀ {xs : List V}, flatOk xs = true → DpAll K H xs (xs.map pd) ∧ PyData.canLayAll0 (xs.map pd) = true ∧ PyData.depthAll (xs.map pd) ≤ 1
  | [], _ => ⟨.nil, rfl, by decide⟩
  | x :: xs, h => by
    unfold flatOk at h
    rw [List.all_cons] at h
    obtain ⟨h1, h2⟩ := He.ba h
    obtain ⟨i1, i2, i3⟩ := dp_flat (K := K) (H := H) (xs := xs) h2
    have key : Dp K H x (pd x) ∧ PyData.canLay0 (pd x) = true ∧ PyData.depth (pd x) = 0 := by
      cases x with
      | non => exact ⟨.non, by simp [pd, PyData.canLay0], by simp [pd, PyData.depth]⟩
      | bl b => exact ⟨.bl b, by simp [pd, PyData.canLay0], by simp [pd, PyData.depth]⟩
      | int b => exact ⟨.int b, by simp [pd, PyData.canLay0], by simp [pd, PyData.depth]⟩
      | str b => exact ⟨.str b, by simpa [pd, PyData.canLay0, flat1] using h1, by simp [pd, PyData.depth]⟩
      | _ => cases h1
    obtain ⟨k1, k2, k3⟩ := key
    refine ⟨.cons k1 i1, ?_, ?_⟩
    · show PyData.canLayAll0 (pd x :: xs.map pd) = true
      rw [PyData.canLayAll0, k2, i2]; rfl
    · show PyData.depthAll (pd x :: xs.map pd) ≤ 1
      rw [PyData.depthAll, k3]; omega
theorem shaped_flat {xs : List V} (h : flatOk xs = true) : SeqAt.shaped (.tuple (xs.map pd)) = true ∧ SeqAt.shaped (.list (xs.map pd)) = true := by
  obtain ⟨_, h2, h3⟩ := dp_flat (K := default) (H := fun _ => none) h
  unfold SeqAt.shaped
  constructor
  · rw [PyData.canLay0, h2, PyData.depth]; simp; omega
  · rw [PyData.canLay0, h2, PyData.depth]; simp; omega
section
variable {K : PySem.W.Frag} {H : Hp} {Q : VK} {a b : Addr} {xs ys : List V}
theorem o_eqTT (h1 : SqT K H a xs) (h2 : SqT K H b ys) (hx : flatOk xs = true) (hy : flatOk ys = true) (q : Q (.bl (PyData.eqvAll (xs.map pd) (ys.map pd))) H) : rEqA K (.ref a) (.ref b) H Q :=
  .inr ⟨_, _, .tup h1 (dp_flat hx).1, .tup h2 (dp_flat hy).1, (shaped_flat hx).1, (shaped_flat hy).1, by rw [PyData.eqv]; exact q⟩
theorem o_neTT (h1 : SqT K H a xs) (h2 : SqT K H b ys) (hx : flatOk xs = true) (hy : flatOk ys = true) (q : Q (.bl (!PyData.eqvAll (xs.map pd) (ys.map pd))) H) : rNeA K (.ref a) (.ref b) H Q :=
  .inr ⟨_, _, .tup h1 (dp_flat hx).1, .tup h2 (dp_flat hy).1, (shaped_flat hx).1, (shaped_flat hy).1, by rw [PyData.eqv]; exact q⟩
theorem o_eqLL (h1 : SqL K H a xs) (h2 : SqL K H b ys) (hx : flatOk xs = true) (hy : flatOk ys = true) (q : Q (.bl (PyData.eqvAll (xs.map pd) (ys.map pd))) H) : rEqA K (.ref a) (.ref b) H Q :=
  .inr ⟨_, _, .lst h1 (dp_flat hx).1, .lst h2 (dp_flat hy).1, (shaped_flat hx).2, (shaped_flat hy).2, by rw [PyData.eqv]; exact q⟩
theorem o_neLL (h1 : SqL K H a xs) (h2 : SqL K H b ys) (hx : flatOk xs = true) (hy : flatOk ys = true) (q : Q (.bl (!PyData.eqvAll (xs.map pd) (ys.map pd))) H) : rNeA K (.ref a) (.ref b) H Q :=
  .inr ⟨_, _, .lst h1 (dp_flat hx).1, .lst h2 (dp_flat hy).1, (shaped_flat hx).2, (shaped_flat hy).2, by rw [PyData.eqv]; exact q⟩
theorem eqvAll_same {xs : List V} (h : flatOk xs = true) : PyData.eqvAll (xs.map pd) (xs.map pd) = true := by
  have := SeqAt.eqv_refl (.tuple (xs.map pd)) (by rw [PyData.canLay0]; exact (dp_flat (K := default) (H := fun _ => none) h).2.1)
  rwa [PyData.eqv] at this
/-- equal ones -/
theorem o_neTsame (h1 : SqT K H a xs) (h2 : SqT K H b xs) (hx : flatOk xs = true) (q : Q (.bl false) H) : rNeA K (.ref a) (.ref b) H Q := o_neTT h1 h2 hx hx (by rw [eqvAll_same hx]; exact q)
theorem o_neLsame (h1 : SqL K H a xs) (h2 : SqL K H b xs) (hx : flatOk xs = true) (q : Q (.bl false) H) : rNeA K (.ref a) (.ref b) H Q := o_neLL h1 h2 hx hx (by rw [eqvAll_same hx]; exact q)
theorem o_eqTsame (h1 : SqT K H a xs) (h2 : SqT K H b xs) (hx : flatOk xs = true) (q : Q (.bl true) H) : rEqA K (.ref a) (.ref b) H Q := o_eqTT h1 h2 hx hx (by rw [eqvAll_same hx]; exact q)
theorem o_eqLsame (h1 : SqL K H a xs) (h2 : SqL K H b xs) (hx : flatOk xs = true) (q : Q (.bl true) H) : rEqA K (.ref a) (.ref b) H Q := o_eqLL h1 h2 hx hx (by rw [eqvAll_same hx]; exact q)
end
/-- every choice is a plain text -/
theorem chs_flat : ∀ e ∈ ENT, ∀ c ∈ chs e, PyData.strOk c = true := by
  intro e he
  simp only [ENT, List.mem_cons, List.not_mem_nil, or_false] at he
  rcases he with rfl | rfl | rfl | rfl | rfl | rfl | rfl | rfl | rfl | rfl <;> decide +kernel
end L2.MP
namespace L2.MP
open PySem PySem.Spec PyProof.Rows
section
variable {K : PySem.W.Frag} {H : Hp} {Q : VK}
theorem o_neSame {v : V} (h : scal v v = true) (q : Q (.bl false) H) : rNeA K v v H Q := .inl ⟨h, by rw [decide_eq_true rfl]; exact q⟩
theorem o_eqSame {v : V} (h : scal v v = true) (q : Q (.bl true) H) : rEqA K v v H Q := .inl ⟨h, by rw [decide_eq_true rfl]; exact q⟩
end
theorem memS {l : List Str} {i : Nat} {x : V} (h : (l.map V.str)[i]? = some x) : ∃ c, x = .str c ∧ c ∈ l := by
  obtain ⟨c, hc, rfl⟩ := List.mem_map.mp (List.mem_of_getElem? h)
  exact ⟨c, rfl, hc⟩
end L2.MP
namespace L2.MP
open PySem PySem.Spec PyProof.Rows
class ILit (xs : List V) (l : outParam (List Int)) : Prop where
  eq : xs = l.map V.int
instance : ILit [] [] := ⟨rfl⟩
instance {i : Int} {xs : List V} {l : List Int} [c : ILit xs l] : ILit (V.int i :: xs) (i :: l) := ⟨by rw [c.eq]; rfl⟩
theorem inI {p : Int} {l : List Int} : inV (.int p) (l.map V.int) = decide (p ∈ l) := by
  induction l with
  | nil => simp [inV]
  | cons a l ih =>
    rw [List.map_cons, inV, List.any_cons, ← inV, ih]
    by_cases e : a = p
    · subst e; simp [eqV]
    · have e' : p ≠ a := fun z => e z.symm
      simp [eqV, e, e']
theorem allFI (l : List Int) : (l.map V.int).all flatV = true := by
  induction l with
  | nil => rfl
  | cons a l ih => rw [List.map_cons, List.all_cons, ih]; rfl
section
variable {K : PySem.W.Frag} {H : Hp} {Q : VK} {p : Int} {a : Addr} {xs : List V} {l : List Int}
theorem o_inTI (h : SqT K H a xs) (c : ILit xs l) (q : Q (.bl (decide (p ∈ l))) H) : rInA K false (.int p) (.ref a) H Q := .inl ⟨a, _, rfl, .inr h, rfl, by rw [c.eq]; exact allFI l, by rw [c.eq, inI]; exact q⟩
theorem o_inLI (h : SqL K H a xs) (c : ILit xs l) (q : Q (.bl (decide (p ∈ l))) H) : rInA K false (.int p) (.ref a) H Q := .inl ⟨a, _, rfl, .inl h, rfl, by rw [c.eq]; exact allFI l, by rw [c.eq, inI]; exact q⟩
theorem o_ix2PT {i0 i1 : Int} (h : SqT K H a [.int i0, .int i1]) (hp : 0 ≤ p ∧ p < 2) (q : Q (.int (if p = 1 then i1 else i0)) H) : rIx K (.ref a) (.int p) H Q := by
  by_cases e : p = 1
  · subst e
    exact o_ixT h (atI_nat (j := 1) rfl) q
  · have e0 : p = 0 := by omega
    subst e0
    exact o_ixT h (atI_nat (j := 0) rfl) q
theorem o_ix2PL {i0 i1 : Int} (h : SqL K H a [.int i0, .int i1]) (hp : 0 ≤ p ∧ p < 2) (q : Q (.int (if p = 1 then i1 else i0)) H) : rIx K (.ref a) (.int p) H Q := by
  by_cases e : p = 1
  · subst e
    exact o_ixL h (atI_nat (j := 1) rfl) q
  · have e0 : p = 0 := by omega
    subst e0
    exact o_ixL h (atI_nat (j := 0) rfl) q
end
end L2.MP
namespace L2.MP
open PySem PySem.Spec PyProof.Rows
/-- no bool -/
def nb : V → Bool
  | .int _ => true
  | .str _ => true
  | .non => true
  | _ => false
theorem i_nb {K : PySem.W.Frag} {H : Hp} {Q : VK} {v : V} (h : nb v = true) (q : Q (.bl false) H) : rIsi K [v, .ty "bool"] H Q := by
  cases v <;> first | exact i_plain q | cases h
end L2.MP
namespace L2.MP
open PySem PySem.Spec PyProof.Rows
theorem o_neg {H : Hp} {Q : VK} {p : Int} (q : Q (.int (-p)) H) : rNegI (.int p) H Q := ⟨p, rfl, q⟩
theorem o_isB {H : Hp} {Q : VK} {a b : Bool} (q : Q (.bl (decide (a = b))) H) : rIsB (.bl a) (.bl b) H Q := ⟨a, b, rfl, rfl, q⟩
theorem o_ixM {K : PySem.W.Frag} {H : Hp} {Q : VK} {a : Addr} {p : Int} {xs : List V} (h : SqL K H a xs) (h0 : 0 ≤ p) (h1 : p < xs.length) (q : ∀ v, v ∈ xs → Q v H) : rIx K (.ref a) (.int p) H Q := by
  obtain ⟨m, rfl⟩ : ∃ m : Nat, p = (m : Int) := ⟨p.toNat, by omega⟩
  have hm : m < xs.length := by omega
  exact o_ixL h (atI_nat (List.getElem?_eq_getElem hm)) (q _ (List.getElem_mem hm))
end L2.MP
namespace L2.MP
open PySem PySem.Spec PyProof.Rows
/-- the strictest choice -/
def lastc (e : Str) : Str := sv (chs e) ((chs e).length - 1 : Nat)
theorem lastc_ok : ∀ e ∈ ENT, lastc e ∈ chs e ∧ fL [("join" : Str), ("stop" : Str), ("raise" : Str), ("stop" : Str), ("stop" : Str), ("stop" : Str), ("stop" : Str), ("stop" : Str), ("stop" : Str), ("stop" : Str)] e = lastc e ∧ atI ((chs e).map V.str) (-1) = some (.str (lastc e)) ∧ (sv (chs e) 0 ∈ chs e ∧ atI ((chs e).map V.str) 0 = some (.str (sv (chs e) 0))) := by
  intro e he
  simp only [ENT, List.mem_cons, List.not_mem_nil, or_false] at he
  rcases he with rfl | rfl | rfl | rfl | rfl | rfl | rfl | rfl | rfl | rfl <;> decide +kernel
section
variable {K : PySem.W.Frag} {H : Hp} {Q : VK} {e c : Str} {a : Addr}
theorem o_ixLast (h : SqL K H a ((chs e).map V.str)) (he : e ∈ ENT) (q : Q (.str (lastc e)) H) : rIx K (.ref a) (.int (-1)) H Q := o_ixL h (lastc_ok e he).2.2.1 q
theorem k_ninEntF [BookK K] (he : e ∉ ENT) (q : Q (.bl true) H) : rInA K true (.str e) (.ref (He.ga K "ENTRIES")) H Q := k_ninEnt (by rw [decide_eq_false he]; exact q)
theorem k_ninChF [BookK K] (he : e ∈ ENT) (hc : c ∉ chs e) (q : Q (.bl true) H) : rInA K true (.str c) (.ref (chA K e)) H Q := k_ninCh he (by rw [decide_eq_false hc]; exact q)
/-- the wish of an except clause without a name -/
theorem k_wOnly {c cls : Value} {ts : Addr → Value → Option Addr → TS} {Wout : WX} {σ : St} {d : Option Addr} {D : Ends} (hx : PySem.W.exmOne K cls c = some true) (q : ∀ a, H a = none → ts a cls d D σ H) : wOnly K c ts Wout D cls d σ H := ⟨true, hx, fun _ => q, fun z => nomatch z⟩
end
end L2.MP
namespace L2.MP
open PySem PySem.Spec PyProof.Rows
section
variable {σ : St} {H : Hp} {Q : VK} {C : Addr} {sp : Sp} {m : Nat} {gV : List V → List V → List V} {zs vs : List V} {tk : TA}
def RMkK (C : Addr) (m : Nat) (sp : Sp) (gV : List V → List V → List V) (zs : List V) (E : XK) (H1 : Hp) (Q : VK) : Prop := zs.length = m ∧ ∀ x dx, H1 x = none → H1 dx = none → dx ≠ x → sp (gV [.ref x] zs) (upd (upd H1 dx (.own x)) x (.ins C dx [])) (fun v H2 => v = .non ∧ Q (.ref x) H2) E
theorem k_makeKS {E : St → XK} (h : tk σ H fun zs H1 => RMkK C m sp gV zs (E σ) H1 Q) : tMakeKS C m sp gV E tk σ H Q := h
theorem k_rmkK {E : XK} (hl : zs.length = m) (hg : ∀ x, gV [x] zs = x :: vs) (q : RMk C sp vs E H Q) : RMkK C m sp gV zs E H Q := ⟨hl, fun x dx h1 h2 h3 => by rw [hg]; exact q x dx h1 h2 h3⟩
end
end L2.MP

set_option Elab.async false
set_option linter.all false
set_option maxRecDepth 100000
set_option maxHeartbeats 4000000
/-! A walk over a list, a tuple or a text, whichever it is. -/
namespace L2.MP
open PySem PySem.Spec PyProof.Rows L2
def ISeq (K : PySem.W.Frag) (x : V) (H : Hp) (R : It → Hp → Prop) : Prop :=
  (∃ a, x = .ref a ∧ (∃ xs, SqL K H a xs) ∧ R (Itl K a) H) ∨ (∃ a, x = .ref a ∧ (∃ xs, SqT K H a xs) ∧ R (Itt K a) H) ∨ (∃ z, x = .str z ∧ R (Its z) H)
def iAny (K : PySem.W.Frag) (tl : TE) : TI := fun σ H R => tl σ H fun x H1 => ISeq K x H1 R
theorem pi_any {X : Cx} {tg l : Expr} {tl : TE} (hl : PE X l tl) : PI X tg l (iAny X.K tl) := by
  refine ⟨fun pins s σ H R I h => ?_⟩
  refine thn (hl.run pins s σ H _ I h) fun v s1 ⟨x, H1, I1, r1, q1⟩ => ?_
  rcases q1 with ⟨a, e, ⟨xs, hq⟩, q⟩ | ⟨a, e, ⟨xs, hq⟩, q⟩ | ⟨z, e, q⟩
  · subst e
    cases r1
    obtain ⟨its, rv, p, hz⟩ := I1.list hq
    refine wpAny_pyIter_list p.isList ?_
    refine ⟨s1.heap.objs.size, [s1.heap.objs.size], _, _, H1, rfl, I1.kept (t' := s1.toks) fun b o e => Heap.get?_push_of_some _ e, turn_list a _, ⟨_, Heap.get?_push_size _ rfl, rfl, rfl⟩, fun b hb => ?_, q⟩
    have e : b = s1.heap.objs.size := by simpa using hb
    subst e
    exact I1.fpOk (Nat.le_refl _) (I1.hok.fresh (Nat.le_refl _))
  · subst e
    cases r1
    obtain ⟨its, rv, p, hz⟩ := I1.tuple hq
    refine wpAny_pyIter_tuple (show s1.heap.IsTuple a its.toArray from p) ?_
    refine ⟨s1.heap.objs.size, [s1.heap.objs.size], _, _, H1, rfl, I1.kept (t' := s1.toks) fun b o e => Heap.get?_push_of_some _ e, turn_tuple a _, ⟨_, Heap.get?_push_size _ rfl, rfl, rfl⟩, fun b hb => ?_, q⟩
    have e : b = s1.heap.objs.size := by simpa using hb
    subst e
    exact I1.fpOk (Nat.le_refl _) (I1.hok.fresh (Nat.le_refl _))
  · subst e
    obtain ⟨t, rfl⟩ := r1
    cases ha : z.cps.all (· < 128)
    · exact wpAny_pyIter_wide ha (pi_one (tk := s1.toks) I1 _ (turn_str _ z t "str_iterator" (.inr rfl)) ⟨_, Heap.get?_push_size _ rfl, rfl, rfl⟩ q)
    · exact wpAny_pyIter_ascii ha (pi_one (tk := s1.toks) I1 _ (turn_str _ z t "str_ascii_iterator" (.inl rfl)) ⟨_, Heap.get?_push_size _ rfl, rfl, rfl⟩ q)
section
variable {K : PySem.W.Frag} {σ : L2.St} {H : Hp} {n b c : L2.St → Hp → Prop} {r : VK} {i : Nat} {tb : TS} {te : TE} {a : Addr} {xs : List V} {Q : VK}
def RA (K : PySem.W.Frag) (i : Nat) (tb : TS) (D : Ends) (σ : L2.St) (x : V) (H : Hp) : Prop := ISeq K x H fun J H1 => FW J i tb D σ H1
theorem k_forA (h : te σ H (RA K i tb ⟨n, r, b, c⟩ σ)) : tFor (iAny K te) (gName i) tb ⟨n, r, b, c⟩ σ H := h
theorem k_raL {D : Ends} {x : V} (h : RL K i tb D σ x H) : RA K i tb D σ x H := .inl h
theorem k_raT {D : Ends} {x : V} (h : RT K i tb D σ x H) : RA K i tb D σ x H := .inr (.inl h)
theorem k_rtI (h : SqT K H a xs) (P : Nat → L2.St → Hp → Prop) (h0 : P 0 σ H) (hl : ∀ (m : Nat) σ H, m ≤ xs.length → P m σ H → SqT K H a xs)
    (ht : ∀ (m : Nat) x σ H, xs[m]? = some x → P m σ H → tb ⟨P (m + 1), r, n, P (m + 1)⟩ (σ.set i (some x)) H) (hd : ∀ σ H, P xs.length σ H → n σ H) : RT K i tb ⟨n, r, b, c⟩ σ (.ref a) H :=
  ⟨a, rfl, ⟨xs, h⟩, for_tup (D := ⟨n, r, b, c⟩) P h0 hl (fun m x σ H hm q => ht m x σ H hm q) hd⟩
/-- a list or a tuple by an invariant -/
theorem k_raI (h : SqL K H a xs ∨ SqT K H a xs) (P : Nat → L2.St → Hp → Prop) (h0 : P 0 σ H) (hl : ∀ (m : Nat) σ H', m ≤ xs.length → P m σ H' → Ex H H')
    (ht : ∀ (m : Nat) x σ H, xs[m]? = some x → P m σ H → tb ⟨P (m + 1), r, n, P (m + 1)⟩ (σ.set i (some x)) H) (hd : ∀ σ H, P xs.length σ H → n σ H) : RA K i tb ⟨n, r, b, c⟩ σ (.ref a) H := by
  rcases h with h | h
  · exact k_raL (k_rlI h P h0 (fun m σ H' hm q => (hl m σ H' hm q).sqL h) ht hd)
  · exact k_raT (k_rtI h P h0 (fun m σ H' hm q => (hl m σ H' hm q).sqT h) ht hd)
/-- the same, the thing itself told at each turn -/
theorem k_raI' (h : SqL K H a xs ∨ SqT K H a xs) (P : Nat → L2.St → Hp → Prop) (h0 : P 0 σ H) (hl : ∀ (m : Nat) σ H', m ≤ xs.length → P m σ H' → (SqL K H a xs → SqL K H' a xs) ∧ (SqT K H a xs → SqT K H' a xs))
    (ht : ∀ (m : Nat) x σ H, xs[m]? = some x → P m σ H → tb ⟨P (m + 1), r, n, P (m + 1)⟩ (σ.set i (some x)) H) (hd : ∀ σ H, P xs.length σ H → n σ H) : RA K i tb ⟨n, r, b, c⟩ σ (.ref a) H := by
  rcases h with h | h
  · exact k_raL (k_rlI h P h0 (fun m σ H' hm q => (hl m σ H' hm q).1 h) ht hd)
  · exact k_raT (k_rtI h P h0 (fun m σ H' hm q => (hl m σ H' hm q).2 h) ht hd)
/-- a comprehension over a list or a tuple: what its turns ask -/
def RLc (J : It) (g : TG) (tt : TT) (te : TE) (vs : List Nat) (σ : L2.St) (Q : VK) (H1 : Hp) : Prop := ∀ D, H1 D = none → ∃ W : Nat → Nat → Hp → Prop, (∃ m, W 0 m (upd H1 D (.lst []))) ∧ ∀ i m H, W i m H →
  (J.stop i H ∧ Q (.ref D) H) ∨ (J.go i H ∧ ∃ Nx : Hp → Prop, (∀ H', Nx H' → ∃ m', m' < m ∧ W (i + 1) m' H') ∧ ∀ x H', J.yld i H x H' → g x (wipe σ vs) H' fun σ2 H2 => wipe σ2 vs = wipe σ vs ∧ tt σ2 H2 fun b H3 =>
    if b = true then te σ2 H3 fun y H4 => ∃ acc, H4 D = some (.lst acc) ∧ acc.length < sizeLine ∧ Nx (upd H4 D (.lst (acc ++ [y]))) else Nx H3)
def RLA (K : PySem.W.Frag) (g : TG) (tt : TT) (te : TE) (vs : List Nat) (σ : L2.St) (Q : VK) (x : V) (H : Hp) : Prop := ISeq K x H fun J H1 => RLc J g tt te vs σ Q H1
theorem k_lcA {tl : TE} {g : TG} {tt : TT} {vs : List Nat} (h : tl σ H (RLA K g tt te vs σ Q)) : tLc (iAny K tl) g tt te vs σ H Q := h
/-- one turn behind another; D the list that is made -/
theorem k_lcI {j : Nat} {g : TG} {tt : TT} {vs : List Nat} (h : SqL K H a xs ∨ SqT K H a xs) (P : Addr → Nat → Hp → Prop) (h0 : ∀ D, H D = none → P D 0 (upd H D (.lst [])))
    (hl : ∀ D m H', H D = none → m ≤ xs.length → P D m H' → (SqL K H a xs → SqL K H' a xs) ∧ (SqT K H a xs → SqT K H' a xs))
    (hs : ∀ D m x H', H D = none → xs[m]? = some x → P D m H' → g x (wipe σ vs) H' fun σ2 H2 => wipe σ2 vs = wipe σ vs ∧ tt σ2 H2 fun b H3 =>
      if b = true then te σ2 H3 fun y H4 => ∃ acc, H4 D = some (.lst acc) ∧ acc.length < sizeLine ∧ P D (m + 1) (upd H4 D (.lst (acc ++ [y]))) else P D (m + 1) H3)
    (hd : ∀ D H', H D = none → P D xs.length H' → Q (.ref D) H') : RLA K g tt te vs σ Q (.ref a) H := by
  rcases h with h | h
  · exact .inl ⟨a, rfl, ⟨xs, h⟩, fun D hD => lc_list (P D) (h0 D hD) (fun m H' hm q => (hl D m H' hD hm q).1 h) (fun m x H' hm q => hs D m x H' hD hm q) fun H' q => hd D H' hD q⟩
  · exact .inr (.inl ⟨a, rfl, ⟨xs, h⟩, fun D hD => lc_tup (P D) (h0 D hD) (fun m H' hm q => (hl D m H' hD hm q).2 h) (fun m x H' hm q => hs D m x H' hD hm q) fun H' q => hd D H' hD q⟩)
end
end L2.MP
namespace L2.MP
open PySem PySem.Spec PyProof.Rows L2
/-! ### one sign in a text; a text's sign; texts joined -/
def rInSg (neg : Bool) : R2 := fun x y H Q => ∃ (c : Nat) (z : Str), x = .str ⟨#[c]⟩ ∧ y = .str z ∧ Q (.bl (if neg = true then !decide (c ∈ z.cps.toList) else decide (c ∈ z.cps.toList))) H
section
variable {X : Cx} {K : PySem.W.Frag} {H : Hp} {Q : VK}
theorem op_inSg : OpR X (compareOp .In) (rInSg false) := op_in_sign
theorem op_notInSg : OpR X (compareOp .NotIn) (rInSg true) := op_notIn_sign
theorem o_inSg {c : Nat} {z : Str} {neg : Bool} (q : Q (.bl (if neg = true then !decide (c ∈ z.cps.toList) else decide (c ∈ z.cps.toList))) H) : rInSg neg (.str ⟨#[c]⟩) (.str z) H Q := ⟨c, z, rfl, rfl, q⟩
theorem o_ixS {z : Str} {p : Int} {c : Nat} (hz : z.length ≤ 100000) (h0 : 0 ≤ p) (e : z.cps[p.toNat]? = some c) (q : Q (.str ⟨#[c]⟩) H) : rIx K (.str z) (.int p) H Q :=
  .inr (.inr ⟨z, p, c, rfl, rfl, sz_of hz, atI_toNat h0 (by rw [Array.getElem?_toList]; exact e), q⟩)
theorem o_mulS {z : Str} {n : Int} (h : MulOk z n) (q : Q (.str (Txt.mul z n)) H) : rMulA (.str z) (.int n) H Q := ⟨h, q⟩
theorem o_lenS {y : Str} (h : y.length ≤ 100000) (q : Q (.int y.length) H) : rLenA K [.str y] H Q := ⟨_, _, rfl, ⟨sz_of h, rfl⟩, q⟩
end
end L2.MP
namespace L2.MP
open PySem PySem.Spec PyProof.Rows L2
section
variable {K : PySem.W.Frag} {σ : L2.St} {H : Hp} {n b c : L2.St → Hp → Prop} {r : VK} {i : Nat} {tb : TS}
/-- a text, sign by sign, by an invariant -/
theorem k_raS {z : Str} (P : Nat → L2.St → Hp → Prop) (h0 : P 0 σ H) (ht : ∀ (m : Nat) x σ H, z.cps[m]? = some x → P m σ H → tb ⟨P (m + 1), r, n, P (m + 1)⟩ (σ.set i (some (.str ⟨#[x]⟩))) H)
    (hd : ∀ σ H, P z.cps.size σ H → n σ H) : RA K i tb ⟨n, r, b, c⟩ σ (.str z) H := by
  refine .inr (.inr ⟨z, rfl, fun i m σ H => m = z.cps.size - i ∧ i ≤ z.cps.size ∧ P i σ H, ⟨z.cps.size, by simp, Nat.zero_le _, h0⟩, ?_⟩)
  rintro j m σ H ⟨rfl, hj, p⟩
  by_cases hlt : j < z.cps.size
  · refine .inr ⟨hlt, P (j + 1), fun σ' H' p' => ⟨z.cps.size - (j + 1), by omega, rfl, hlt, p'⟩, fun x H' y => ?_⟩
    obtain ⟨rfl, cc, e, rfl⟩ := y
    exact ht j cc σ _ e p
  · have e : j = z.cps.size := by omega
    subst e
    exact .inl ⟨Nat.le_refl _, hd σ H p⟩
end
end L2.MP
namespace L2.MP
open PySem PySem.Spec PyProof.Rows L2
section
variable {K : PySem.W.Frag} {H : Hp} {Q : VK} {a : Addr} {ys : List V}
theorem o_tupL (h : SqL K H a ys) (q : ∀ p H', H p = none → Ex H H' → H' p = some (.tup ys) → Q (.ref p) H') : rTupleA K [.ref a] H Q := ⟨a, ys, rfl, .inl ⟨h, fun l hl => q l _ hl (Ex.new hl) upd_same⟩⟩
theorem o_tupT (h : SqT K H a ys) (q : Q (.ref a) H) : rTupleA K [.ref a] H Q := ⟨a, ys, rfl, .inr ⟨h, q⟩⟩
theorem o_lisL (h : SqL K H a ys) (q : ∀ p H', H p = none → Ex H H' → H' p = some (.lst ys) → Q (.ref p) H') : rListA K [.ref a] H Q := ⟨a, ys, rfl, .inl h, fun l hl => q l _ hl (Ex.new hl) upd_same⟩
theorem o_lisT (h : SqT K H a ys) (q : ∀ p H', H p = none → Ex H H' → H' p = some (.lst ys) → Q (.ref p) H') : rListA K [.ref a] H Q := ⟨a, ys, rfl, .inr h, fun l hl => q l _ hl (Ex.new hl) upd_same⟩
end
end L2.MP
namespace L2.MP
open PySem PySem.Spec PyProof.Rows L2
section
variable {K : PySem.W.Frag} {H : Hp} {Q : VK} {a b : Addr} {ls : List Int}
theorem flat_ints (ls : List Int) : flatOk (ls.map V.int) = true := by
  induction ls with
  | nil => rfl
  | cons x l ih => simpa [flatOk, flat1] using ih
theorem o_neInil (h1 : SqL K H a (ls.map V.int)) (h2 : SqL K H b []) (q : Q (.bl (!decide (ls = []))) H) : rNeA K (.ref a) (.ref b) H Q :=
  o_neLL h1 h2 (flat_ints ls) rfl (by
    cases ls with
    | nil => exact q
    | cons x l => exact q)
end
end L2.MP
namespace L2.MP
open PySem PySem.Spec PyProof.Rows L2
theorem o_addT {K : PySem.W.Frag} {H : Hp} {Q : VK} {a b : Addr} {xs ys : List V} (h1 : H a = some (.tup xs)) (h2 : H b = some (.tup ys)) (h : xs.length + ys.length ≤ 100000) (q : ∀ p H', Ex H H' → H' p = some (.tup (xs ++ ys)) → Q (.ref p) H') : rAddA K (.ref a) (.ref b) H Q :=
  .inr ⟨a, b, xs, ys, rfl, rfl, sqT_of h1, sqT_of h2, sz_of h, fun e => q b H (Ex.refl H) (by rw [e]; exact h2), fun _ e => q a H (Ex.refl H) (by rw [e, List.append_nil]; exact h1), fun _ _ p hp => q p _ (Ex.new hp) upd_same⟩
/-- all but one thing stays -/
def ExB (a : Addr) (H H' : Hp) : Prop := ∀ b o, b ≠ a → H b = some o → H' b = some o
theorem ExB.refl {a : Addr} (H : Hp) : ExB a H H := fun _ _ _ h => h
theorem ExB.trans {a : Addr} {H H1 H2 : Hp} (x : ExB a H H1) (y : ExB a H1 H2) : ExB a H H2 := fun b o n h => y b o n (x b o n h)
theorem ExB.of {a : Addr} {H H' : Hp} (x : Ex H H') : ExB a H H' := fun b o _ h => x b o h
theorem ExB.set {a : Addr} {H : Hp} {o : HO} : ExB a H (upd H a o) := fun b u n h => by rw [upd_ne n]; exact h
end L2.MP

set_option Elab.async false
set_option linter.all false
set_option maxRecDepth 100000
set_option maxHeartbeats 4000000
/-! A closure that counts: a nested def that adds 1 to a captured name (nonlocal) and gives a value of its captured names. -/
namespace L2.MP
open PySem PySem.Spec PyProof.Rows L2 NdefX LamX
/-- a cell, tracked as a thing of its own -/
def CellO (c : Addr) (v : V) : HO := .ext fun h => ∃ u, RelV v u ∧ h.IsCell c (some u)
theorem cellO_ok {P : Program} {w : World} {H : Hp} {h : Heap} {c : Addr} {v : V} {u : Value} (r : RelV v u) (x : h.IsCell c (some u)) : ObjOk P w H h c (CellO c v) := by
  refine ⟨⟨u, r, x⟩, ⟨_, x.choose_spec.1⟩, fun h1 h2 ⟨u', r', o, ho, hd⟩ k => ⟨u', r', o, k o ho, hd⟩⟩
theorem cellO_at {P : Program} {w : World} {H : Hp} {h : Heap} {c : Addr} {v : V} (x : ObjOk P w H h c (CellO c v)) : ∃ u, RelV v u ∧ h.IsCell c (some u) := x.1
theorem cellO_own {c y : Addr} {v : V} : CellO c v ≠ .own y := fun z => by
  have z' : HO.ext _ = HO.own y := z
  cases z'
theorem cellO_tup {c : Addr} {v : V} {xs : List V} : CellO c v ≠ .tup xs := fun z => by
  have z' : HO.ext _ = HO.tup xs := z
  cases z'
theorem cellO_frz {c : Addr} {v : V} {o : Obj} {u : HO} : CellO c v ≠ .frz o u := fun z => by
  have z' : HO.ext _ = HO.frz o u := z
  cases z'
theorem cellO_tbl {c : Addr} {v : V} {p : Array Value} : CellO c v ≠ .tbl p := fun z => by
  have z' : HO.ext _ = HO.tbl p := z
  cases z'
/-- H without two addresses -/
def del2 (H : Hp) (a b : Addr) : Hp := fun x => if x = a ∨ x = b then none else H x
theorem del2_ne {H : Hp} {a b x : Addr} (h : x ≠ a) (h' : x ≠ b) : del2 H a b x = H x := if_neg (fun z => z.elim h h')
theorem del2_l {H : Hp} {a b : Addr} : del2 H a b a = none := if_pos (.inl rfl)
theorem del2_r {H : Hp} {a b : Addr} : del2 H a b b = none := if_pos (.inr rfl)
theorem del2_none {H : Hp} {a b x : Addr} (h : H x = none) : del2 H a b x = none := by
  unfold del2
  split
  · rfl
  · exact h
theorem CX_E0 {P : Program} {w : World} {outer : List Env} {H : Hp} {s s' : Shared} {u : Value} (h : L2.CX P w outer H s E0 u s') : False := by
  obtain ⟨_, _, _, _, _, _, _, _, _, _, _, _, z⟩ := h
  exact z
/-- what the counting closure F at f says: stem and the count behind the call -/
def spFresh (F : NF) (f : Addr) (a b : Str) : Sp := fun vs H Q _ => vs = [] ∧ ∃ (c d : Addr) (x : Str) (n : Int), F.cl.lookup a = some c ∧ F.cl.lookup b = some d ∧ H c = some (CellO c (.str x)) ∧ H d = some (CellO d (.int n)) ∧
  ((n + 1).natAbs.log2 < 1920 ∧ x.length + (Str.ofString (toString (n + 1))).length ≤ sizeLine) ∧ Q (.str (x ++ Str.ofString (toString (n + 1)))) (upd H d (CellO d (.int (n + 1))))
section
variable {P : Program} {w : World} {K : PySem.W.Frag} {mg : Str → Option Value} {base : Heap} {F : NF} {f : Addr} {k : Nat} {a b : Str}
theorem freshC (hab : a ≠ b) (hbd : (b == ("__classdict__" : Str)) = false) (S : NScope [a, b] [] [a, b] F.scope) (hb : ∀ (doc pm ctv : Value), bindArgs (F.fd doc pm ctv) ⟨[], []⟩ = pure [])
    (hkeys : ∀ y c, F.cl.lookup y = some c → y = a ∨ y = b)
    {nn : List Str} {e : Expr} {jj : Nat} {p0 p1 p2 p3 p4 : Pos} (hbody : F.body = [.Nonlocal nn p0, .AugAssign (.Name b p1) .Add (.Constant (.int 1) jj p2) p3, .Return (some e) p4])
    (he : ∀ (A : Around) (outer : List Env) (s : Shared) (H : Hp), Room k (A.deeper (envF F f s.heap.objs.size)) → PE (ncx (L2.CX P w) P w K mg base [a, b] F f A outer s H E0) e (tOp (rAddA K) (tVar 0) (tCB rStrI (tCons (tVar 1) tNil))))
    (A : Around) (outer : List Env) (s : Shared) (H : Hp) (Q : VK) (E : XK) (hr : Room (k + 1) A) (e0 : Env0 P w K mg base A outer s H) (hf : H f = some (FnO f F)) (hco : H F.c = some (CodeO F.c F.qual)) (hsp : spFresh F f a b [] H Q E) :
    codeAny (model P w) A (.call (.ref f) ⟨[], []⟩) (CR (L2.CX P w) outer P w H s Q E) s := by
  have KX : K.In s.heap := e0.mod.kin.keeps fun b o e => (e0.bs b o e).1
  have lim : s.heap.NoLimit := e0.mod.nolimit.keeps fun b o e => (e0.bs b o e).1
  obtain ⟨od, sl, doc, pm, ctv, ho⟩ := fnO_at e0.hok hf
  obtain ⟨_, c, d, x, n, hc, hd, hHc, hHd, ⟨hlog, hsz⟩, q⟩ := hsp
  obtain ⟨uc, rc, xc⟩ := cellO_at (e0.hok c _ hHc)
  obtain ⟨ud, rd, xd⟩ := cellO_at (e0.hok d _ hHd)
  have hcd' : c ≠ d := fun z => by
    subst z
    obtain ⟨o, ho, h1⟩ := xc
    obtain ⟨o', ho', h2⟩ := xd
    rw [ho] at ho'
    cases ho'
    rw [h1] at h2
    cases h2
    obtain ⟨t, rfl⟩ := rc
    obtain ⟨t', z⟩ := rd
    cases z
  refine codeAny_call_function hr.depth ho rfl S.co S.gen rfl (codeO_at e0.hok hco) ?_
  rw [hb doc pm ctv]
  refine wpAny_pure (wpAny_newFunctionEnv S.nocell (fun ⟨n, _⟩ hy => absurd hy (by simp)) (fun h₁ hns hsb => ⟨lim.fresh _ hsb, ?_⟩) S.kind)
  show codeAny _ _ (.func F.body (envF F f s.heap.objs.size)) _ _
  refine codeAny_func ?_
  have kp : ∀ b o, s.heap.get? b = some o → h₁.get? b = some o := fun b o e => hsb.extBut b o (Nat.ne_of_lt (Heap.lt_size e)) (Heap.get?_push_of_some _ e)
  rw [hbody]
  have hfr : (envF F f s.heap.objs.size).kindOf b = some .free := S.frk b (by simp)
  refine wpAny_execs_cons (wpAny_Nonlocal ?_)
  show wpAny _ _ (execs _ _) _ _ _
  obtain ⟨td, rfl⟩ := rd
  refine wpAny_execs_cons (wpAny_AugAssign_Name (wpAny_loadName_free (c := d) S.kind hfr hd (xd.keeps kp) (wpAny_Constant_int (iadd_int (PySem.W.storeName_free S.kind hfr hd (xd.keeps kp) fun h₂ xd2 sb2 => ?_))) ?hcl))
  case hcl => exact hbd
  show wpAny _ _ (execs _ _) _ _ _
  obtain ⟨o2, hg2, hd2⟩ := xd2
  obtain ⟨od', hod, hdd⟩ := xd
  obtain ⟨oc, hoc, hdc⟩ := xc
  obtain ⟨hs, g1, g2, gsz⟩ : ∃ hs : Heap, hs.get? d = some o2 ∧ (∀ b, b ≠ d → hs.get? b = s.heap.get? b) ∧ hs.objs.size = s.heap.objs.size :=
    ⟨s.heap.update d fun _ => o2, Heap.get?_update_self _ hod (by obtain ⟨_, _, dt, _⟩ := o2; have z : dt = _ := hd2; subst z; rfl), (Heap.SameBut.update ..).2, (Heap.SameBut.update ..).1⟩
  have kp2 : ∀ b o, hs.get? b = some o → h₂.get? b = some o := fun b o e => by
    by_cases hb : b = d
    · subst hb; rw [g1] at e; cases e; exact hg2
    · rw [g2 b hb] at e
      exact (sb2.2 b hb).trans (kp b o e)
  have neN : ∀ {b}, H b = none → b ≠ d := fun n z => by subst z; rw [hHd] at n; cases n
  have neU : ∀ {b o}, del2 H c d b = some o → b ≠ c ∧ b ≠ d ∧ H b = some o := fun {b o} e => by
    unfold del2 at e
    split at e
    · cases e
    · rename_i z
      exact ⟨fun y => z (.inl y), fun y => z (.inr y), e⟩
  have e1 : Env0 P w K mg base A outer { s with heap := hs } (del2 H c d) := by
    refine ⟨e0.frames, e0.mod, fun b o e => ?_, ?_, ?_, fun b hb => del2_none (e0.frf b hb), fun b o e => ?_, e0.bare⟩
    · obtain ⟨q1, q2⟩ := e0.bs b o e
      exact ⟨(g2 b (neN q2)).trans q1, del2_none q2⟩
    · show base.objs.size ≤ hs.objs.size
      rw [gsz]; exact e0.bsz
    · have go : ∀ l : List Env, s.heap.FunFrames base l → hs.FunFrames base l := by
        intro l
        induction l with
        | nil => exact fun x => x
        | cons ev r ih =>
          rintro ⟨hk, ⟨L, o, hf, hn, ho, hd'⟩, hr⟩
          refine ⟨hk, ?_, ih hr⟩
          by_cases hL : L = d
          · subst hL
            exact ⟨L, o2, hf, hn, g1, fun vs z => by rw [hd2] at z; cases z⟩
          · exact ⟨L, o, hf, hn, (g2 L hL).trans ho, hd'⟩
      exact go outer e0.funs
    · obtain ⟨z1, z2, z3⟩ := neU e
      refine (e0.hok b o z3).stay (fun y u hy r => (g2 y ?_).trans r) (fun y hy => ?_) fun y xs hy => ?_
      · rcases hy with rfl | hy
        · exact z2
        · rintro rfl
          rw [hHd] at hy
          exact cellO_own (Option.some.inj hy)
      · rw [del2_ne ?_ ?_]
        · exact hy
        · rintro rfl
          rw [hHc] at hy
          exact cellO_own (Option.some.inj hy)
        · rintro rfl
          rw [hHd] at hy
          exact cellO_own (Option.some.inj hy)
      · rw [del2_ne ?_ ?_]
        · exact hy
        · rintro rfl
          rw [hHc] at hy
          exact cellO_tup (Option.some.inj hy)
        · rintro rfl
          rw [hHd] at hy
          exact cellO_tup (Option.some.inj hy)
  have C : CellsAt F.cl [a, b] [some (.str x), some (.int (n + 1))] hs (del2 H c d) := by
    have two : ∀ y c', F.cl.lookup y = some c' → (y = a ∧ c' = c) ∨ (y = b ∧ c' = d) := fun y c' e => by
      rcases hkeys y c' e with rfl | rfl
      · rw [hc] at e; exact .inl ⟨rfl, (Option.some.inj e).symm⟩
      · rw [hd] at e; exact .inr ⟨rfl, (Option.some.inj e).symm⟩
    have cc : hs.IsCell c (some uc) := ⟨oc, (g2 c hcd').trans hoc, hdc⟩
    refine ⟨rfl, fun y c' e => ?_, fun x' y c' e1 e2 => ?_, fun i y e => ?_⟩
    · rcases two y c' e with ⟨_, rfl⟩ | ⟨_, rfl⟩
      · exact ⟨del2_l, _, cc⟩
      · exact ⟨del2_r, _, o2, g1, hd2⟩
    · rcases two _ _ e1 with ⟨rfl, h1⟩ | ⟨rfl, h1⟩ <;> rcases two _ _ e2 with ⟨rfl, h2⟩ | ⟨rfl, h2⟩
      · rfl
      · exact absurd (h1.symm.trans h2) hcd'
      · exact absurd (h2.symm.trans h1) hcd'
      · rfl
    · match i, e with
      | 0, e => cases e; exact ⟨c, hc, fun v hv => by cases hv; exact ⟨uc, rc, cc⟩⟩
      | 1, e => cases e; exact ⟨d, hd, fun v hv => by cases hv; exact ⟨_, ⟨_, rfl⟩, o2, g1, hd2⟩⟩
  have hns2 : h₂.Ns hs.objs.size fun y => (([] : List Str).zip ([] : List Value)).reverse.lookup y := by
    rw [gsz]
    exact hns.sameBut sb2 (Nat.ne_of_gt (Heap.lt_size hod))
  have I := inv_startN (f := f) (CX := L2.CX P w) (E := E0) (tk := s.toks + 1 + 1) (us := []) (vs := []) S hr.hd e1 rfl .nil C hns2 kp2
  rw [← gsz]
  refine wpAny_mono ((pss_one (ps_ret (he A outer { s with heap := hs } (del2 H c d) (hr.deeper _)))).run [] _ _ _ { nx := fun _ _ => False, rt := fun v H' => v = .str (x ++ Str.ofString (toString (n + 1))) ∧ H' = del2 H c d } I ?_) (fun fl s' hs' => ?_) fun e s' hs' => ?_
  · refine ⟨_, rfl, _, rfl, n + 1, rfl, ?_, hsz, rfl, rfl⟩
    exact hlog
  · cases fl with
    | ret u =>
      obtain ⟨v, σ', H', J, rv, rfl, rfl⟩ := hs'
      have U : Un (frs outer) [] (del2 H c d) (del2 H c d) hs s'.heap := J.base
      refine ⟨_, upd H d (CellO d (.int (n + 1))), J.os, J.bare, ⟨fun b o e n hb he => U.keep b o ((g2 b (neN n)).trans e) (del2_none n) hb he, fun b o e n hb he => U.slot b o ((g2 b (neN n)).trans e) (del2_none n) hb he, fun b o e n _ => (upd_ne (neN n)).trans n,
        fun b o e he => ?_, fun b xs e => ?_, fun b o u e => ?_, fun b ps e => ?_⟩, fun b o e => ?_, rv, q⟩
      · by_cases hb : b = d
        · subst hb; exact U.there b o2 g1 he
        · exact U.there b o ((g2 b hb).trans e) he
      · rw [upd_ne fun z => ?_]; exact e
        subst z; rw [hHd] at e; exact cellO_tup (Option.some.inj e)
      · rw [upd_ne fun z => ?_]; exact e
        subst z; rw [hHd] at e; exact cellO_frz (Option.some.inj e)
      · refine ⟨#[], ?_⟩
        rw [upd_ne fun z => ?_, e]; simp
        subst z; rw [hHd] at e; exact cellO_tbl (Option.some.inj e)
      · by_cases hb : b = d
        · subst hb
          rw [upd_same] at e
          cases e
          obtain ⟨sl, e2⟩ := U.any g1 del2_r (by simp)
          exact cellO_ok ⟨_, rfl⟩ ⟨_, e2, hd2⟩
        · rw [upd_ne hb] at e
          by_cases hb' : b = c
          · subst hb'
            rw [hHc] at e
            cases e
            obtain ⟨sl, e2⟩ := U.any ((g2 b hb).trans hoc) del2_l (by simp)
            exact cellO_ok rc ⟨_, e2, hdc⟩
          · refine (J.hok b o (by rw [del2_ne hb' hb]; exact e)).stay (fun _ _ _ r => r) (fun y hy => ?_) fun y xs hy => ?_
            · obtain ⟨_, z2, z3⟩ := neU hy
              rw [upd_ne z2]; exact z3
            · obtain ⟨_, z2, z3⟩ := neU hy
              rw [upd_ne z2]; exact z3
    | next =>
      obtain ⟨_, _, _, z⟩ := hs'
      exact z.elim
    | brk =>
      obtain ⟨_, _, _, z⟩ := hs'
      exact z.elim
    | cont =>
      obtain ⟨_, _, _, z⟩ := hs'
      exact z.elim
  · exact wpAny_mono hs' (fun _ _ z => (CX_E0 z).elim) fun _ _ z => (CX_E0 z).elim
end
/-! ### the def that makes it -/
def codeOfF (K : PySem.W.Frag) (f : Addr) : Addr := match K.lookup f with
  | some ⟨_, _, .func fd, _⟩ => (match fd.code with
    | .ref c => c
    | _ => 0)
  | _ => 0
section
variable {P : Program} {w : World} {K : PySem.W.Frag} {mg : Str → Option Value} {base : Heap} {x qual : Str} {params : Arguments} {body : List Stmt} {scope : Scope} {dvs : List V} {kws : List (Str × V)} {f : Addr} {fd : FuncData}
/-- FunD.ok, the body's run told whole -/
theorem funD_okX {CX : CXT} {N ps : List Str} {k : Nat} {sp : Sp} (F : L2.FunD K x qual params body scope dvs kws f fd) (S : FnScope N ps scope) (len : ∀ vs H Q E, sp vs H Q E → vs.length = ps.length)
    (hrun : ∀ (cdv : Value) (A : Around) (outer : List Env) (s s1 : Shared) (H : Hp) (vs : List V) (Q : VK) (E : XK), Room k (A.deeper (envOfC qual scope s.heap.objs.size f cdv)) → Env0 P w K mg base A outer s H → sp vs H Q E → cdv = .ref (codeOfF K f) →
      Inv (cxOf CX P w K mg base N qual scope f cdv A outer s H E) [] (start N vs) H s1 →
      wpAny (model P w) (A.deeper (envOfC qual scope s.heap.objs.size f cdv)) (execs body (envOfC qual scope s.heap.objs.size f cdv)) (fun fl s' => ∃ u, fl = .ret u ∧ CE outer P w H s Q u s') (cxOf CX P w K mg base N qual scope f cdv A outer s H E).xe s1) : FnOk P w K mg base CX (k + 1) f fd ps sp := by
  obtain ⟨oc, od, dV, kV, doc, pm, an, cdv, ct, osl, rfl, lk, hcd, _, _⟩ := F.ex
  refine ⟨len, fun A outer s H args us vs Q E hr e0 hb r hsp => ?_⟩
  have hl := len _ _ _ _ hsp
  have KX : K.In s.heap := e0.mod.kin.keeps fun b o e => (e0.bs b o e).1
  have lim : s.heap.NoLimit := e0.mod.nolimit.keeps fun b o e => (e0.bs b o e).1
  have hkind : ∀ y ∈ ps.zip us, scope.names.lookup y.1 = some .local ∨ (scope.names.lookup y.1 = some .cell ∧ ((cellsFrom (s.heap.objs.size + 1) scope.names []).lookup y.1).isSome = true) := fun ⟨n, v⟩ hy => by
    rcases S.par n (List.of_mem_zip hy).1 with q | q
    · exact .inl q
    · exact .inr ⟨q, PySem.W.cellsFrom_some _ _ _ (.inl q)⟩
  refine codeAny_call_function hr.depth (KX _ _ lk) rfl S.co S.gen rfl (PySem.W.codeRec_of KX hcd) (hb _ _ _ _ ?_)
  refine wpAny_newFunctionEnv_cells S.kind hkind fun env he s1 x => ?_
  subst he
  refine ⟨lim.keeps x.toInCall.keep, codeAny_func ?_⟩
  have I : Inv (cxOf CX P w K mg base N qual scope f cdv A outer s H E) [] (start N vs) H s1 := inv_start S hr.hd e0 hl r x
  have hcv : cdv = .ref (codeOfF K f) := by
    unfold codeOfF
    rw [lk]
    cases cdv with
    | ref c => rfl
    | _ => cases hcd
  refine wpAny_mono (hrun cdv A outer s s1 H vs Q E (hr.deeper _) e0 hsp hcv I) (fun fl s' hs => ?_) fun e s' hs => hs
  obtain ⟨u, rfl, q⟩ := hs
  exact q
/-- the end of a def that gave its cells away -/
theorem cells_end {a b fr : Str} {cdv : Value} {A : Around} {outer : List Env} {s s' : Shared} {H H' : Hp} {E : XK} {Q : VK} {va vb v : V} {u : Value} (J : Inv (cxOf (L2.CX P w) P w K mg base [a, b, fr] qual scope f cdv A outer s H E) [] [some va, some vb, some v] H' s')
    (e0 : Env0 P w K mg base A outer s H) (ka : scope.names.lookup a = some .cell) (kb : scope.names.lookup b = some .cell) (hab : a ≠ b) (rv : RelV v u)
    (q : ∀ c d, (cellsFrom (s.heap.objs.size + 1) scope.names []).lookup a = some c → (cellsFrom (s.heap.objs.size + 1) scope.names []).lookup b = some d → c ≠ d → H' c = none → H' d = none → H c = none → H d = none → Q v (upd (upd H' c (CellO c va)) d (CellO d vb))) : CE outer P w H s Q u s' := by
  obtain ⟨m, hn, hl⟩ := id J.loc
  obtain ⟨ua, ra, la⟩ := hl 0 a va rfl rfl (.inr (.inl ka))
  obtain ⟨ub, rb, lb⟩ := hl 1 b vb rfl rfl (.inr (.inl kb))
  have cell : ∀ {y : Str} {uy : Value}, scope.names.lookup y = some .cell → Look (cxOf (L2.CX P w) P w K mg base [a, b, fr] qual scope f cdv A outer s H E).env s'.heap m y uy → ∃ c, (cellsFrom (s.heap.objs.size + 1) scope.names []).lookup y = some c ∧ s'.heap.IsCell c (some uy) := fun {y uy} k l => by
    rcases l with ⟨hk, _⟩ | ⟨_, c, hc, z⟩
    · have hk : scope.names.lookup y = some .local := hk
      rw [k] at hk; cases hk
    · exact ⟨c, hc, z⟩
  obtain ⟨c, hc, xc⟩ := cell ka la
  obtain ⟨d, hd, xd⟩ := cell kb lb
  have sc : s.heap.objs.size ≤ c := J.ok.cab a c rfl hc
  have sd : s.heap.objs.size ≤ d := J.ok.cab b d rfl hd
  have nc : H' c = none := J.freeC a c hc
  have nd : H' d = none := J.freeC b d hd
  have hcd : c ≠ d := fun z => hab (J.ok.inj a b c hc (z ▸ hd))
  have U : Un (frs outer) [] H H' s.heap s'.heap := J.base
  have nh : ∀ {y o}, s.heap.get? y = some o → y ≠ c ∧ y ≠ d := fun {y o} e => ⟨fun z => by subst z; exact absurd (Heap.lt_size e) (Nat.not_lt.mpr sc), fun z => by subst z; exact absurd (Heap.lt_size e) (Nat.not_lt.mpr sd)⟩
  have nH : ∀ {y o}, H y = some o → y ≠ c ∧ y ≠ d := fun {y o} e => ⟨fun z => by subst z; exact absurd (e0.hok.lt e) (Nat.not_lt.mpr sc), fun z => by subst z; exact absurd (e0.hok.lt e) (Nat.not_lt.mpr sd)⟩
  have two : ∀ y, y ≠ c → y ≠ d → upd (upd H' c (CellO c va)) d (CellO d vb) y = H' y := fun y h1 h2 => by rw [upd_ne h2, upd_ne h1]
  refine ⟨v, _, J.os, J.bare, ⟨U.keep, U.slot, fun y o e n hx => ?_, U.there, fun y xs e => ?_, fun y o u' e => ?_, fun y ps e => ?_⟩, fun y o e => ?_, rv, q c d hc hd hcd nc nd (e0.hok.fresh sc) (e0.hok.fresh sd)⟩
  · rw [two y (nh e).1 (nh e).2]; exact U.free y o e n hx
  · rw [two y (nH e).1 (nH e).2]; exact U.tups y xs e
  · rw [two y (nH e).1 (nH e).2]; exact U.frzs y o u' e
  · rw [two y (nH e).1 (nH e).2]; exact U.tbls y ps e
  · by_cases h2 : y = d
    · subst h2
      rw [upd_same] at e
      cases e
      exact cellO_ok rb xd
    · rw [upd_ne h2] at e
      by_cases h1 : y = c
      · subst h1
        rw [upd_same] at e
        cases e
        exact cellO_ok ra xc
      · rw [upd_ne h1] at e
        refine (J.hok y o e).stay (fun _ _ _ r => r) (fun z hz => ?_) fun z xs hz => ?_
        · rw [two z (fun w => by subst w; rw [nc] at hz; cases hz) fun w => by subst w; rw [nd] at hz; cases hz]; exact hz
        · rw [two z (fun w => by subst w; rw [nc] at hz; cases hz) fun w => by subst w; rw [nd] at hz; cases hz]; exact hz
theorem clo_keys {cells : List (Str × Addr)} {y : Str} {c : Addr} : ∀ {names : List (Str × NameKind)} {acc : List (Str × Addr)}, (cloFrom cells names acc).lookup y = some c → (y, NameKind.free) ∈ names ∨ ∃ e, acc.lookup y = some e
  | [], acc, h => .inr ⟨c, h⟩
  | (n, k) :: r, acc, h => by
    unfold cloFrom at h
    split at h
    · rename_i hk
      rcases clo_keys h with q | ⟨e, q⟩
      · exact .inl (List.mem_cons_of_mem _ q)
      · rw [List.lookup_cons] at q
        split at q
        · rename_i hy
          have e1 : y = n := beq_iff_eq.mp hy
          have e2 : k = NameKind.free := beq_iff_eq.mp hk
          subst e1; subst e2
          exact .inl List.mem_cons_self
        · exact .inr ⟨e, q⟩
    · rcases clo_keys h with q | q
      · exact .inl (List.mem_cons_of_mem _ q)
      · exact .inr q
/-- F is the closure of st over the cells c, d of a, b -/
structure IsClo (st : Stmt) (fr qn a b : Str) (F : NF) (c d : Addr) : Prop where
  eq : F = NF.of st fr qn F.cl F.c
  la : F.cl.lookup a = some c
  lb : F.cl.lookup b = some d
  keys : ∀ y e, F.cl.lookup y = some e → y = a ∨ y = b
/-- what the making def says -/
def spMake (T : List NTab) (st : Stmt) (fr qn a b : Str) : Sp := fun vs H Q _ => ∃ z, vs = [.str z] ∧ TabsN T H ∧ ∀ (g c d : Addr) (F : NF) (H1 : Hp), ExtN H H1 → (∀ y, H1 y = none → H y = none) → TabsN T H1 → H g = none → H1 g = some (FnO g F) → H1 F.c = some (CodeO F.c F.qual) →
  IsClo st fr qn a b F c d → c ≠ d → H1 c = none → H1 d = none → H c = none → H d = none → Q (.ref g) (upd (upd H1 c (CellO c (.str z))) d (CellO d (.int 0)))
theorem counter_ok {k : Nat} {a b fr qn : Str} {ji : Nat} {q2 q3 q4 q5 q6 pos : Pos} {st : Stmt} {T : List NTab} {nm : Nat → Nat → Str} {Pt : Addr} (F : L2.FunD K x qual params body scope dvs kws f fd) (S : FnScope [a, b, fr] [a] scope)
    (hbody : body = [.Assign [.Name b q2] (.Constant (.int 0) ji q3) q4, st, .Return (some (.Name fr q5)) q6]) (hst : st = .FunctionDef fr (C8.fnArgs st) (C8.fnBody st) [] none [] (C8.fnScope st) none fr pos)
    (ka : scope.names.lookup a = some .cell) (kb : scope.names.lookup b = some .cell) (kf : scope.names.lookup fr = some .local) (hab : a ≠ b) (hfd : (fr == ("__debug__" : Str)) = false) (hfc : (fr == ("__classdict__" : Str)) = false)
    (hqn : ∀ (L : Addr) (cdv : Value), (envOfC qual scope L f cdv).qual ++ fr = qn)
    (TB : TabB base mg (codeOfF K f) Pt) (hm : (Pt, nm) ∈ T) (hn : nm pos.line pos.col = qn) (hu : ∀ p ∈ T, p.1 = Pt → p.2 = nm)
    (hfa : (a, NameKind.free) ∈ (C8.fnScope st).names) (hfb : (b, NameKind.free) ∈ (C8.fnScope st).names) (hfo : ∀ y ∈ (C8.fnScope st).names, y.2 = .free → y.1 = a ∨ y.1 = b)
    (hd0 : (C8.fnArgs st).defaults = []) (hk0 : (C8.fnArgs st).kw_defaults = []) (ha : ∀ env, annTrees (C8.fnArgs st) none env = [])
    (hsw : ∀ env, swapsWith (.Constant (.int 0) ji q3) (some (.Name b q2)) q4.line env = pure false) :
    FnOk P w K mg base (L2.CX P w) (k + 1) f fd [a] (spMake T st fr qn a b) := by
  refine funD_okX F S (fun vs H Q E h => by obtain ⟨z, rfl, _⟩ := h; rfl) (fun cdv A outer s s1 H vs Q E hr e0 hsp hcv I => ?_)
  obtain ⟨z, rfl, hT, q⟩ := hsp
  subst hcv
  generalize hX : cxOf (L2.CX P w) P w K mg base [a, b, fr] qual scope f (.ref (codeOfF K f)) A outer s H E = X at I
  have nd := S.nd
  have p2 : PS X (.Assign [.Name b q2] (.Constant (.int 0) ji q3) q4) (tAsg (tC (.int 0)) (gName 1)) := by
    subst hX
    exact ps_set (i := 1) nd rfl (.inr kb) pe_int (hsw _)
  have p3 : PS X st (tNdefM T 2 (NF.of st fr qn (cloFrom X.env.cells (C8.fnScope st).names []))) := by
    subst hX
    have hq : (cxOf (L2.CX P w) P w K mg base [a, b, fr] qual scope f (.ref (codeOfF K f)) A outer s H E).env.qual ++ fr = qn := hqn _ _
    rw [← hq] at hn ⊢
    exact ps_ndefMS hst TB rfl hm hn hu (fun y hy e => .inl (by
      rcases hfo y hy e with h | h
      · rw [h]; exact ka
      · rw [h]; exact kb)) hd0 hk0 (ha _) nd rfl (.inl kf) (.inr kf)
  rw [hbody]
  have tail : ∀ (σ' : L2.St) (H' : Hp) (s' : Shared), Inv X [] σ' H' s' → (∃ (g c' : Addr) (F : NF), F = NF.of st fr qn (cloFrom X.env.cells (C8.fnScope st).names []) c' ∧ σ' = [some (.str z), some (.int 0), some (.ref g)] ∧ ExtN H H' ∧ (∀ y, H' y = none → H y = none) ∧ TabsN T H' ∧ H g = none ∧ H' g = some (FnO g F) ∧ H' F.c = some (CodeO F.c F.qual)) →
      wpAny (model X.prog X.w) X.A (execs [.Return (some (.Name fr q5)) q6] X.env) (fun fl s' => ∃ u, fl = .ret u ∧ CE outer P w H s Q u s') X.xe s' := by
    rintro σ' H' s' I' ⟨g, c', F, hF, rfl, x1, x2, x3, x4, x5, x6⟩
    refine wpAny_execs_cons (wpAny_Return_some (thn ((pe_var (i := 2) (X := X) (pos := q5) (by subst hX; rfl) (.inl (by subst hX; exact kf)) hfd hfc).run [] s' _ H' (fun v H1 => v = .ref g ∧ H1 = H') I' ⟨_, rfl, rfl, rfl⟩) fun u s2 ⟨v, H2, I2, rv, e⟩ => ?_))
    obtain ⟨rfl, rfl⟩ := e
    refine ⟨u, rfl, ?_⟩
    subst hX
    refine cells_end I2 e0 ka kb hab rv fun c d hc hd hcd n1 n2 n3 n4 => ?_
    have hfr : ∀ y ∈ (C8.fnScope st).names, y.2 = .free → ∃ c, (cellsFrom (s.heap.objs.size + 1) scope.names []).lookup y.1 = some c := fun y hy e => by
      rcases hfo y hy e with h | h
      · rw [h]; exact ⟨c, hc⟩
      · rw [h]; exact ⟨d, hd⟩
    refine q g c d F H2 x1 x2 x3 x4 x5 x6 ⟨by rw [hF]; rfl, ?_, ?_, fun y e h => ?_⟩ hcd n1 n2 n3 n4
    · rw [hF]; exact clo_has hfr hfa hc
    · rw [hF]; exact clo_has hfr hfb hd
    · rw [hF] at h
      rcases clo_keys h with h | ⟨_, h⟩
      · exact hfo _ h rfl
      · cases h
  have go : ∀ {x : Stmt} {t : TS} {rest : List Stmt}, PS X x t → ∀ {σ' : L2.St} {H' : Hp} {s' : Shared} (R : L2.St → Hp → Prop), Inv X [] σ' H' s' → t { nx := R, rt := fun _ _ => False } σ' H' → (∀ σ2 H2 s2, Inv X [] σ2 H2 s2 → R σ2 H2 → wpAny (model X.prog X.w) X.A (execs rest X.env) (fun fl s' => ∃ u, fl = .ret u ∧ CE outer P w H s Q u s') X.xe s2) →
      wpAny (model X.prog X.w) X.A (execs (x :: rest) X.env) (fun fl s' => ∃ u, fl = .ret u ∧ CE outer P w H s Q u s') X.xe s' := by
    intro x t rest h σ' H' s' R I' ht k
    refine wpAny_execs_cons (thn (h.run [] s' σ' H' _ I' ht) fun f s1 q => ?_)
    cases f with
    | next =>
      obtain ⟨σ2, H2, I2, r⟩ := q
      exact k σ2 H2 s1 I2 r
    | ret v =>
      obtain ⟨_, _, _, _, _, r⟩ := q
      exact r.elim
    | brk =>
      obtain ⟨_, _, _, r⟩ := q
      exact r.elim
    | cont =>
      obtain ⟨_, _, _, r⟩ := q
      exact r.elim
  have fin : wpAny (model X.prog X.w) X.A (execs [.Assign [.Name b q2] (.Constant (.int 0) ji q3) q4, st, .Return (some (.Name fr q5)) q6] X.env) (fun fl s' => ∃ u, fl = .ret u ∧ CE outer P w H s Q u s') X.xe s1 := by
    refine go p2 (fun σ' H' => σ' = [some (.str z), some (.int 0), none] ∧ H' = H) I ⟨rfl, rfl⟩ fun σ3 H3 s3 I3 e => ?_
    obtain ⟨rfl, rfl⟩ := e
    refine go p3 _ I3 ⟨hT, fun g c' H1 x1 x2 x3 x4 x5 x6 => ?_⟩ tail
    exact ⟨g, c', _, rfl, rfl, x1, x2, x3, x4, x5, x6⟩
  subst hX
  exact fin
end
/-! ### calling it -/
/-- x(), x a name that holds such a closure -/
def tCallV (st : Stmt) (fr qn a b : Str) (i : Nat) : TE := fun σ H Q => ∃ (g : Addr) (F : NF) (c d : Addr), σ[i]? = some (some (.ref g)) ∧ H g = some (FnO g F) ∧ H F.c = some (CodeO F.c F.qual) ∧ IsClo st fr qn a b F c d ∧ spFresh F g a b [] H Q E0
section
variable {X : Cx} {st : Stmt} {fr qn a b x : Str} {i k j : Nat} {p pos : Pos}
theorem pe_callV0 (hab : a ≠ b) (hbd : (b == ("__classdict__" : Str)) = false) (S : NScope [a, b] [] [a, b] (C8.fnScope st)) (hb : ∀ (cl : List (Str × Addr)) (c : Addr) (doc pm ctv : Value), bindArgs ((NF.of st fr qn cl c).fd doc pm ctv) ⟨[], []⟩ = pure [])
    {nn : List Str} {e : Expr} {jj : Nat} {p0 p1 p2 p3 p4 : Pos} (hbody : C8.fnBody st = [.Nonlocal nn p0, .AugAssign (.Name b p1) .Add (.Constant (.int 1) jj p2) p3, .Return (some e) p4])
    (he : ∀ (cl : List (Str × Addr)) (c g : Addr) (A : Around) (outer : List Env) (s : Shared) (H : Hp), Room k (A.deeper (envF (NF.of st fr qn cl c) g s.heap.objs.size)) → PE (ncx (L2.CX X.prog X.w) X.prog X.w X.K X.mg X.base [a, b] (NF.of st fr qn cl c) g A outer s H E0) e (tOp (rAddA X.K) (tVar 0) (tCB rStrI (tCons (tVar 1) tNil))))
    (hr : Room j X.A) (hk : k + 1 ≤ j) (hN : X.N[i]? = some x) (hv : Vis X.env.scope x) (hd : (x == ("__debug__" : Str)) = false := by decide) (hcd : (x == ("__classdict__" : Str)) = false := by decide) :
    PE X (.Call (.Name x p) [] [] pos) (tCallV st fr qn a b i) := by
  refine ⟨fun pins s σ H Q I h => ?_⟩
  obtain ⟨g, F, c, d, hs, hf, hco, hF, q⟩ := h
  refine wpAny_Call_Name_kw (thn ((pe_var (pos := p) hN hv hd hcd).run pins s σ H (fun v H1 => v = .ref g ∧ H1 = H) I ⟨.ref g, hs, rfl, rfl⟩) fun u s1 ⟨v, H1, I1, r1, q1⟩ => ?_)
  obtain ⟨ev, eH⟩ := q1
  subst ev
  rw [eH] at I1
  obtain rfl : u = Value.ref g := r1
  refine PySem.W.callWith_F0 (first := []) (fnAt_of I1 hf) ?_
  show wpAny _ _ (call (.ref g) []) _ _ _
  have e1 := hF.eq
  refine wpAny_call (codeAny_mono (freshC (F := F) (f := g) (k := k) (E := E0) hab hbd (by rw [e1]; exact S) (fun doc pm ctv => by rw [e1]; exact hb _ _ doc pm ctv) hF.keys (by rw [e1]; exact hbody) (fun A outer s H h => by rw [e1] at h ⊢; exact he _ _ _ A outer s H h) X.A X.stack s1 H Q (hr.mono hk) I1.env0 hf hco q) fun r s' hq => ?_)
  cases r with
  | error e => exact (CX_E0 hq).elim
  | ok fl =>
    cases fl with
    | ret u => exact I1.after hq
    | next => exact False.elim hq
    | brk => exact False.elim hq
    | cont => exact False.elim hq
end
end L2.MP

set_option Elab.async false
set_option linter.all false
set_option maxRecDepth 100000
set_option maxHeartbeats 4000000
/-! The head's Hook, with tables of code objects that are still empty. -/
namespace L2.MP
open PySem PySem.Spec PyProof.Rows L2
/-- the table of a code object -/
def tabOfC (K : PySem.W.Frag) (c : Addr) : Addr := match K.lookup c with
  | some ⟨_, _, .fields vs, _⟩ => (match (vs[11]? : Option Value) with
    | some (.ref P) => P
    | _ => 0)
  | _ => 0
def ctB (g : Addr → Option Obj) (tf : List (PySem.W.Frag → Addr)) (K : PySem.W.Frag) : Bool := tf.all fun f => PySem.W.codeHdIn K (codeOfF K (f K)) (tabOfC K (codeOfF K (f K))) && (match g (tabOfC K (codeOfF K (f K))) with
  | some o => He.emptyTab o
  | none => false)
/-- what is told of such a def -/
structure TabF (K : PySem.W.Frag) (h : Heap) (f : Addr) : Prop where
  hd : PySem.W.codeHdIn K (codeOfF K f) (tabOfC K (codeOfF K f)) = true
  out : K.lookup (tabOfC K (codeOfF K f)) = none
  empty : h.get? (tabOfC K (codeOfF K f)) = some { cls := .none, data := .fields #[] }
theorem tabF_of {g : Addr → Option Obj} {as : List Addr} {h : Heap} {tf : List (PySem.W.Frag → Addr)} (hg : g = h.get?) (e : ctB g tf (He.frT g as) = true) : ∀ f ∈ tf, TabF (He.frT g as) h (f (He.frT g as)) := by
  intro f hf
  obtain ⟨h1, h2⟩ := He.ba (List.all_eq_true.mp e f hf)
  cases q : g (tabOfC (He.frT g as) (codeOfF (He.frT g as) (f (He.frT g as)))) with
  | none => rw [q] at h2; cases h2
  | some o =>
    rw [q] at h2
    refine ⟨h1, He.frT_none q h2, ?_⟩
    rw [← hg, q, He.emptyTab_eq h2]
def hookMT (n : Nat) (fn : List DefM) (ex : PySem.W.Frag → Bool) (ts : List He.Tab) (tf : List (PySem.W.Frag → Addr)) : PySem.W.Hook where
  α := AlM × Bool
  obs := fun s => (obsM fn ex ts (He.frT s.heap.get? (He.asD s.heap.get? n)), ctB s.heap.get? tf (He.frT s.heap.get? (He.asD s.heap.get? n)))
  val := fun w => (valM fn ts w, true)
  says := fun w h => ∃ K : PySem.W.Frag, K.In h ∧ SaysM fn ex ts w K ∧ ∀ f ∈ tf, TabF K h (f K)
  of := fun _ _ e => ⟨_, He.frT_in, ⟨congrArg (fun z : AlM × Bool => z.1) e⟩, tabF_of rfl (congrArg (fun z : AlM × Bool => z.2) e)⟩
  keeps := fun _ _ _ ⟨K, hK, c, t⟩ k => ⟨K, PySem.W.Frag.In.keeps hK k, c, fun f hf => ⟨(t f hf).hd, (t f hf).out, k _ _ (t f hf).empty⟩⟩
def obsMTG (n : Nat) (fn : List DefM) (ex : PySem.W.Frag → Bool) (ts : List He.Tab) (tf : List (PySem.W.Frag → Addr)) (s : PySem.W.SharedT) : AlM × Bool := (obsM fn ex ts (He.frT (HandSHeadRun.getT s) (He.asD (HandSHeadRun.getT s) n)), ctB (HandSHeadRun.getT s) tf (He.frT (HandSHeadRun.getT s) (He.asD (HandSHeadRun.getT s) n)))
theorem obsMTG_eq (n : Nat) (fn : List DefM) (ex : PySem.W.Frag → Bool) (ts : List He.Tab) (tf : List (PySem.W.Frag → Addr)) (s : PySem.W.SharedT) : obsMTG n fn ex ts tf s = (hookMT n fn ex ts tf).obs s.abs := by
  have e : HandSHeadRun.getT s = s.abs.heap.get? := funext (HandSHeadRun.getT_eq s)
  show (obsM fn ex ts (He.frT (HandSHeadRun.getT s) (He.asD (HandSHeadRun.getT s) n)), ctB (HandSHeadRun.getT s) tf (He.frT (HandSHeadRun.getT s) (He.asD (HandSHeadRun.getT s) n))) = (obsM fn ex ts (He.frT s.abs.heap.get? (He.asD s.abs.heap.get? n)), ctB s.abs.heap.get? tf (He.frT s.abs.heap.get? (He.asD s.abs.heap.get? n)))
  rw [e]
end L2.MP

set_option Elab.async false
set_option linter.all false
set_option maxRecDepth 100000
set_option maxHeartbeats 4000000
namespace L2.MP
open PySem PySem.Spec PyProof.Rows L2 NdefX LamX
/-! ### the text -/
abbrev prog : Program := PySem.Challenge.pw_stickymarks_k28_namer
def top (i : Nat) : Stmt := prog.main.body.getD i (.Pass ⟨0, 0, 0, 0⟩)
inductive Fn where
  | namer | law_cell | law_draws | law_names | law
abbrev Gm := Fn → Sp
abbrev st_namer : Stmt := top 1
abbrev N_namer : List Str := [("stem" : Str), ("count" : Str), ("fresh" : Str)]
abbrev st_fresh : Stmt := (defBody st_namer).getD 1 (.Pass ⟨0, 0, 0, 0⟩)
abbrev fresh_ret : Expr := match (C8.fnBody st_fresh).getD 2 (.Pass ⟨0, 0, 0, 0⟩) with
  | .Return (some e) _ => e
  | _ => .Constant .none 0 ⟨0, 0, 0, 0⟩
abbrev qn_fresh : Str := ("namer.<locals>.fresh" : Str)
def TT (K : PySem.W.Frag) : List NTab := [(tabOfC K (codeOfF K (He.ga K ("namer" : Str))), fun _ _ => qn_fresh)]
abbrev TBN (K : PySem.W.Frag) (mg : Str → Option Value) (base : Heap) : Prop := TabB base mg (codeOfF K (He.ga K ("namer" : Str))) (tabOfC K (codeOfF K (He.ga K ("namer" : Str))))
abbrev st_law_cell : Stmt := top 3
abbrev N_law_cell : List Str := [("_law_script" : Str), ("_law_k" : Str)]
abbrev st_law_draws : Stmt := top 4
abbrev N_law_draws : List Str := [("_law_cell_here" : Str), ("_law_many" : Str), ("_law_salt" : Str), ("_law_size" : Str), ("_law_rest" : Str), ("_law_draws_here" : Str), ("_law_k" : Str), ("_law_mixed" : Str)]
abbrev st_law_names : Stmt := top 5
abbrev N_law_names : List Str := [("_law_draws_here" : Str), ("_law_letters" : Str), ("_law_names_here" : Str), ("_law_k" : Str), ("_law_name" : Str)]
abbrev st_law : Stmt := top 6
abbrev N_law : List Str := [("_law_script" : Str), ("_law_names_here" : Str), ("_law_stems" : Str), ("_law_first" : Str), ("_law_second" : Str), ("_law_counts" : Str), ("_law_draws_here" : Str), ("_law_k" : Str), ("_law_turn" : Str), ("_law_told" : Str)]
def ps : Fn → List Str
  | .namer => [("stem" : Str)]
  | .law_cell => [("_law_script" : Str), ("_law_k" : Str)]
  | .law_draws => [("_law_cell_here" : Str), ("_law_many" : Str), ("_law_salt" : Str)]
  | .law_names => [("_law_draws_here" : Str)]
  | .law => [("_law_script" : Str)]
def dm : Fn → DefM
  | .namer => ⟨fun K => He.ga K ("namer" : Str), ("namer" : Str), ("namer" : Str), st_namer, [], [], []⟩
  | .law_cell => ⟨fun K => He.ga K ("_law_cell" : Str), ("_law_cell" : Str), ("_law_cell" : Str), st_law_cell, [], [], []⟩
  | .law_draws => ⟨fun K => He.ga K ("_law_draws" : Str), ("_law_draws" : Str), ("_law_draws" : Str), st_law_draws, [], [], []⟩
  | .law_names => ⟨fun K => He.ga K ("_law_names" : Str), ("_law_names" : Str), ("_law_names" : Str), st_law_names, [], [], []⟩
  | .law => ⟨fun K => He.ga K ("law" : Str), ("law" : Str), ("law" : Str), st_law, [], [], []⟩
/-! ### the readings -/
section
variable (K : PySem.W.Frag) (W : World) (G : Gm) (E : XK)
def rd_law_cell : TS := (tSeq (tIfS (tTest (tOp rLtI (tVar 1) (tCB (rLenA K) (tCons (tVar 0) tNil)))) (tRet (tOp (rIx K) (tVar 0) (tVar 1))) tNext) (tRet (tC (.int 0))))
def rd_law_draws : TS := (tSeq (tAsg (tCB rAbsI (tCons (tVar 0) tNil)) (gName 3)) (tSeq (tAsg (tVar 3) (gName 4)) (tSeq (tAsg (tLst tNil) (gName 5)) (tSeq (tFor (iRng1 (tCons (tVar 1) tNil)) (gName 6) (tIfS (tAnd (tTest (tOp rGeI (tVar 3) (tOp rPowI (tC (.int 10)) (tC (.int 18))))) (tTest (tOp rGeI (tVar 4) (tC (.int 60))))) (tSeq (tDrop (tBM K "list" rAppend (tVar 5) (tCons (tOp rModI (tVar 4) (tC (.int 60))) tNil))) (tAsg (tOp rFdivI (tVar 4) (tC (.int 60))) (gName 4))) (tSeq (tAsg (tOp rModI (tOp (rAddA K) (tOp (rAddA K) (tOp (rAddA K) (tOp rMulA (tOp rModI (tVar 3) (tC (.int 1000003))) (tC (.int 48271))) (tOp rMulA (tVar 6) (tC (.int 69621)))) (tOp rMulA (tVar 2) (tC (.int 7919)))) (tC (.int 12345))) (tC (.int 2147483647))) (gName 7)) (tSeq (tAsg (tOp rModI (tOp (rAddA K) (tOp (rAddA K) (tOp rMulA (tVar 7) (tC (.int 16807))) (tOp rMulA (tVar 6) (tC (.int 40692)))) (tVar 2)) (tC (.int 2147483399))) (gName 7)) (tDrop (tBM K "list" rAppend (tVar 5) (tCons (tOp rModI (tOp rFdivI (tVar 7) (tC (.int 1009))) (tC (.int 60))) tNil))))))) (tRet (tVar 5))))))
def rd_law_names : TS := (tSeq (tAsg (tC (.str ("abcdefghijklmnopqrstuvwxyz" : Str))) (gName 1)) (tSeq (tAsg (tLst tNil) (gName 2)) (tSeq (tFor (iRng1 (tCons (tC (.int 4)) tNil)) (gName 3) (tSeq (tAsg (tOp (rIx K) (tVar 1) (tOp rModI (tOp (rAddA K) (tOp (rIx K) (tVar 0) (tC (.int 3))) (tOp rMulA (tOp (rIx K) (tLst (tCons (tC (.int 1)) (tCons (tC (.int 3)) (tCons (tC (.int 5)) (tCons (tC (.int 7)) tNil))))) (tOp rModI (tOp (rIx K) (tVar 0) (tC (.int 2))) (tC (.int 4)))) (tVar 3))) (tC (.int 26)))) (gName 4)) (tSeq (tAsg (tOp (rAddA K) (tOp (rAddA K) (tOp (rIx K) (tLst (tCons (tC (.str ("" : Str))) (tCons (tC (.str ("v" : Str))) (tCons (tC (.str ("x9" : Str))) (tCons (tC (.str ("name" : Str))) tNil))))) (tOp rModI (tOp (rIx K) (tVar 0) (tC (.int 0))) (tC (.int 4)))) (tVar 4)) (tOp (rIx K) (tLst (tCons (tC (.str ("" : Str))) (tCons (tC (.str ("0" : Str))) (tCons (tC (.str ("7z" : Str))) (tCons (tC (.str ("long" : Str))) tNil))))) (tOp rModI (tOp (rIx K) (tVar 0) (tC (.int 1))) (tC (.int 4))))) (gName 4)) (tDrop (tBM K "list" rAppend (tVar 2) (tCons (tOp (rAddA K) (tVar 4) (tOp rMulA (tC (.str ("1" : Str))) (tOp rMulA (tVar 3) (tOp rModI (tOp rFdivI (tOp (rIx K) (tVar 0) (tC (.int 2))) (tC (.int 4))) (tC (.int 2)))))) tNil)))))) (tRet (tVar 2)))))
def rd_law : TS := (tSeq (tAsg (tCallSD (G .law_names) [] (fun _ => E) (tCons (tCallSD (G .law_draws) [] (fun _ => E) (tCons (tCallSD (G .law_cell) [] (fun _ => E) (tCons (tVar 0) (tCons (tC (.int 0)) tNil))) (tCons (tC (.int 4)) (tCons (tC (.int 62)) tNil)))) tNil)) (gName 1)) (tSeq (tAsg (tLst (tCons (tOp (rIx K) (tVar 1) (tC (.int 0))) (tCons (tOp (rIx K) (tVar 1) (tOp rModI (tCallSD (G .law_cell) [] (fun _ => E) (tCons (tVar 0) (tCons (tC (.int 1)) tNil))) (tC (.int 2)))) tNil))) (gName 2)) (tSeq (tAsg (tCallSD (G .namer) [] (fun _ => E) (tCons (tOp (rIx K) (tVar 2) (tC (.int 0))) tNil)) (gName 3)) (tSeq (tAsg (tCallSD (G .namer) [] (fun _ => E) (tCons (tOp (rIx K) (tVar 2) (tC (.int 1))) tNil)) (gName 4)) (tSeq (tAsg (tLst (tCons (tC (.int 0)) (tCons (tC (.int 0)) tNil))) (gName 5)) (tSeq (tAsg (tCallSD (G .law_draws) [] (fun _ => E) (tCons (tCallSD (G .law_cell) [] (fun _ => E) (tCons (tVar 0) (tCons (tC (.int 2)) tNil))) (tCons (tC (.int 40)) (tCons (tC (.int 63)) tNil)))) (gName 6)) (tSeq (tFor (iRng1 (tCons (tOp rModI (tCallSD (G .law_cell) [] (fun _ => E) (tCons (tVar 0) (tCons (tC (.int 3)) tNil))) (tC (.int 41))) tNil)) (gName 7) (tSeq (tAsg (tOp rModI (tOp (rIx K) (tVar 6) (tVar 7)) (tC (.int 2))) (gName 8)) (tSeq (tAsg (tC (.str ("" : Str))) (gName 9)) (tSeq (tIfS (tTest (tOp (rEqA K) (tVar 8) (tC (.int 0)))) (tAsg (tCallV st_fresh ("fresh" : Str) qn_fresh ("stem" : Str) ("count" : Str) 3) (gName 9)) (tAsg (tCallV st_fresh ("fresh" : Str) qn_fresh ("stem" : Str) ("count" : Str) 4) (gName 9))) (tSeq (tAsg (tOp (rAddA K) (tOp (rIx K) (tVar 5) (tVar 8)) (tC (.int 1))) (gSub (tVar 5) (tVar 8) rSetL)) (tIfS (tOr (tNot (tB (tCB (rIsi K) (tCons (tVar 9) (tCons (tC (.ty "str")) tNil))))) (tTest (tOp (rNeA K) (tVar 9) (tOp (rAddA K) (tOp (rIx K) (tVar 2) (tVar 8)) (tCB rStrI (tCons (tOp (rIx K) (tVar 5) (tVar 8)) tNil)))))) (tRet (tC (.bl false))) tNext)))))) (tRet (tAndV (tOp (rEqA K) (tCallV st_fresh ("fresh" : Str) qn_fresh ("stem" : Str) ("count" : Str) 3) (tOp (rAddA K) (tOp (rIx K) (tVar 2) (tC (.int 0))) (tCB rStrI (tCons (tOp (rAddA K) (tOp (rIx K) (tVar 5) (tC (.int 0))) (tC (.int 1))) tNil)))) (tOp (rEqA K) (tCallV st_fresh ("fresh" : Str) qn_fresh ("stem" : Str) ("count" : Str) 4) (tOp (rAddA K) (tOp (rIx K) (tVar 2) (tC (.int 1))) (tCB rStrI (tCons (tOp (rAddA K) (tOp (rIx K) (tVar 5) (tC (.int 1))) (tC (.int 1))) tNil)))))))))))))
end
def Gam (K : PySem.W.Frag) (W : World) : Nat → Gm
  | 0 => fun _ _ _ _ _ => False
  | k + 1 => fun f => match f with
    | .namer => spMake (TT K) st_fresh ("fresh" : Str) qn_fresh ("stem" : Str) ("count" : Str)
    | .law_cell => fun vs H Q E => vs.length = 2 ∧ rd_law_cell K { nx := fun _ H' => Q .non H', rt := Q } (start N_law_cell vs) H
    | .law_draws => fun vs H Q E => vs.length = 3 ∧ rd_law_draws K { nx := fun _ H' => Q .non H', rt := Q } (start N_law_draws vs) H
    | .law_names => fun vs H Q E => vs.length = 1 ∧ rd_law_names K { nx := fun _ H' => Q .non H', rt := Q } (start N_law_names vs) H
    | .law => fun vs H Q E => vs.length = 1 ∧ rd_law K (Gam K W k) E { nx := fun _ H' => Q .non H', rt := Q } (start N_law vs) H
def lev (k : Nat) : Nat := 2 * k
abbrev AllOk (P : Program) (w : World) (K : PySem.W.Frag) (mg : Str → Option Value) (base : Heap) (k : Nat) : Prop := ∀ f, FnOk P w K mg base (L2.CX P w) (lev k) ((dm f).adr K) (fdAt K ((dm f).adr K)) (ps f) (Gam K w k f)
/-! ### the facts -/
class TxtK (K : PySem.W.Frag) : Prop where
  f_namer : FunM K (dm .namer)
  f_law_cell : FunM K (dm .law_cell)
  f_law_draws : FunM K (dm .law_draws)
  f_law_names : FunM K (dm .law_names)
  f_law : FunM K (dm .law)
  b_law_cell_2 : Binds K (fdAt K ((dm .law_cell).adr K)) (ps .law_cell) []
  b_law_draws_3 : Binds K (fdAt K ((dm .law_draws).adr K)) (ps .law_draws) []
  b_law_names_1 : Binds K (fdAt K ((dm .law_names).adr K)) (ps .law_names) []
  b_namer_1 : Binds K (fdAt K ((dm .namer).adr K)) (ps .namer) []
structure Txt (K : PySem.W.Frag) (w : World) (mg : Str → Option Value) : Prop where
  k : TxtK K
  g_law : mg ("law" : Str) = some (.ref (He.ga K ("law" : Str)))
  g_law_names : mg ("_law_names" : Str) = some (.ref (He.ga K ("_law_names" : Str)))
  g_law_draws : mg ("_law_draws" : Str) = some (.ref (He.ga K ("_law_draws" : Str)))
  g_law_cell : mg ("_law_cell" : Str) = some (.ref (He.ga K ("_law_cell" : Str)))
  g_namer : mg ("namer" : Str) = some (.ref (He.ga K ("namer" : Str)))
  z_range : mg ("range" : Str) = none
  z_str : mg ("str" : Str) = none
  z_isinstance : mg ("isinstance" : Str) = none
  z_len : mg ("len" : Str) = none
  z_abs : mg ("abs" : Str) = none
def exl : List (PySem.W.Frag → Bool) := [(fun K => He.Fa.ok K (.glo ("law" : Str))),
  (fun K => He.Fa.ok K (.glo ("_law_names" : Str))),
  (fun K => He.Fa.ok K (.glo ("_law_draws" : Str))),
  (fun K => He.Fa.ok K (.glo ("_law_cell" : Str))),
  (fun K => He.Fa.ok K (.glo ("namer" : Str))),
  (fun K => He.Fa.ok K (.free ("range" : Str))),
  (fun K => He.Fa.ok K (.free ("str" : Str))),
  (fun K => He.Fa.ok K (.free ("isinstance" : Str))),
  (fun K => He.Fa.ok K (.free ("len" : Str))),
  (fun K => He.Fa.ok K (.free ("abs" : Str)))]
def fnl : List DefM := [dm .namer, dm .law_cell, dm .law_draws, dm .law_names, dm .law]
def tbs : List He.Tab := []
abbrev exb (K : PySem.W.Frag) : Bool := exl.all fun f => f K
def loose0 : List PySem.Str := ["namer", "_law_cell", "_law_draws", "_law_names"]
abbrev looseN : List PySem.Str := loose0
abbrev RR : PySem.W.OpenRow := PySem.W.OpenLaw.row PySem.Challenge.rw_stickymarks_k28_namer
def tfl : List (PySem.W.Frag → Addr) := [fun K => He.ga K ("namer" : Str)]
abbrev hkM : PySem.W.Hook := hookMT 6 fnl exb tbs tfl
set_option maxHeartbeats 0 in
theorem run_top (w : World) : HandSHeadRun.RunEq RR (PySem.W.view RR.prog [6]) hkM (obsMTG 6 fnl exb tbs tfl) 20000 looseN w := by
  intro os
  kernel_rfl
def ixOf : Fn → Nat
  | .namer => 0
  | .law_cell => 1
  | .law_draws => 2
  | .law_names => 3
  | .law => 4
theorem fun_of {w : World} {K : PySem.W.Frag} (c : SaysM fnl exb tbs w K) (f : Fn) (hfr : (dm f).fr = []) : FunM K (dm f) := c.fun (ixOf f) hfr (by cases f <;> rfl)
theorem fun_ofC {w : World} {K : PySem.W.Frag} (c : SaysM fnl exb tbs w K) (f : Fn) (hfr : (dm f).fr = [("__class__" : Str)]) (hdf : (dm f).dfl = []) : FunMC K (dm f) := c.funC (ixOf f) hfr hdf (by cases f <;> rfl)
theorem txtK_of {w : World} {K : PySem.W.Frag} (c : SaysM fnl exb tbs w K) : TxtK K := by
  have F := fun_of c
  have FC := fun_ofC c
  have m := c.more
  exact {
    f_namer := F .namer rfl,
    f_law_cell := F .law_cell rfl,
    f_law_draws := F .law_draws rfl,
    f_law_names := F .law_names rfl,
    f_law := F .law rfl,
    b_law_cell_2 := FunD.bindsN (F .law_cell rfl) fun _ _ _ _ _ _ us hl => match us, hl with | [_, _], _ => rfl,
    b_law_draws_3 := FunD.bindsN (F .law_draws rfl) fun _ _ _ _ _ _ us hl => match us, hl with | [_, _, _], _ => rfl,
    b_law_names_1 := FunD.bindsN (F .law_names rfl) fun _ _ _ _ _ _ us hl => match us, hl with | [_], _ => rfl,
    b_namer_1 := FunD.bindsN (F .namer rfl) fun _ _ _ _ _ _ us hl => match us, hl with | [_], _ => rfl
  }
theorem txt_of {w : World} {K : PySem.W.Frag} {h : Heap} {mg : Str → Option Value} (X : K.In h) (Gn : h.Ns mainGlobals mg) (c : SaysM fnl exb tbs w K) : Txt K w mg := by
  have m := c.more
  exact {
    k := txtK_of c,
    g_law := He.glo_ok X Gn (fact_of m 0),
    g_law_names := He.glo_ok X Gn (fact_of m 1),
    g_law_draws := He.glo_ok X Gn (fact_of m 2),
    g_law_cell := He.glo_ok X Gn (fact_of m 3),
    g_namer := He.glo_ok X Gn (fact_of m 4),
    z_range := He.free_ok X Gn (fact_of m 5),
    z_str := He.free_ok X Gn (fact_of m 6),
    z_isinstance := He.free_ok X Gn (fact_of m 7),
    z_len := He.free_ok X Gn (fact_of m 8),
    z_abs := He.free_ok X Gn (fact_of m 9)
  }
/-! ### instances: attributes, isinstance -/
section
variable {K : PySem.W.Frag} [TxtK K]
end
/-! ### each def keeps its reading -/
section
variable {w : World} {K : PySem.W.Frag} {mg : Str → Option Value} {base : Heap} {k : Nat}
theorem fresh_e {k : Nat} (hz : mg ("str" : Str) = none) (cl : List (Str × Addr)) (c g : Addr) (A : Around) (outer : List Env) (s : Shared) (H : Hp) (h : Room k (A.deeper (envF (NF.of st_fresh ("fresh" : Str) qn_fresh cl c) g s.heap.objs.size))) :
    PE (ncx (L2.CX prog w) prog w K mg base [("stem" : Str), ("count" : Str)] (NF.of st_fresh ("fresh" : Str) qn_fresh cl c) g A outer s H E0) fresh_ret (tOp (rAddA K) (tVar 0) (tCB rStrI (tCons (tVar 1) tNil))) := by
  have h1 : PE (ncx (L2.CX prog w) prog w K mg base [("stem" : Str), ("count" : Str)] (NF.of st_fresh ("fresh" : Str) qn_fresh cl c) g A outer s H E0) (.Name ("count" : Str) (match fresh_ret with
    | .BinOp _ _ (.Call _ [.Name _ p] _ _) _ => p
    | _ => ⟨0, 0, 0, 0⟩)) (tVar 1) := pe_var (x := ("count" : Str)) rfl (.inr (.inr rfl))
  exact pe_op op_addA (pe_var (x := ("stem" : Str)) (i := 0) rfl (.inr (.inr rfl))) (pe_callTy (x := ("str" : Str)) call_strI rfl hz (by decide +kernel) (pa_cons h1 pa_nil))
theorem ok_namer (T : Txt K w mg) (TB : TBN K mg base) (G : AllOk prog w K mg base k) : FnOk prog w K mg base (L2.CX prog w) (lev (k + 1)) ((dm .namer).adr K) (fdAt K ((dm .namer).adr K)) (ps .namer) (Gam K w (k + 1) .namer) := by
  have S : FnScope N_namer (ps .namer) (defScope st_namer) := ⟨rfl, rfl, rfl, by decide +kernel, rfl, by decide +kernel, by decide +kernel⟩
  exact counter_ok (k := 2 * k + 1) (a := ("stem" : Str)) (b := ("count" : Str)) (fr := ("fresh" : Str)) (T := TT K) (nm := fun _ _ => qn_fresh) (st := st_fresh) T.k.f_namer S rfl rfl rfl rfl rfl (by decide +kernel) (by decide +kernel) (by decide +kernel) (fun _ _ => rfl) TB (.head _) rfl
    (fun p hp _ => by cases List.mem_singleton.mp hp; rfl) (by decide +kernel) (by decide +kernel) (by decide +kernel) rfl rfl (fun _ => rfl) (fun _ => rfl)
theorem fresh_S : NScope [("stem" : Str), ("count" : Str)] [] [("stem" : Str), ("count" : Str)] (C8.fnScope st_fresh) := nscope_by (by decide +kernel)
theorem ok_law_cell (T : Txt K w mg) (G : AllOk prog w K mg base k) : FnOk prog w K mg base (L2.CX prog w) (lev (k + 1)) ((dm .law_cell).adr K) (fdAt K ((dm .law_cell).adr K)) (ps .law_cell) (Gam K w (k + 1) .law_cell) := by
  have S : FnScope N_law_cell (ps .law_cell) (defScope st_law_cell) := ⟨rfl, rfl, rfl, by decide +kernel, rfl, by decide +kernel, by decide +kernel⟩
  have nd := S.nd
  refine FunD.ok (k := 2 * k + 1) T.k.f_law_cell S (fun vs H Q E h => h.1) (fun cdv A outer s H vs Q E hr h => ⟨rd_law_cell K, ?_, h.2⟩)
  have hr0 : Room (lev k) _ := hr.mono (Nat.le_succ _)
  have tk : Takes (cxOf (L2.CX prog w) prog w K mg base N_law_cell ("_law_cell" : Str) (defScope st_law_cell) ((dm .law_cell).adr K) cdv A outer s H E) (fun cls d _ H => E cls d H) := takes_of rfl rfl rfl rfl
  have hx : ∀ σ, PassesAt (L2.CX prog w) (cxOf (L2.CX prog w) prog w K mg base N_law_cell ("_law_cell" : Str) (defScope st_law_cell) ((dm .law_cell).adr K) cdv A outer s H E) σ E := fun σ => passAt tk σ
  have hpo : PassesOwn (model prog w) _ _ (cxOf (L2.CX prog w) prog w K mg base N_law_cell ("_law_cell" : Str) (defScope st_law_cell) ((dm .law_cell).adr K) cdv A outer s H E).xe := passes_of rfl
  exact (pss_cons (ps_if (pt_cmpR op_ltI (pv 1) (pe_callB call_lenA rfl T.z_len (by decide +kernel) (pa_cons (pv 0) pa_nil)) (nomark _)) (pss_one (ps_ret (pe_ix ix_seq (pv 0) (pv 1) (fun _ _ => rfl)))) pss_nil) (pss_one (ps_ret pe_int)))
theorem ok_law_draws (T : Txt K w mg) (G : AllOk prog w K mg base k) : FnOk prog w K mg base (L2.CX prog w) (lev (k + 1)) ((dm .law_draws).adr K) (fdAt K ((dm .law_draws).adr K)) (ps .law_draws) (Gam K w (k + 1) .law_draws) := by
  have S : FnScope N_law_draws (ps .law_draws) (defScope st_law_draws) := ⟨rfl, rfl, rfl, by decide +kernel, rfl, by decide +kernel, by decide +kernel⟩
  have nd := S.nd
  refine FunD.ok (k := 2 * k + 1) T.k.f_law_draws S (fun vs H Q E h => h.1) (fun cdv A outer s H vs Q E hr h => ⟨rd_law_draws K, ?_, h.2⟩)
  have hr0 : Room (lev k) _ := hr.mono (Nat.le_succ _)
  have tk : Takes (cxOf (L2.CX prog w) prog w K mg base N_law_draws ("_law_draws" : Str) (defScope st_law_draws) ((dm .law_draws).adr K) cdv A outer s H E) (fun cls d _ H => E cls d H) := takes_of rfl rfl rfl rfl
  have hx : ∀ σ, PassesAt (L2.CX prog w) (cxOf (L2.CX prog w) prog w K mg base N_law_draws ("_law_draws" : Str) (defScope st_law_draws) ((dm .law_draws).adr K) cdv A outer s H E) σ E := fun σ => passAt tk σ
  have hpo : PassesOwn (model prog w) _ _ (cxOf (L2.CX prog w) prog w K mg base N_law_draws ("_law_draws" : Str) (defScope st_law_draws) ((dm .law_draws).adr K) cdv A outer s H E).xe := passes_of rfl
  exact (pss_cons (ps_set (i := 3) nd rfl (by first | exact Or.inl rfl | exact Or.inr rfl) (pe_callB call_absI rfl T.z_abs (by decide +kernel) (pa_cons (pv 0) pa_nil))) (pss_cons (ps_set (i := 4) nd rfl (by first | exact Or.inl rfl | exact Or.inr rfl) (pv 3)) (pss_cons (ps_set (i := 5) nd rfl (by first | exact Or.inl rfl | exact Or.inr rfl) (pe_lst pa_nil)) (pss_cons (ps_for hpo rfl (pi_range1 (by rfl) T.z_range (pa_cons (pv 1) pa_nil)) (pg_name (i := 6) nd rfl (by first | exact Or.inl rfl | exact Or.inr rfl)) (pss_one (ps_if (PW.pt (pw_and (pt_cmpR op_geI (pv 3) (pe_op op_powI pe_int pe_int) (nomark _)) (pw_and1 (pt_cmpR op_geI (pv 4) pe_int (nomark _))))) (pss_cons (ps_expr (pe_bm PySem.F.plainAttrs_list PySem.F.slot_list_append PySem.F.type_list_append mt_append (pv 5) (pa_cons (pe_op op_modI (pv 4) pe_int) pa_nil))) (pss_one (ps_set (i := 4) nd rfl (by first | exact Or.inl rfl | exact Or.inr rfl) (pe_op op_fdivI (pv 4) pe_int)))) (pss_cons (ps_set (i := 7) nd rfl (by first | exact Or.inl rfl | exact Or.inr rfl) (pe_op op_modI (pe_op op_addA (pe_op op_addA (pe_op op_addA (pe_op op_mulA (pe_op op_modI (pv 3) pe_int) pe_int) (pe_op op_mulA (pv 6) pe_int)) (pe_op op_mulA (pv 2) pe_int)) pe_int) pe_int)) (pss_cons (ps_set (i := 7) nd rfl (by first | exact Or.inl rfl | exact Or.inr rfl) (pe_op op_modI (pe_op op_addA (pe_op op_addA (pe_op op_mulA (pv 7) pe_int) (pe_op op_mulA (pv 6) pe_int)) (pv 2)) pe_int)) (pss_one (ps_expr (pe_bm PySem.F.plainAttrs_list PySem.F.slot_list_append PySem.F.type_list_append mt_append (pv 5) (pa_cons (pe_op op_modI (pe_op op_fdivI (pv 7) pe_int) pe_int) pa_nil))))))))) (pss_one (ps_ret (pv 5)))))))
theorem ok_law_names (T : Txt K w mg) (G : AllOk prog w K mg base k) : FnOk prog w K mg base (L2.CX prog w) (lev (k + 1)) ((dm .law_names).adr K) (fdAt K ((dm .law_names).adr K)) (ps .law_names) (Gam K w (k + 1) .law_names) := by
  have S : FnScope N_law_names (ps .law_names) (defScope st_law_names) := ⟨rfl, rfl, rfl, by decide +kernel, rfl, by decide +kernel, by decide +kernel⟩
  have nd := S.nd
  refine FunD.ok (k := 2 * k + 1) T.k.f_law_names S (fun vs H Q E h => h.1) (fun cdv A outer s H vs Q E hr h => ⟨rd_law_names K, ?_, h.2⟩)
  have hr0 : Room (lev k) _ := hr.mono (Nat.le_succ _)
  have tk : Takes (cxOf (L2.CX prog w) prog w K mg base N_law_names ("_law_names" : Str) (defScope st_law_names) ((dm .law_names).adr K) cdv A outer s H E) (fun cls d _ H => E cls d H) := takes_of rfl rfl rfl rfl
  have hx : ∀ σ, PassesAt (L2.CX prog w) (cxOf (L2.CX prog w) prog w K mg base N_law_names ("_law_names" : Str) (defScope st_law_names) ((dm .law_names).adr K) cdv A outer s H E) σ E := fun σ => passAt tk σ
  have hpo : PassesOwn (model prog w) _ _ (cxOf (L2.CX prog w) prog w K mg base N_law_names ("_law_names" : Str) (defScope st_law_names) ((dm .law_names).adr K) cdv A outer s H E).xe := passes_of rfl
  exact (pss_cons (ps_set (i := 1) nd rfl (by first | exact Or.inl rfl | exact Or.inr rfl) pe_str) (pss_cons (ps_set (i := 2) nd rfl (by first | exact Or.inl rfl | exact Or.inr rfl) (pe_lst pa_nil)) (pss_cons (ps_for hpo rfl (pi_range1 (by rfl) T.z_range (pa_cons pe_int pa_nil)) (pg_name (i := 3) nd rfl (by first | exact Or.inl rfl | exact Or.inr rfl)) (pss_cons (ps_set (i := 4) nd rfl (by first | exact Or.inl rfl | exact Or.inr rfl) (pe_ix ix_seq (pv 1) (pe_op op_modI (pe_op op_addA (pe_ix ix_seq (pv 0) pe_int (fun _ _ => rfl)) (pe_op op_mulA (pe_ix ix_seq (pe_lst (pa_cons pe_int (pa_cons pe_int (pa_cons pe_int (pa_cons pe_int pa_nil))))) (pe_op op_modI (pe_ix ix_seq (pv 0) pe_int (fun _ _ => rfl)) pe_int) (fun _ _ => rfl)) (pv 3))) pe_int) (fun _ _ => rfl))) (pss_cons (ps_set (i := 4) nd rfl (by first | exact Or.inl rfl | exact Or.inr rfl) (pe_op op_addA (pe_op op_addA (pe_ix ix_seq (pe_lst (pa_cons pe_str (pa_cons pe_str (pa_cons pe_str (pa_cons pe_str pa_nil))))) (pe_op op_modI (pe_ix ix_seq (pv 0) pe_int (fun _ _ => rfl)) pe_int) (fun _ _ => rfl)) (pv 4)) (pe_ix ix_seq (pe_lst (pa_cons pe_str (pa_cons pe_str (pa_cons pe_str (pa_cons pe_str pa_nil))))) (pe_op op_modI (pe_ix ix_seq (pv 0) pe_int (fun _ _ => rfl)) pe_int) (fun _ _ => rfl)))) (pss_one (ps_expr (pe_bm PySem.F.plainAttrs_list PySem.F.slot_list_append PySem.F.type_list_append mt_append (pv 2) (pa_cons (pe_op op_addA (pv 4) (pe_op op_mulA pe_str (pe_op op_mulA (pv 3) (pe_op op_modI (pe_op op_fdivI (pe_ix ix_seq (pv 0) pe_int (fun _ _ => rfl)) pe_int) pe_int)))) pa_nil))))))) (pss_one (ps_ret (pv 2))))))
theorem ok_law (T : Txt K w mg) (G : AllOk prog w K mg base k) : FnOk prog w K mg base (L2.CX prog w) (lev (k + 1)) ((dm .law).adr K) (fdAt K ((dm .law).adr K)) (ps .law) (Gam K w (k + 1) .law) := by
  have S : FnScope N_law (ps .law) (defScope st_law) := ⟨rfl, rfl, rfl, by decide +kernel, rfl, by decide +kernel, by decide +kernel⟩
  have nd := S.nd
  refine FunD.ok (k := 2 * k + 1) T.k.f_law S (fun vs H Q E h => h.1) (fun cdv A outer s H vs Q E hr h => ⟨rd_law K (Gam K w k) E, ?_, h.2⟩)
  have hr0 : Room (lev k) _ := hr.mono (Nat.le_succ _)
  have tk : Takes (cxOf (L2.CX prog w) prog w K mg base N_law ("law" : Str) (defScope st_law) ((dm .law).adr K) cdv A outer s H E) (fun cls d _ H => E cls d H) := takes_of rfl rfl rfl rfl
  have hx : ∀ σ, PassesAt (L2.CX prog w) (cxOf (L2.CX prog w) prog w K mg base N_law ("law" : Str) (defScope st_law) ((dm .law).adr K) cdv A outer s H E) σ E := fun σ => passAt tk σ
  have hpo : PassesOwn (model prog w) _ _ (cxOf (L2.CX prog w) prog w K mg base N_law ("law" : Str) (defScope st_law) ((dm .law).adr K) cdv A outer s H E).xe := passes_of rfl
  exact (pss_cons (ps_set (i := 1) nd rfl (by first | exact Or.inl rfl | exact Or.inr rfl) (pe_callSD (G .law_names) hr0 rfl T.g_law_names (T.k.f_law_names).kp T.k.b_law_names_1 .nil hx (pa_cons (pe_callSD (G .law_draws) hr0 rfl T.g_law_draws (T.k.f_law_draws).kp T.k.b_law_draws_3 .nil hx (pa_cons (pe_callSD (G .law_cell) hr0 rfl T.g_law_cell (T.k.f_law_cell).kp T.k.b_law_cell_2 .nil hx (pa_cons (pv 0) (pa_cons pe_int pa_nil))) (pa_cons pe_int (pa_cons pe_int pa_nil)))) pa_nil))) (pss_cons (ps_set (i := 2) nd rfl (by first | exact Or.inl rfl | exact Or.inr rfl) (pe_lst (pa_cons (pe_ix ix_seq (pv 1) pe_int (fun _ _ => rfl)) (pa_cons (pe_ix ix_seq (pv 1) (pe_op op_modI (pe_callSD (G .law_cell) hr0 rfl T.g_law_cell (T.k.f_law_cell).kp T.k.b_law_cell_2 .nil hx (pa_cons (pv 0) (pa_cons pe_int pa_nil))) pe_int) (fun _ _ => rfl)) pa_nil)))) (pss_cons (ps_set (i := 3) nd rfl (by first | exact Or.inl rfl | exact Or.inr rfl) (pe_callSD (G .namer) hr0 rfl T.g_namer (T.k.f_namer).kp T.k.b_namer_1 .nil hx (pa_cons (pe_ix ix_seq (pv 2) pe_int (fun _ _ => rfl)) pa_nil))) (pss_cons (ps_set (i := 4) nd rfl (by first | exact Or.inl rfl | exact Or.inr rfl) (pe_callSD (G .namer) hr0 rfl T.g_namer (T.k.f_namer).kp T.k.b_namer_1 .nil hx (pa_cons (pe_ix ix_seq (pv 2) pe_int (fun _ _ => rfl)) pa_nil))) (pss_cons (ps_set (i := 5) nd rfl (by first | exact Or.inl rfl | exact Or.inr rfl) (pe_lst (pa_cons pe_int (pa_cons pe_int pa_nil)))) (pss_cons (ps_set (i := 6) nd rfl (by first | exact Or.inl rfl | exact Or.inr rfl) (pe_callSD (G .law_draws) hr0 rfl T.g_law_draws (T.k.f_law_draws).kp T.k.b_law_draws_3 .nil hx (pa_cons (pe_callSD (G .law_cell) hr0 rfl T.g_law_cell (T.k.f_law_cell).kp T.k.b_law_cell_2 .nil hx (pa_cons (pv 0) (pa_cons pe_int pa_nil))) (pa_cons pe_int (pa_cons pe_int pa_nil))))) (pss_cons (ps_for hpo rfl (pi_range1 (by rfl) T.z_range (pa_cons (pe_op op_modI (pe_callSD (G .law_cell) hr0 rfl T.g_law_cell (T.k.f_law_cell).kp T.k.b_law_cell_2 .nil hx (pa_cons (pv 0) (pa_cons pe_int pa_nil))) pe_int) pa_nil)) (pg_name (i := 7) nd rfl (by first | exact Or.inl rfl | exact Or.inr rfl)) (pss_cons (ps_set (i := 8) nd rfl (by first | exact Or.inl rfl | exact Or.inr rfl) (pe_op op_modI (pe_ix ix_seq (pv 6) (pv 7) (fun _ _ => rfl)) pe_int)) (pss_cons (ps_set (i := 9) nd rfl (by first | exact Or.inl rfl | exact Or.inr rfl) pe_str) (pss_cons (ps_if (pt_cmpR (op_eqA hr.units) (pv 8) pe_int (nomark _)) (pss_one (ps_set (i := 9) nd rfl (by first | exact Or.inl rfl | exact Or.inr rfl) (pe_callV0 (k := 0) (by decide +kernel) (by decide +kernel) fresh_S (fun _ _ _ _ _ => rfl) rfl (fun cl c g A outer s H h => fresh_e T.z_str cl c g A outer s H h) hr (Nat.le_add_left _ _) (i := 3) rfl (.inl rfl) (by decide +kernel) (by decide +kernel)))) (pss_one (ps_set (i := 9) nd rfl (by first | exact Or.inl rfl | exact Or.inr rfl) (pe_callV0 (k := 0) (by decide +kernel) (by decide +kernel) fresh_S (fun _ _ _ _ _ => rfl) rfl (fun cl c g A outer s H h => fresh_e T.z_str cl c g A outer s H h) hr (Nat.le_add_left _ _) (i := 4) rfl (.inl rfl) (by decide +kernel) (by decide +kernel))))) (pss_cons (ps_asg (pe_op op_addA (pe_ix ix_seq (pv 5) (pv 8) (fun _ _ => rfl)) pe_int) (pg_sub (pv 5) (pv 8) set_list)) (pss_one (ps_if (PW.pt (pw_or (pt_not (pt_val (pe_callB call_isi rfl T.z_isinstance (by decide +kernel) (pa_cons (pv 9) (pa_cons (pe_bltn rfl T.z_str (by decide +kernel) rfl) pa_nil))))) (pw_or1 (pt_cmpR (op_neA hr.units) (pv 9) (pe_op op_addA (pe_ix ix_seq (pv 2) (pv 8) (fun _ _ => rfl)) (pe_callTy call_strI rfl T.z_str (by decide +kernel) (pa_cons (pe_ix ix_seq (pv 5) (pv 8) (fun _ _ => rfl)) pa_nil))) (nomark _))))) (pss_one (ps_ret pe_bl)) pss_nil))))))) (pss_one (ps_ret (pe_and (pe_cmpR (op_eqA hr.units) (pe_callV0 (k := 0) (by decide +kernel) (by decide +kernel) fresh_S (fun _ _ _ _ _ => rfl) rfl (fun cl c g A outer s H h => fresh_e T.z_str cl c g A outer s H h) hr (Nat.le_add_left _ _) (i := 3) rfl (.inl rfl) (by decide +kernel) (by decide +kernel)) (pe_op op_addA (pe_ix ix_seq (pv 2) pe_int (fun _ _ => rfl)) (pe_callTy call_strI rfl T.z_str (by decide +kernel) (pa_cons (pe_op op_addA (pe_ix ix_seq (pv 5) pe_int (fun _ _ => rfl)) pe_int) pa_nil))) (nomark _)) (pe_one (pe_cmpR (op_eqA hr.units) (pe_callV0 (k := 0) (by decide +kernel) (by decide +kernel) fresh_S (fun _ _ _ _ _ => rfl) rfl (fun cl c g A outer s H h => fresh_e T.z_str cl c g A outer s H h) hr (Nat.le_add_left _ _) (i := 4) rfl (.inl rfl) (by decide +kernel) (by decide +kernel)) (pe_op op_addA (pe_ix ix_seq (pv 2) pe_int (fun _ _ => rfl)) (pe_callTy call_strI rfl T.z_str (by decide +kernel) (pa_cons (pe_op op_addA (pe_ix ix_seq (pv 5) pe_int (fun _ _ => rfl)) pe_int) pa_nil))) (nomark _)))))))))))))
end
theorem ok_zero {w : World} {K : PySem.W.Frag} {mg : Str → Option Value} {base : Heap} : AllOk prog w K mg base 0 := fun f => ⟨fun _ _ _ _ h => h.elim, fun _ _ _ _ _ _ _ _ _ _ _ _ _ h => h.elim⟩
theorem ok_all {w : World} {K : PySem.W.Frag} {mg : Str → Option Value} {base : Heap} (T : Txt K w mg) (TB : TBN K mg base) : ∀ k, AllOk prog w K mg base k
  | 0 => ok_zero
  | k + 1 => fun f => match f with
    | .namer => ok_namer T TB (ok_all T TB k)
    | .law_cell => ok_law_cell T (ok_all T TB k)
    | .law_draws => ok_law_draws T (ok_all T TB k)
    | .law_names => ok_law_names T (ok_all T TB k)
    | .law => ok_law T (ok_all T TB k)
end L2.MP

set_option Elab.async false
set_option linter.all false
set_option maxRecDepth 100000
set_option maxHeartbeats 4000000
namespace L2.MP
open PySem PySem.Spec PyProof.Rows L2 NdefX LamX
/-! ### tracked things of one kind are no things of another kind -/
def hpOf (d : Addr) (o : Obj) (l : Heap) : Heap := { l with objs := Array.replicate (d + 1) o }
theorem hpOf_at {d : Addr} {o : Obj} {l : Heap} (h : o.isFreed = false) : (hpOf d o l).get? d = some o := by
  have e : (hpOf d o l).objs[d]? = some o := by
    show (Array.replicate (d + 1) o)[d]? = some o
    rw [Array.getElem?_replicate]
    simp
  obtain ⟨cl, di, dt, sl⟩ := o
  unfold Heap.get?
  rw [e]
  cases dt <;> first | rfl | cases h
theorem ext_eq {φ ψ : Heap → Prop} (h : HO.ext φ = HO.ext ψ) (x : Heap) : φ x → ψ x := by
  cases h
  exact id
def intCell (n : Int) : Obj := { cls := .none, data := .cell (some (.int n default)) }
theorem cell_int {l : Heap} {d : Addr} {n : Int} : ∃ u, RelV (.int n) u ∧ (hpOf d (intCell n) l).IsCell d (some u) := ⟨_, ⟨_, rfl⟩, intCell n, hpOf_at rfl, rfl⟩
theorem cell_fn {d : Addr} {n : Int} {F : NF} : CellO d (.int n) ≠ FnO d F := fun z => by
  obtain ⟨od, sl, doc, pm, ctv, h⟩ := ext_eq z (hpOf d (intCell n) default) cell_int
  rw [hpOf_at rfl] at h
  cases h
theorem cell_code {d : Addr} {n : Int} {q : Str} : CellO d (.int n) ≠ CodeO d q := fun z => by
  obtain ⟨oc, vs, t, h, h2, _⟩ := ext_eq z (hpOf d (intCell n) default) cell_int
  rw [hpOf_at rfl] at h
  cases h
  cases h2
theorem cell_str {d : Addr} {n : Int} {s : Str} : CellO d (.int n) ≠ CellO d (.str s) := fun z => by
  obtain ⟨u, ⟨t, rfl⟩, o, h, h2⟩ := ext_eq z (hpOf d (intCell n) default) cell_int
  rw [hpOf_at rfl] at h
  cases h
  cases h2
theorem cell_lst {d : Addr} {v : V} {xs : List V} : CellO d v ≠ .lst xs := fun z => by
  have z' : HO.ext _ = HO.lst xs := z
  cases z'
theorem fn_lst {d : Addr} {F : NF} {xs : List V} : FnO d F ≠ .lst xs := fun z => by
  have z' : HO.ext _ = HO.lst xs := z
  cases z'
theorem code_lst {d : Addr} {q : Str} {xs : List V} : CodeO d q ≠ .lst xs := fun z => by
  have z' : HO.ext _ = HO.lst xs := z
  cases z'
theorem ne_at {H : Hp} {a b : Addr} {f g : Addr → HO} (h : H a = some (f a)) (h' : H b = some (g b)) (n : g b ≠ f b) : a ≠ b := fun e => by
  subst e
  rw [h'] at h
  exact n (Option.some.inj h)
/-- a closure that has counted to n -/
structure Clo (H : Hp) (g : Addr) (F : NF) (c d : Addr) (z : Str) (n : Int) : Prop where
  fn : H g = some (FnO g F)
  co : H F.c = some (CodeO F.c F.qual)
  is : IsClo st_fresh ("fresh" : Str) qn_fresh ("stem" : Str) ("count" : Str) F c d
  st : H c = some (CellO c (.str z))
  ct : H d = some (CellO d (.int n))
section
variable {H H' : Hp} {g c d d' p : Addr} {F : NF} {z : Str} {n m k : Int} {xs ys : List V}
theorem Clo.ext (x : Clo H g F c d z n) (e : ExtN H H') : Clo H' g F c d z n :=
  ⟨e _ _ x.fn (fnO_ne), e _ _ x.co (fun ps w => by have w' : HO.ext _ = HO.tbl ps := w; cases w'), x.is, e _ _ x.st (fun ps w => cellO_tbl w), e _ _ x.ct (fun ps w => cellO_tbl w)⟩
theorem Clo.ex (x : Clo H g F c d z n) (e : Ex H H') : Clo H' g F c d z n := x.ext fun b o h _ => e b o h
theorem Clo.neg (x : Clo H g F c d z n) (h : H d' = some (CellO d' (.int k))) : g ≠ d' ∧ F.c ≠ d' ∧ c ≠ d' :=
  ⟨ne_at (f := fun y => FnO y F) (g := fun y => CellO y (.int k)) x.fn h cell_fn, ne_at (f := fun y => CodeO y F.qual) (g := fun y => CellO y (.int k)) x.co h cell_code, ne_at (f := fun y => CellO y (.str z)) (g := fun y => CellO y (.int k)) x.st h cell_str⟩
theorem Clo.own (x : Clo H g F c d z n) : Clo (upd H d (CellO d (.int m))) g F c d z m := by
  obtain ⟨h1, h2, h3⟩ := x.neg x.ct
  exact ⟨by rw [upd_ne h1]; exact x.fn, by rw [upd_ne h2]; exact x.co, x.is, by rw [upd_ne h3]; exact x.st, upd_same⟩
theorem Clo.oth (x : Clo H g F c d z n) (h : H d' = some (CellO d' (.int k))) (hn : d ≠ d') : Clo (upd H d' (CellO d' (.int m))) g F c d z n := by
  obtain ⟨h1, h2, h3⟩ := x.neg h
  exact ⟨by rw [upd_ne h1]; exact x.fn, by rw [upd_ne h2]; exact x.co, x.is, by rw [upd_ne h3]; exact x.st, by rw [upd_ne hn]; exact x.ct⟩
theorem Clo.lst (x : Clo H g F c d z n) (h : H p = some (.lst xs)) : Clo (upd H p (.lst ys)) g F c d z n := by
  have q : ∀ {a : Addr} {o : HO}, H a = some o → o ≠ .lst xs → a ≠ p := fun h1 h2 e => by subst e; rw [h] at h1; exact h2 (Option.some.inj h1).symm
  exact ⟨by rw [upd_ne (q x.fn fn_lst)]; exact x.fn, by rw [upd_ne (q x.co code_lst)]; exact x.co, x.is, by rw [upd_ne (q x.st cell_lst)]; exact x.st, by rw [upd_ne (q x.ct cell_lst)]; exact x.ct⟩
theorem Clo.nel (x : Clo H g F c d z n) (h : H p = some (.lst xs)) : p ≠ d := fun e => by
  subst e
  rw [x.ct] at h
  exact cell_lst (Option.some.inj h)
end
theorem extN_sqL {K : PySem.W.Frag} {H H' : Hp} {a : Addr} {xs : List V} (e : ExtN H H') (h : SqL K H a xs) : SqL K H' a xs := by
  rcases h with h | h
  · refine .inl ?_
    rcases h with h | ⟨o, h⟩
    · exact .inl (e _ _ h fun ps z => nomatch z)
    · exact .inr ⟨o, e _ _ h fun ps z => nomatch z⟩
  · exact .inr h
section
variable {K : PySem.W.Frag} {w : World} {k : Nat} {H : Hp} {Q : VK} {E : XK} {xs : List V} {z : Str} {g c d : Addr} {F : NF} {n : Int} {σ : L2.St} {i : Nat}
theorem s_namer (hv : xs = [.str z]) (hT : TabsN (TT K) H) (q : ∀ g c d F H', ExtN H H' → TabsN (TT K) H' → Clo H' g F c d z 0 → H d = none → Q (.ref g) H') : Gam K w (k + 1) .namer xs H Q E := by
  subst hv
  refine ⟨z, rfl, hT, fun g c d F H1 x1 x2 x3 x4 x5 x6 hF hcd n1 n2 n3 n4 => ?_⟩
  have ex : ∀ b o, H1 b = some o → upd (upd H1 c (CellO c (.str z))) d (CellO d (.int 0)) b = some o := fun b o h => by
    rw [upd_ne (fun e => by subst e; rw [n2] at h; cases h), upd_ne (fun e => by subst e; rw [n1] at h; cases h)]
    exact h
  exact q g c d F _ (fun b o h ho => ex b o (x1 b o h ho)) (x3.ext ex) ⟨ex _ _ x5, ex _ _ x6, hF, by rw [upd_ne hcd]; exact upd_same, upd_same⟩ n4
theorem k_callV [s : GetC σ i (.ref g)] (x : Clo H g F c d z n) (h1 : (n + 1).natAbs.log2 < 1920) (h2 : z.length + (Str.ofString (toString (n + 1))).length ≤ 100000) (q : Q (.str (z ++ Str.ofString (toString (n + 1)))) (upd H d (CellO d (.int (n + 1))))) :
    tCallV st_fresh ("fresh" : Str) qn_fresh ("stem" : Str) ("count" : Str) i σ H Q := ⟨g, F, c, d, s.eq, x.fn, x.co, x.is, rfl, c, d, z, n, x.is.la, x.is.lb, x.st, x.ct, ⟨h1, sz_of h2⟩, q⟩
theorem o_strI (h : n.natAbs.log2 < 1920) (q : Q (.str (Str.ofString (toString n))) H) : rStrI [.int n] H Q := ⟨n, rfl, h, q⟩
end
theorem num_ok : ∀ m : Nat, m < 60 → ((m : Int)).natAbs.log2 < 1920 ∧ (Str.ofString (toString (m : Int))).length ≤ 10 := by
  have h : ∀ m < 60, (((m : Nat) : Int)).natAbs.log2 < 1920 ∧ (Str.ofString (toString ((m : Nat) : Int))).length ≤ 10 := by decide +kernel
  exact h
theorem num_okI {n : Int} (h0 : 0 ≤ n) (h : n < 60) : n.natAbs.log2 < 1920 ∧ (Str.ofString (toString n)).length ≤ 10 := by
  obtain ⟨m, rfl⟩ := Int.eq_ofNat_of_zero_le h0
  exact num_ok m (by omega)
end L2.MP

set_option Elab.async false
set_option linter.all false
set_option maxRecDepth 100000
set_option maxHeartbeats 4000000
namespace L2.MP
open PySem PySem.Spec PyProof.Rows L2 NdefX LamX
/-! ### the stepping tactic -/
local macro_rules | `(tactic| walk_at "ne") => `(tactic| first
  | with_reducible assumption
  | ((with_reducible apply Ne.symm); with_reducible assumption)
  | ((with_reducible refine' ne_of_none ?a ?b); (case b => with_reducible assumption); (case a => walk_at "hp"))
  | ((with_reducible apply Ne.symm); (with_reducible refine' ne_of_none ?a ?b); (case b => with_reducible assumption); (case a => walk_at "hp"))
  | (refine' ne_of (by with_reducible assumption) (by with_reducible assumption) ?_; intro z; cases z))
local macro_rules | `(tactic| walk_at "hs") => `(tactic| first
  | with_reducible assumption
  | with_reducible exact upd_same
  | ((with_reducible apply up_new); (with_reducible assumption))
  | ((with_reducible apply Ex.at); (with_reducible assumption))
  | ((with_reducible apply up_ne); (walk_at "ne")))
local macro_rules | `(tactic| walk_at "hp") => `(tactic| ((repeat walk_at "hs"); done))
local macro_rules | `(tactic| walk_at "ss") => `(tactic| first
  | with_reducible assumption
  | ((with_reducible apply sqL_of); first | with_reducible assumption | with_reducible exact upd_same)
  | ((with_reducible apply sqT_of); first | with_reducible assumption | with_reducible exact upd_same)
  | ((with_reducible apply up_sqL); (with_reducible assumption))
  | ((with_reducible apply up_sqT); (with_reducible assumption))
  | ((with_reducible apply Ex.sqL); (with_reducible assumption))
  | ((with_reducible apply Ex.sqT); (with_reducible assumption))
  | ((with_reducible apply sqL_ne); (walk_at "ne"))
  | ((with_reducible apply sqT_ne); (walk_at "ne")))
local macro_rules | `(tactic| walk_at "sq") => `(tactic| ((repeat walk_at "ss"); done))
local macro_rules | `(tactic| walk_at "fl") => `(tactic| first
  | exact rfl
  | decide +kernel
  | (simp [flatOk, flat1]; done)
  | ((simp [flatOk, flat1]); decide +kernel))
local macro_rules | `(tactic| walk_at "ib") => `(tactic| first
  | omega
  | (refine Int.emod_nonneg _ ?_; omega)
  | (refine Int.emod_lt_of_pos _ ?_; omega))
local macro_rules | `(tactic| walk_at "ex") => `(tactic| first
  | with_reducible exact Ex.refl _
  | with_reducible assumption
  | ((with_reducible refine' Ex.trans ?a ?b); (case b => with_reducible assumption); (case a => walk_at "ex"))
  | ((with_reducible refine' Ex.new' ?a ?b); (case b => walk_at "nn"); (case a => walk_at "ex")))
local macro_rules | `(tactic| walk_at "nn") => `(tactic| first
  | with_reducible assumption
  | ((with_reducible refine' Ex.none ?a ?b); (case b => with_reducible assumption); (case a => walk_at "ex")))
local macro_rules | `(tactic| walk_at "bt") => `(tactic| first
  | exact rfl
  | (simp only [Bool.not_true, Bool.not_false, Bool.true_or, Bool.false_or, Bool.true_and, Bool.false_and, Bool.or_true, Bool.or_false, Bool.and_true, Bool.and_false, Bool.not_eq_true', Bool.not_eq_false', Bool.or_eq_true, Bool.or_eq_false_iff, Bool.and_eq_true, Bool.and_eq_false_iff, decide_eq_true_eq, decide_eq_false_iff_not] <;> omega)
  | (simp; done)
  | (simp; omega))
local macro_rules | `(tactic| walk_at "len") => `(tactic| first
  | exact Nat.le_of_ble_eq_true rfl
  | (simp only [List.length_cons, List.length_nil, List.length_append, List.length_map]; omega)
  | omega)
local macro_rules | `(tactic| walk_at "un") => `(tactic| fail)
local macro_rules | `(tactic| walk_at "cs") => `(tactic| fail)
local macro_rules | `(tactic| walk_at "st") => `(tactic| first
  | with_reducible refine k_var ?_
  | with_reducible refine k_asgS ?_
  | with_reducible refine k_c ?_
  | with_reducible refine k_op ?_
  | with_reducible refine k_cons ?_
  | with_reducible refine k_nil ?_
  | with_reducible refine k_seq ?_
  | with_reducible refine k_asg ?_
  | with_reducible refine k_cb ?_
  | with_reducible refine k_fld ?_
  | ((with_reducible refine' k_rfld ?h ?i ?j ?q); (case h => walk_at "hp"); (case i => infer_instance); (case j => infer_instance))
  | with_reducible refine k_if ?_
  | with_reducible refine k_test ?_
  | with_reducible refine k_bl ?_
  | with_reducible refine k_tB ?_
  | with_reducible refine k_itT ?_
  | with_reducible refine k_itF ?_
  | with_reducible refine k_next ?_
  | with_reducible refine k_ret ?_
  | with_reducible refine k_call ?_
  | with_reducible refine k_tup ?_
  | ((with_reducible refine' k_newTA ?h ?q); (case h => walk_at "len"); intro p H' hp he hm)
  | with_reducible refine k_lst ?_
  | ((with_reducible refine' k_newLA ?h ?q); (case h => walk_at "len"); intro p H' hp he hm)
  | with_reducible refine k_and ?_
  | with_reducible refine k_or ?_
  | with_reducible refine k_not ?_
  | with_reducible refine k_inot ?_
  | with_reducible refine o_eqI ?_
  | with_reducible refine o_eqB ?_
  | with_reducible refine o_eqS ?_
  | with_reducible refine o_neI ?_
  | with_reducible refine o_neB ?_
  | with_reducible refine o_neS ?_
  | with_reducible refine o_lt ?_
  | with_reducible refine o_le ?_
  | with_reducible refine o_gt ?_
  | with_reducible refine o_ge ?_
  | with_reducible refine o_addI ?_
  | ((with_reducible refine' o_addLA ?h1 ?h2 ?h ?q); (case h1 => walk_at "hp"); (case h2 => walk_at "hp"); (case h => walk_at "len"); intro p H' hp he hm; dsimp only [List.cons_append, List.nil_append] at hm)
  | with_reducible refine o_subI ?_
  | ((with_reducible refine' o_mod ?h ?q); (case h => first | decide | omega))
  | ((with_reducible refine' o_fdiv ?h ?q); (case h => first | exact ⟨by first | decide | omega, by first | decide | omega⟩ | exact ⟨by split <;> decide, by split <;> decide⟩))
  | ((with_reducible refine' o_mulI ?h ?q); (case h => first | exact .inl ⟨by first | decide | omega, by first | decide | omega⟩ | exact .inr ⟨by first | decide | omega, by first | decide | omega⟩))
  | ((with_reducible refine' o_ixTn ?h ?h0 ?e ?q); (case h => walk_at "sq"); (case h0 => decide); (case e => exact rfl))
  | ((with_reducible refine' o_ixLn ?h ?h0 ?e ?q); (case h => walk_at "sq"); (case h0 => decide); (case e => exact rfl))
  | ((with_reducible refine' o_ixD ?h ?h0 ?h1 ?q); (case h => walk_at "sq"); (case h0 => walk_at "ib"); (case h1 => walk_at "ib"))
  | ((with_reducible refine' o_ixSv ?h ?h0 ?h1 ?q); (case h => walk_at "sq"); (case h0 => walk_at "ib"); (case h1 => walk_at "ib"))
  | ((with_reducible refine' o_ix2S ?h ?q); (case h => walk_at "sq"))
  | ((with_reducible refine' o_ix2PT ?h ?hp ?q); (case h => walk_at "sq"); (case hp => omega))
  | ((with_reducible refine' o_ix2PL ?h ?hp ?q); (case h => walk_at "sq"); (case hp => omega))
  | ((with_reducible refine' o_inTI ?h ?c ?q); (case h => walk_at "sq"); (case c => infer_instance))
  | ((with_reducible refine' o_inLI ?h ?c ?q); (case h => walk_at "sq"); (case c => infer_instance))
  | ((with_reducible refine' o_ix2I ?h ?q); (case h => walk_at "sq"))
  | ((with_reducible refine' o_lenLS ?h ?q); (case h => walk_at "sq"))
  | ((with_reducible refine' o_lenLI ?h ?q); (case h => walk_at "sq"))
  | ((with_reducible refine' o_lenL ?h ?q); (case h => walk_at "sq"))
  | ((with_reducible refine' o_lenT ?h ?q); (case h => walk_at "sq"))
  | with_reducible refine' i_plain ?_
  | with_reducible refine' i_plainC ?_
  | ((with_reducible refine' i_insC ?h ?i ?c ?q); (case h => walk_at "hp"); (case i => infer_instance); (case c => infer_instance))
  | ((with_reducible refine' i_lst ?h ?c ?q); (case h => walk_at "hp"); (case c => infer_instance))
  | ((with_reducible refine' i_tup ?h ?c ?q); (case h => walk_at "hp"); (case c => infer_instance))
  | with_reducible refine k_prop ?_
  | ((with_reducible refine' k_rprop ?h ?q); (case h => walk_at "hp"))
  | with_reducible refine k_make ?_
  | with_reducible refine k_makeKS ?_
  | ((with_reducible refine' k_rmkK ?hl ?hg ?q); (case hl => exact rfl); (case hg => exact fun _ => rfl))
  | with_reducible refine k_meth ?_
  | ((with_reducible refine' k_rmeth ?h ?i ?q); (case h => walk_at "hp"); (case i => infer_instance))
  | with_reducible refine k_andV ?_
  | with_reducible refine k_orV ?_
  | with_reducible refine k_notV ?_
  | with_reducible refine k_rand ?_
  | with_reducible refine k_rnot ?_
  | with_reducible refine k_un ?_
  | with_reducible refine k_ifE ?_
  | with_reducible refine k_randT ?_
  | with_reducible refine k_randF ?_
  | with_reducible refine k_rorT ?_
  | with_reducible refine k_rorF ?_
  | with_reducible refine k_randtT ?_
  | with_reducible refine k_randtF ?_
  | with_reducible refine k_rortT ?_
  | with_reducible refine k_rortF ?_
  | ((with_reducible refine' k_randP ?h2 ?q); (case h2 => intro _ hq; (walk_at "go"); with_reducible exact hq))
  | ((with_reducible refine' k_rorP ?h2 ?q); (case h2 => intro _ hq; (walk_at "go"); with_reducible exact hq))
  | with_reducible refine k_randS ?_
  | with_reducible refine k_rorS ?_
  | ((with_reducible refine' k_rifI ?h1 ?h2 ?q); (case h1 => intro _ hq; (walk_at "go"); with_reducible exact hq); (case h2 => intro _ hq; (walk_at "go"); with_reducible exact hq))
  | with_reducible refine k_rifS ?_
  | ((with_reducible refine' k_randtP ?h2 ?q); (case h2 => intro _ hq; (walk_at "go"); with_reducible exact hq))
  | ((with_reducible refine' k_rortP ?h2 ?q); (case h2 => intro _ hq; (walk_at "go"); with_reducible exact hq))
  | with_reducible refine k_randtS ?_
  | with_reducible refine k_rortS ?_
  | ((with_reducible refine' k_own ?h ?i ?q); (case h => walk_at "hp"); (case i => walk_at "hp"))
  | ((with_reducible refine' k_ownI ?h ?q); (case h => walk_at "hp"))
  | ((with_reducible refine' k_ownA ?h ?q); (case h => walk_at "hp"))
  | with_reducible refine k_aug ?_
  | with_reducible refine o_addIp ?_
  | with_reducible refine k_drop ?_
  | with_reducible refine k_fldp ?_
  | ((with_reducible refine' k_rputU ?i ?j ?q); (case i => infer_instance); (case j => infer_instance))
  | ((with_reducible refine' k_rput ?h ?i ?j ?q); (case h => walk_at "hp"); (case i => infer_instance); (case j => infer_instance))
  | ((with_reducible refine' k_dispA ?h ?q); (case h => exact Nat.le_of_ble_eq_true rfl); intro p H' hp he hm)
  | with_reducible refine k_newK ?_
  | ((with_reducible refine' k_newDA ?q); intro p H' hp he hm)
  | with_reducible refine k_dget ?_
  | with_reducible refine k_dget2 ?_
  | ((with_reducible refine' k_rdgetC ?h ?e ?q); (case h => walk_at "hp"); (case e => infer_instance))
  | ((with_reducible refine' k_rdg2 ?h ?q); (case h => walk_at "hp"))
  | ((with_reducible refine' k_rdo ?h ?q); (case h => walk_at "hp"))
  | with_reducible refine k_dput ?_
  | ((with_reducible refine' k_rdputU ?hl ?e ?q); (case hl => exact Nat.le_of_ble_eq_true rfl); (case e => infer_instance))
  | ((with_reducible refine' k_rdputC ?h ?hl ?e ?q); (case h => walk_at "hp"); (case hl => exact Nat.le_of_ble_eq_true rfl); (case e => infer_instance))
  | with_reducible refine k_m1 ?_
  | with_reducible refine k_rm1 ?_
  | with_reducible refine k_bm ?_
  | ((with_reducible refine' k_rbmL ?h ?q); (case h => walk_at "sq"))
  | ((with_reducible refine' o_appendU ?hl ?q); (case hl => walk_at "len"))
  | ((with_reducible refine' o_append ?h ?hl ?q); (case h => walk_at "hp"); (case hl => walk_at "len"))
  | with_reducible refine k_ownIx ?_
  | ((with_reducible refine' k_rownIx ?h ?q); (case h => walk_at "hp"))
  | with_reducible refine k_ownPut ?_
  | ((with_reducible refine' k_rownPut ?h ?q); (case h => walk_at "hp"))
  | ((with_reducible refine' o_inT ?h ?q); (case h => walk_at "sq"))
  | ((with_reducible refine' o_ninT ?h ?q); (case h => walk_at "sq"))
  | ((with_reducible refine' o_inL ?h ?q); (case h => walk_at "sq"))
  | ((with_reducible refine' o_ninL ?h ?q); (case h => walk_at "sq"))
  | with_reducible refine o_pow18 ?_
  | with_reducible refine o_pow9 ?_
  | with_reducible refine o_pow30 ?_
  | with_reducible refine o_isB ?_
  | with_reducible refine o_neg ?_
  | with_reducible refine o_isN ?_
  | with_reducible refine o_notN ?_
  | with_reducible refine o_max ?_
  | with_reducible refine o_min ?_
  | with_reducible refine o_intI ?_
  | with_reducible refine o_intB ?_
  | with_reducible refine o_abs ?_
  | with_reducible refine k_forR1 ?_
  | with_reducible refine k_forR2 ?_
  | with_reducible refine k_forL ?_
  | with_reducible refine k_forT ?_
  | ((with_reducible refine' k_turnR ?e ?q); (case e => exact rfl))
  | with_reducible refine k_doneR ?_
  | ((with_reducible refine' k_turnL ?h ?q); (case h => walk_at "sq"))
  | ((with_reducible refine' k_doneL ?h ?q); (case h => walk_at "sq"))
  | ((with_reducible refine' k_turnT ?h ?q); (case h => walk_at "sq"))
  | ((with_reducible refine' k_doneT ?h ?q); (case h => walk_at "sq"))
  | with_reducible refine k_forA ?_
  | with_reducible refine k_lcA ?_
  | ((with_reducible refine' o_tupL ?h ?q); (case h => walk_at "sq"); intro p H' hp he hm)
  | ((with_reducible refine' o_lisL ?h ?q); (case h => walk_at "sq"); intro p H' hp he hm)
  | ((with_reducible refine' o_lisT ?h ?q); (case h => walk_at "sq"); intro p H' hp he hm)
  | ((with_reducible refine' o_tupT ?h ?q); (case h => walk_at "sq"))
  | with_reducible refine k_dyn ?_
  | ((with_reducible refine' k_rdyn ?h ?i ?c ?q); (case h => walk_at "hp"); (case i => infer_instance); (case c => infer_instance))
  | with_reducible refine k_brk ?_
  | with_reducible refine k_cont ?_
  | with_reducible refine k_raise ?_
  | with_reducible refine k_retN ?_
  | walk_at "un"
  | walk_at "cs"
  | ((with_reducible refine' k_itdT ?h ?q); (case h => first | with_reducible assumption | omega | decide))
  | ((with_reducible refine' k_itdF ?h ?q); (case h => first | with_reducible assumption | omega | decide))
  | ((with_reducible refine' k_ifT ?h ?q); (case h => walk_at "bt"))
  | ((with_reducible refine' k_ifF ?h ?q); (case h => walk_at "bt")))
local macro_rules | `(tactic| walk_at "go") => `(tactic| repeat walk_at "st")
local macro_rules | `(tactic| walk_at "sp") => `(tactic| repeat' (first | walk_at "st" | refine k_itd (fun h => ?_) (fun h => ?_) | refine k_itb (fun h => ?_) (fun h => ?_)))
section
variable {K : PySem.W.Frag} [TxtK K] {w : World} {k : Nat} {H : Hp} {Q : VK} {E : XK} {xs : List V} {a b dx dy : Addr} {n m : Int} {l l' : Bool}
theorem s_law_cell {i : Int} {ns : List Int} (hv : xs = [.ref a, .int i]) (hS : SqL K H a (ns.map V.int)) (hi : 0 ≤ i) (q : Q (.int (cellv ns i)) H) : Gam K w (k + 1) .law_cell xs H Q E := by
  subst hv
  refine ⟨rfl, ?_⟩
  unfold rd_law_cell
  refine k_start ?_
  walk_at "go"
  refine k_itd (fun h => ?_) (fun h => ?_)
  · walk_at "go"
    exact q
  · walk_at "go"
    rw [cell_out hi (by simpa using h)] at q
    exact q
end
local macro_rules | `(tactic| walk_at "cs") => `(tactic| ((with_reducible refine' s_law_cell ?hv ?hS ?hi ?q); (case hv => exact rfl); (case hS => walk_at "sq"); (case hi => first | decide | omega)))
section
variable {K : PySem.W.Frag} [TxtK K] {w : World} {k : Nat} {H : Hp} {Q : VK} {E : XK} {xs : List V} {a b : Addr}
def rng60 (ds : List Int) : Prop := ∀ d ∈ ds, 0 ≤ d ∧ d < 60
theorem s_law_draws {c s : Int} {many : Nat} (hv : xs = [.int c, .int many, .int s]) (hm : many ≤ 1000) (hs : 0 ≤ s ∧ s < 1000) (q : ∀ p H' ds, H p = none → Ex H H' → H' p = some (.lst (ds.map V.int)) → ds.length = many → rng60 ds → Q (.ref p) H') :
    Gam K w (k + 1) .law_draws xs H Q E := by
  subst hv
  refine ⟨rfl, ?_⟩
  unfold rd_law_draws
  refine k_start ?_
  walk_at "go"
  rename_i p H1 hp he hm1
  generalize hsz : (if c < 0 then -c else c) = sz
  have hsz0 : 0 ≤ sz := by subst hsz; split <;> omega
  clear hsz
  refine k_rr1I ⟨by omega, by omega⟩ (fun m σ H' => ∃ (r : Int) (ds : List Int) (u v : Option V), σ = [some (.int c), some (.int many), some (.int s), some (.int sz), some (.int r), some (.ref p), u, v] ∧ 0 ≤ r ∧ ds.length = m ∧ rng60 ds ∧ Ex H H' ∧ H' p = some (.lst (ds.map V.int)))
    ⟨sz, [], none, none, rfl, hsz0, rfl, (fun d hd => nomatch hd), he, hm1⟩ ?_ ?_
  · intro m σ H' hm' hI
    obtain ⟨r, ds, u, v, rfl, hr0, hl, hd, hx, hm⟩ := hI
    dsimp only [List.set]
    walk_at "go"
    refine k_itb (fun h => ?_) (fun h => ?_)
    · walk_at "go"
      refine ⟨r / 60, ds ++ [r % 60], some (.int m), v, rfl, by omega, by simp [hl], fun d hd' => ?_, hx.new' hp, by rw [upd_same, List.map_append]; rfl⟩
      rcases List.mem_append.mp hd' with z | z
      · exact hd d z
      · simp only [List.mem_cons, List.not_mem_nil, or_false] at z; subst z; omega
    · walk_at "go"
      refine ⟨r, ds ++ [_], some (.int m), some (.int _), rfl, hr0, by simp [hl], fun d hd' => ?_, hx.new' hp, by rw [upd_same, List.map_append]; rfl⟩
      rcases List.mem_append.mp hd' with z | z
      · exact hd d z
      · simp only [List.mem_cons, List.not_mem_nil, or_false] at z; subst z; omega
  · rintro σ H' ⟨r, ds, u, v, rfl, hr0, hl, hd, hx, hm⟩
    walk_at "go"
    exact q p _ ds hp hx hm (by simpa using hl) hd
end
local macro_rules | `(tactic| walk_at "cs") => `(tactic| ((with_reducible refine' s_law_draws ?hv ?hm ?hs ?q); (case hv => exact rfl); (case hm => decide); (case hs => decide); intro p H' ds hp he hm hl hr))
/-- what the program takes for a name -/
def nmOk (x : Str) : Prop := 1 ≤ x.length ∧ x.length ≤ 12 ∧ (∃ c, x.cps[0]? = some c ∧ c ∈ ("abcdefghijklmnopqrstuvwxyz" : Str).cps.toList) ∧ ∀ (i c : Nat), x.cps[i]? = some c → c ∈ ("abcdefghijklmnopqrstuvwxyz0123456789" : Str).cps.toList
def nmB (x : Str) : Bool := decide (1 ≤ x.length) && (decide (x.length ≤ 12) && ((match x.cps[0]? with | some c => ("abcdefghijklmnopqrstuvwxyz" : Str).cps.toList.contains c | none => false) && x.cps.toList.all fun c => ("abcdefghijklmnopqrstuvwxyz0123456789" : Str).cps.toList.contains c))
theorem nmB_ok {x : Str} (h : nmB x = true) : nmOk x := by
  obtain ⟨h1, h⟩ := He.ba h
  obtain ⟨h2, h⟩ := He.ba h
  obtain ⟨h3, h4⟩ := He.ba h
  refine ⟨of_decide_eq_true h1, of_decide_eq_true h2, ?_, fun i c e => ?_⟩
  · split at h3
    · rename_i c e
      exact ⟨c, e, List.contains_iff_mem.mp h3⟩
    · cases h3
  · exact List.contains_iff_mem.mp (List.all_eq_true.mp h4 c (by rw [← Array.getElem?_toList] at e; exact List.mem_of_getElem? e))
def PRE : List Str := [("" : Str), ("v" : Str), ("x9" : Str), ("name" : Str)]
def SUF : List Str := [("" : Str), ("0" : Str), ("7z" : Str), ("long" : Str)]
def nmAt (i j l m : Nat) : Str := sv PRE (i : Int) ++ ⟨#[97 + j]⟩ ++ sv SUF (l : Int) ++ Txt.mul ("1" : Str) (m : Int)
theorem nmAt_ok : ∀ i < 4, ∀ j < 26, ∀ l < 4, ∀ m < 4, nmB (nmAt i j l m) = true := by decide +kernel
theorem abc_at : ∀ j < 26, ("abcdefghijklmnopqrstuvwxyz" : Str).cps[j]? = some (97 + j) := by decide +kernel
theorem pre_len : ∀ i < 4, (sv PRE (i : Nat)).length ≤ 4 ∧ (sv SUF (i : Nat)).length ≤ 4 ∧ (Txt.mul ("1" : Str) (i : Nat)).length ≤ 4 := by decide +kernel
theorem mul_ok : ∀ i < 4, MulOk ("1" : Str) (i : Nat) := by
  intro i hi
  refine ⟨?_, ?_, ?_⟩
  · revert i; decide +kernel
  · intro h1 h2
    have : i = 1 ∨ i = 2 ∨ i = 3 := by omega
    rcases this with rfl | rfl | rfl <;> decide +kernel
  · intro h1 h2
    have : i = 1 ∨ i = 2 ∨ i = 3 := by omega
    rcases this with rfl | rfl | rfl <;> decide +kernel
theorem odd_at {i : Int} (h0 : 0 ≤ i) (h : i < 4) : 0 ≤ cellv [1, 3, 5, 7] i ∧ cellv [1, 3, 5, 7] i ≤ 7 := by
  obtain ⟨m, rfl⟩ : ∃ m : Nat, i = (m : Int) := ⟨i.toNat, by omega⟩
  have : m = 0 ∨ m = 1 ∨ m = 2 ∨ m = 3 := by omega
  rcases this with rfl | rfl | rfl | rfl <;> decide +kernel
section
variable {K : PySem.W.Frag} [TxtK K] {w : World} {k : Nat} {H : Hp} {Q : VK} {E : XK} {xs : List V} {a b : Addr}
theorem s_law_names {ds : List Int} (hv : xs = [.ref a]) (hS : SqL K H a (ds.map V.int)) (hl : 4 ≤ ds.length) (hr : rng60 ds) (q : ∀ p H' (ns : List Str), H p = none → Ex H H' → H' p = some (.lst (ns.map V.str)) → ns.length = 4 → (∀ n ∈ ns, nmOk n) → Q (.ref p) H') : Gam K w (k + 1) .law_names xs H Q E := by
  subst hv
  refine ⟨rfl, ?_⟩
  unfold rd_law_names
  refine k_start ?_
  walk_at "go"
  rename_i p H1 hp he1 hm1
  refine k_rr1I ⟨by omega, by omega⟩ (fun m σ H' => ∃ (ns : List Str) (u v : Option V), σ = [some (.ref a), some (.str ("abcdefghijklmnopqrstuvwxyz" : Str)), some (.ref p), u, v] ∧ ns.length = m ∧ (∀ n ∈ ns, nmOk n) ∧ Ex H H' ∧ H' p = some (.lst (ns.map V.str)))
    ⟨[], none, none, rfl, rfl, (fun d hd => nomatch hd), he1, hm1⟩ ?_ ?_
  · intro m σ H' hm' hI
    obtain ⟨ns, u, v, rfl, hlm, hok, hx, hm⟩ := hI
    dsimp only [List.set]
    walk_at "go"
    rename_i p1 H2 hp1 he2 hm2
    refine o_ixD (ds := [1, 3, 5, 7]) (sqL_of hm2) (by walk_at "ib") (by show _ < (4 : Int); walk_at "ib") ?_
    obtain ⟨c0, c7⟩ := odd_at (i := cellv ds 2 % 4) (by omega) (by omega)
    generalize cellv [1, 3, 5, 7] (cellv ds 2 % 4) = c at c0 c7 ⊢
    walk_at "go"
    have hc : 0 ≤ c * (m : Int) ∧ c * (m : Int) ≤ 21 := ⟨Int.mul_nonneg c0 (by omega), by
      have h1 : c * (m : Int) ≤ 7 * (m : Int) := Int.mul_le_mul_of_nonneg_right c7 (by omega)
      omega⟩
    have h3 := (cell60 (i := 3) hr)
    obtain ⟨j, hj, hj26⟩ : ∃ j : Nat, (cellv ds 3 + c * (m : Int)) % 26 = (j : Int) ∧ j < 26 := ⟨((cellv ds 3 + c * (m : Int)) % 26).toNat, by omega, by omega⟩
    rw [hj]
    refine o_ixS (by decide +kernel) (by omega) (by rw [Int.toNat_natCast]; exact abc_at j hj26) ?_
    walk_at "go"
    rename_i p2 H3 hp2 he3 hm3
    refine o_ixSv (l := PRE) (sqL_of hm3) (by walk_at "ib") (by show _ < (4 : Int); walk_at "ib") ?_
    obtain ⟨i0, hi0, hi4⟩ : ∃ j : Nat, cellv ds 0 % 4 = (j : Int) ∧ j < 4 := ⟨(cellv ds 0 % 4).toNat, by omega, by omega⟩
    rw [hi0]
    obtain ⟨l1, _, _⟩ := pre_len i0 hi4
    walk_at "go"
    refine o_addS (by show _ + 1 ≤ _; omega) ?_
    walk_at "go"
    rename_i p3 H4 hp3 he4 hm4
    refine o_ixSv (l := SUF) (sqL_of hm4) (by walk_at "ib") (by show _ < (4 : Int); walk_at "ib") ?_
    obtain ⟨i1, hi1, hi14⟩ : ∃ j : Nat, cellv ds 1 % 4 = (j : Int) ∧ j < 4 := ⟨(cellv ds 1 % 4).toNat, by omega, by omega⟩
    rw [hi1]
    obtain ⟨_, l2, _⟩ := pre_len i1 hi14
    have la : ∀ (x y : Str), (x ++ y).length = x.length + y.length := fun x y => Array.size_append
    have lc : (⟨#[97 + j]⟩ : Str).length = 1 := rfl
    refine o_addS (by rw [la, lc]; omega) ?_
    walk_at "go"
    obtain ⟨i2, hi2, hi24⟩ : ∃ j : Nat, (m : Int) * (cellv ds 2 / 4 % 2) = (j : Int) ∧ j < 4 := by
      have hb := cell60 (i := 2) hr
      have : cellv ds 2 / 4 % 2 = 0 ∨ cellv ds 2 / 4 % 2 = 1 := by omega
      rcases this with z | z <;> rw [z]
      · exact ⟨0, by simp, by decide⟩
      · exact ⟨m, by simp, by omega⟩
    rw [hi2]
    refine o_mulS (mul_ok i2 hi24) ?_
    obtain ⟨_, _, l3⟩ := pre_len i2 hi24
    refine o_addS (by rw [la, la, lc]; omega) ?_
    walk_at "go"
    refine ⟨ns ++ [nmAt i0 j i1 i2], _, _, rfl, by simp [hlm], fun n hn => ?_, by walk_at "ex", by rw [upd_same, List.map_append]; rfl⟩
    rcases List.mem_append.mp hn with z | z
    · exact hok n z
    · simp only [List.mem_cons, List.not_mem_nil, or_false] at z
      subst z
      exact nmB_ok (nmAt_ok i0 hi4 j hj26 i1 hi14 i2 hi24)
  · rintro σ H' ⟨ns, u, v, rfl, hlm, hok, hx, hm⟩
    walk_at "go"
    exact q p _ ns hp hx hm (by simpa using hlm) hok
end
local macro_rules | `(tactic| walk_at "cs") => `(tactic| ((with_reducible refine' s_law_names ?hv ?hS ?hl ?hr ?q); (case hv => exact rfl); (case hS => walk_at "sq"); (case hl => walk_at "len"); (case hr => assumption); intro p H' ns hp he hm hl hok))
def RSet (o i v : V) (H : Hp) (Q : Hp → Prop) : Prop := rSetL o i v H Q
section
variable {H : Hp} {σ : L2.St} {n b c : L2.St → Hp → Prop} {r : VK} {te to ti : TE} {a : Addr} {x y v : V} {Q : Hp → Prop}
theorem k_asgSub (h : te σ H fun v H1 => to σ H1 fun o H2 => ti σ H2 fun i H3 => RSet o i v H3 (fun H4 => n σ H4)) : tAsg te (gSub to ti rSetL) ⟨n, r, b, c⟩ σ H := h
theorem k_rset0 (h : H a = some (.lst [x, y])) (q : Q (upd H a (.lst [v, y]))) : RSet (.ref a) (.int 0) v H Q := ⟨a, _, 0, 0, rfl, rfl, h, rfl, q⟩
theorem k_rset1 (h : H a = some (.lst [x, y])) (q : Q (upd H a (.lst [x, v]))) : RSet (.ref a) (.int 1) v H Q := ⟨a, _, 1, 1, rfl, rfl, h, rfl, q⟩
end
local macro_rules | `(tactic| walk_at "cs") => `(tactic| ((with_reducible refine' k_asgSub ?q)))
local macro_rules | `(tactic| walk_at "cs") => `(tactic| ((with_reducible refine' o_strI ?h ?q); (case h => assumption)))
local macro_rules | `(tactic| walk_at "cs") => `(tactic| ((with_reducible refine' o_addS ?h ?q); (case h => omega)))
theorem law_ok {w : World} {K : PySem.W.Frag} {mg : Str → Option Value} (T : Txt K w mg) (H : Hp) (a : Addr) (ns : List Int) (hl : ns.length ≤ 63) (hT : H (tabOfC K (codeOfF K (He.ga K ("namer" : Str)))) = some (.tbl #[])) (hS : SqL K H a (ns.map V.int)) : Gam K w 12 .law [.ref a] H (fun v _ => v = .bl true) (fun _ _ _ => False) := by
  haveI := T.k
  have hTT : TabsN (TT K) H := fun p hp => by
    cases List.mem_singleton.mp hp
    exact TabN.nil hT
  refine ⟨rfl, ?_⟩
  unfold rd_law
  refine k_start ?_
  walk_at "go"
  rename_i p0 H0 ds hp0 he0 hm0 hl0 hr0
  have hl0' : ds.length = 4 := hl0
  walk_at "go"
  rename_i pn H1 nl hpn he1 hnm hnl hok ps H2 hps he2 hsm
  have z1 : sv nl 0 ∈ nl := sv_mem (by decide) (by omega)
  have z2 : sv nl (cellv ns 1 % 2) ∈ nl := sv_mem (by omega) (by omega)
  have hz1 := (hok _ z1).2.1
  have hz2 := (hok _ z2).2.1
  generalize sv nl 0 = za at *
  generalize sv nl (cellv ns 1 % 2) = zb at *
  clear z1 z2 hok
  have e02 : Ex H H2 := by walk_at "ex"
  have hS2 : SqL K H2 a (ns.map V.int) := e02.sqL hS
  have hT2 : TabsN (TT K) H2 := hTT.ext e02
  clear he0 he1 he2 hp0 hpn hps hm0 hnm hT hTT hS
  refine s_namer rfl hT2 fun g1 c1 d1 F1 H3 x3 hT3 K1 n1 => ?_
  have hS3 := extN_sqL x3 hS2
  have hsm3 := x3 _ _ hsm (fun ps z => nomatch z)
  walk_at "go"
  refine s_namer rfl hT3 fun g2 c2 d2 F2 H4 x4 hT4 K2 n2 => ?_
  have hS4 := extN_sqL x4 hS3
  have hsm4 := x4 _ _ hsm3 (fun ps z => nomatch z)
  have hdd : d1 ≠ d2 := fun e => by subst e; rw [K1.ct] at n2; cases n2
  have K1 := K1.ext x4
  clear x3 x4 hsm hsm3 hS2 hS3 hT2 hT3 hT4 n1 n2
  walk_at "go"
  rename_i pc H5 hpc he5 hcm pd H6 ds2 hpd he6 hdm hld hrd
  have hld : ds2.length = 40 := hld
  have e1 : ps ≠ pc := ne_of_none hsm4 hpc
  have e2 : pc ≠ pd := ne_of_none hcm hpd
  have k1 := (K1.ex he5).ex he6
  have k2 := (K2.ex he5).ex he6
  have hs6 : H6 ps = some (.lst [.str za, .str zb]) := he6.at (he5.at hsm4)
  have hc6 : H6 pc = some (.lst [.int 0, .int 0]) := he6.at hcm
  have hS6 : SqL K H6 a (ns.map V.int) := he6.sqL (he5.sqL hS4)
  clear K1 K2 hsm4 hS4 hpc he5 hcm hpd he6 hl0 hr0 hl0' hnl e02
  have hb := Int.emod_lt_of_pos (cellv ns 3) (show (0 : Int) < 41 by decide)
  have hb0 := Int.emod_nonneg (cellv ns 3) (show (41 : Int) ≠ 0 by decide)
  refine k_rr1I ⟨hb0, by omega⟩ (fun m σ H' => ∃ (n1 n2 : Int) (u7 u8 u9 : Option V), σ = [some (.ref a), some (.ref pn), some (.ref ps), some (.ref g1), some (.ref g2), some (.ref pc), some (.ref pd), u7, u8, u9] ∧ 0 ≤ n1 ∧ 0 ≤ n2 ∧ n1 + n2 = m ∧ Clo H' g1 F1 c1 d1 za n1 ∧ Clo H' g2 F2 c2 d2 zb n2 ∧
      H' ps = some (.lst [.str za, .str zb]) ∧ H' pc = some (.lst [.int n1, .int n2]) ∧ H' pd = some (.lst (ds2.map V.int)))
    ⟨0, 0, none, none, none, rfl, by decide, by decide, rfl, k1, k2, hs6, hc6, hdm⟩ ?_ ?_
  · clear k1 k2 hs6 hc6 hdm
    rintro m σ H' hm ⟨n1, n2, u7, u8, u9, rfl, h1, h2, h12, k1, k2, hs, hc, hd⟩
    have hm40 : (m : Int) < 40 := by omega
    obtain ⟨a1, a2⟩ := num_okI (n := n1 + 1) (by omega) (by omega)
    obtain ⟨b1, b2⟩ := num_okI (n := n2 + 1) (by omega) (by omega)
    have q1 := k1.nel hs
    have q2 := k1.nel hc
    have q3 := k1.nel hd
    have r1 := k2.nel hs
    have r2 := k2.nel hc
    have r3 := k2.nel hd
    dsimp only [List.set]
    walk_at "go"
    refine k_itd (fun h => ?_) (fun h => ?_)
    · rw [h]
      walk_at "go"
      refine k_callV k1 a1 (by omega) ?_
      walk_at "go"
      refine k_rset0 (by walk_at "hp") ?_
      walk_at "go"
      exact ⟨n1 + 1, n2, _, _, _, rfl, by omega, h2, by omega, k1.own.lst (xs := [.int n1, .int n2]) (by walk_at "hp"), (k2.oth k1.ct hdd.symm).lst (xs := [.int n1, .int n2]) (by walk_at "hp"), by walk_at "hp", upd_same, by walk_at "hp"⟩
    · have h' : cellv ds2 m % 2 = 1 := by omega
      rw [h']
      walk_at "go"
      refine k_callV k2 b1 (by omega) ?_
      walk_at "go"
      refine k_rset1 (by walk_at "hp") ?_
      walk_at "go"
      exact ⟨n1, n2 + 1, _, _, _, rfl, h1, by omega, by omega, (k1.oth k2.ct hdd).lst (xs := [.int n1, .int n2]) (by walk_at "hp"), k2.own.lst (xs := [.int n1, .int n2]) (by walk_at "hp"), by walk_at "hp", upd_same, by walk_at "hp"⟩
  · rintro σ H' ⟨n1, n2, u7, u8, u9, rfl, h1, h2, h12, k1, k2, hs, hc, hd⟩
    obtain ⟨a1, a2⟩ := num_okI (n := n1 + 1) (by omega) (by omega)
    obtain ⟨b1, b2⟩ := num_okI (n := n2 + 1) (by omega) (by omega)
    have q1 := k1.nel hs
    have q2 := k1.nel hc
    have r1 := k2.nel hs
    have r2 := k2.nel hc
    walk_at "go"
    refine k_callV k1 a1 (by omega) ?_
    walk_at "go"
    refine k_callV (k2.oth k1.ct hdd.symm) b1 (by omega) ?_
    walk_at "go"
    simp
end L2.MP

set_option Elab.async false
set_option linter.all false
set_option maxRecDepth 100000
set_option maxHeartbeats 4000000
namespace L2.MP
open PySem PySem.Spec PyProof.Rows
end L2.MP
open PySem PySem.W PySem.Calls PyProof.Rows
set_option maxHeartbeats 0 in
theorem PySem.Challenge.cw_stickymarks_k28_namer_holds : PySem.Challenge.rw_stickymarks_k28_namer.Holds := by
  w_on; o_law
  refine HandSHeadRun.head_any (r := OpenLaw.row PySem.Challenge.rw_stickymarks_k28_namer) (q := view (OpenLaw.row PySem.Challenge.rw_stickymarks_k28_namer).prog [6]) (H := L2.MP.hkM) (ob := L2.MP.obsMTG 6 L2.MP.fnl L2.MP.exb L2.MP.tbs L2.MP.tfl) (M := 20000) (loose := L2.MP.looseN)
    (d := HandSHeadRun.topDef (OpenLaw.row PySem.Challenge.rw_stickymarks_k28_namer).prog 6) (kwd := []) (L2.MP.obsMTG_eq 6 L2.MP.fnl L2.MP.exb L2.MP.tbs L2.MP.tfl)
    (by kernel_rfl) (fun s => by kernel_rfl) L2.MP.run_top (by kernel_rfl) (by kernel_rfl) (by kernel_rfl) (by rfl) (by first | assumption | decide +kernel) (by decide +kernel) ⟨rfl, rfl, rfl, rfl, rfl, by decide +kernel⟩ ?hw ?hc
  case hw => w_witness2
  case hc =>
    refine LamX.walk_ofTsE (l := PySem.Challenge.rw_stickymarks_k28_namer) (n := 63) (k := L2.MP.lev 12) (x := "_law_script") (CX := fun w => L2.CX L2.MP.prog w) rfl (by decide) (by kernel_rfl) ⟨rfl, by decide, by decide⟩ ?F (fun _ _ _ _ _ z => L2.MP.CX_E0 z)
    intro w mg fa h Y G hmg0
    obtain ⟨K, KX, c, tf⟩ := Y
    have tf := tf (fun K => He.ga K ("namer" : PySem.Str)) (by simp [L2.MP.tfl])
    have T := L2.MP.txt_of KX G c
    have hmg : mg ("law" : PySem.Str) = some (.ref fa) := by
      have e : (HandSHeadRun.topDef (OpenLaw.row PySem.Challenge.rw_stickymarks_k28_namer).prog 6).name = ("law" : PySem.Str) := by kernel_rfl
      rw [← e]
      exact hmg0
    have e := hmg.symm.trans T.g_law
    cases e
    exact ⟨K, KX, L2.MP.fdAt K (He.ga K "law"), [(L2.MP.codeOfF K (He.ga K ("namer" : PySem.Str)), L2.MP.tabOfC K (L2.MP.codeOfF K (He.ga K ("namer" : PySem.Str))))], L2.MP.Gam K w 12 .law,
      fun p hp => by cases List.mem_singleton.mp hp; exact tf.empty, fun p hp => by cases List.mem_singleton.mp hp; exact tf.out, fun p hp => by cases List.mem_singleton.mp hp; exact PySem.W.codeHd_of_K KX tf.hd,
      fun s u => L2.FunD.bindsA (ps := ["_law_script"]) T.k.f_law (fun _ _ _ _ _ _ us hl => match us, hl with | [_], _ => rfl) s [u] rfl,
      fun H a ns hl _ hT hS => L2.MP.law_ok T H a ns hl (hT _ (.head _)) hS, fun base _ _ hB => L2.MP.ok_all T (hB _ (.head _)) 12 .law⟩
#print axioms PySem.Challenge.cw_stickymarks_k28_namer_holds

