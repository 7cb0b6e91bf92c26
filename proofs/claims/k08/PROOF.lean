import PyProof.Rows.All
import Wide.All
import OpenK.AllK
import Wide.FinOn
import HandS.ForMost
import HandS.ForExc
import HandS.Flow
import HandS.Defaults
import HandS.MakeKwOnly
import HandS.MakeKw
import HandS.ExcInit
import HandS.ExcField
import HandS.ExcIs
import HandS.IsInst
import HandS.WrittenGet
import HandS.Property
import HandS.OwnEq
import HandS.DictEq
import HandS.DeepEq
import HandS.TupAny
import HandS.CallSlots
import HandS.FStr
import HandS.RaiseMore
import HandS.Codes
import HandS.Deep
import HandS.Rev
import HandS.Head2
import HandS.HeadEnd
import HandS.HeadHook4
import HandS.HeadWalk
import HandS.Style
import HandS.Conv
import HandS.DictComp
import HandS.Strs
import HandS.ReplaceLit
import PySem.Challenge.RW_stickymarks_k08_book_text
set_option Elab.async false
set_option linter.all false
set_option maxRecDepth 100000
set_option maxHeartbeats 4000000
/-! Base rules of our own over the hand layer. -/
namespace L2.MP
open PySem PySem.Spec PyProof.Rows

/-! ### weaker readings -/
section
variable {X : Cx}
theorem wkE {e : Expr} {t t' : TE} (h : PE X e t) (w : ∀ σ H Q, t' σ H Q → t σ H Q) : PE X e t' :=
  ⟨fun pins s σ H Q I q => h.run pins s σ H Q I (w σ H Q q)⟩
theorem wkO {f : Value → Value → Sem Value} {r r' : R2} (h : OpR X f r) (w : ∀ x y H Q, r' x y H Q → r x y H Q) : OpR X f r' :=
  fun pins s σ H x y v u Q I rx ry q => h pins s σ H x y v u Q I rx ry (w x y H Q q)
theorem wkC {f : Value} {r r' : List V → Hp → VK → Prop} (h : CallR X f r) (w : ∀ xs H Q, r' xs H Q → r xs H Q) : CallR X f r' :=
  fun pins s σ H xs us Q I rv q => h pins s σ H xs us Q I rv (w xs H Q q)
theorem orO {f : Value → Value → Sem Value} {r r' : R2} (h : OpR X f r) (h' : OpR X f r') : OpR X f (fun x y H Q => r x y H Q ∨ r' x y H Q) :=
  fun pins s σ H x y v u Q I rx ry q => q.elim (h pins s σ H x y v u Q I rx ry) (h' pins s σ H x y v u Q I rx ry)
end

/-! ### calls whose exceptions are wished for at the slots: made instances, methods, properties -/
section
variable {X : Cx} {CX : CXT} {k n : Nat} {f C p g : Addr} {fd : FuncData} {ps : List Str} {sp : Sp} {dvs : List V} {ds : List Value} {E : St → XK}
variable {x m : Str} {pp pos apos : Pos} {e o : Expr} {es : List Expr} {ta : TE} {t : TA}

/-- what an answer of a callee gives -/
theorem back_of {pins : List (Addr × Obj)} {σ : St} {H : Hp} {s s' : Shared} {Q : VK} {E₁ : XK} {r : Result} (hx : PassesAt CX X σ E₁) (I : Inv X pins σ H s)
    (hq : CR CX X.stack X.prog X.w H s Q E₁ r s') : wants (EP X pins σ Q) X.xe r s' := by
  rcases r with er | fl
  · exact hx pins H s er s' I hq
  · cases fl <;> first | exact I.after hq | exact hq.elim

theorem pe_call0S (F : FnOk X.prog X.w X.K X.mg X.base CX k f fd ps sp) (hr : Room k X.A) (hg : Gl X x) (hm : X.mg x = some (.ref f)) (hk : PySem.W.keepIn X.K (.ref f) = true) (hb : Binds X.K fd ps ds) (hd : Vals dvs ds)
    (hx : ∀ σ, PassesAt CX X σ (E σ)) (hdb : (x == ("__debug__" : Str)) = false := by decide) : PE X (.Call (.Name x pp) [] [] pos) (tCallSD sp dvs E tNil) :=
  ⟨fun pins s σ H Q I h => wpAny_Call_Name_kw (ld_glob I hg hm (PySem.W.callWith_K0 I.kIn hk (run_fnSD (us := []) F hr hb hd (hx σ) I .nil h)) hdb)⟩

/-- C(..), what is raised wished for at the slots -/
def tMakeS (C : Addr) (sp : Sp) (dvs : List V) (E : St → XK) (t : TA) : TE := fun σ H Q => t σ H fun vs H1 => ∀ x dx, H1 x = none → H1 dx = none → dx ≠ x →
  sp (.ref x :: (vs ++ dvs)) (upd (upd H1 dx (.own x)) x (.ins C dx [])) (fun v H2 => v = .non ∧ Q (.ref x) H2) (E σ)
theorem run_mk {pins : List (Addr × Obj)} {σ : St} {H : Hp} {s : Shared} {Q : VK} {us : List Value} {kws : List (Str × Value)} {ws : List Value} {vs : List V} {E₁ : XK} (M : Mk X.K C f) (F : FnOk X.prog X.w X.K X.mg X.base CX k f fd ps sp) (hr : Room (k + 1) X.A)
    (hx : PassesAt CX X σ E₁) (I : Inv X pins σ H s)
    (hb : ∀ (s' : Shared) (a : Addr), X.K.In s'.heap → BindsTo s' fd ⟨.ref a :: us, kws⟩ (ps.zip (ws.set 0 (.ref a)))) (rv : ∀ a, Vals (vs.set 0 (.ref a)) (ws.set 0 (.ref a)))
    (h : ∀ x dx, H x = none → H dx = none → dx ≠ x → sp (vs.set 0 (.ref x)) (upd (upd H dx (.own x)) x (.ins C dx [])) (fun v H2 => v = .non ∧ Q (.ref x) H2) E₁) :
    wpAny (model X.prog X.w) X.A (call (.ref C) us kws) (EP X pins σ Q) X.xe s := by
  have J := Inv.made (C := C) I
  have hq := h (s.heap.objs.size + 1) s.heap.objs.size (I.hok.fresh (Nat.le_succ _)) (I.hok.fresh (Nat.le_refl _)) (Nat.ne_of_lt (Nat.lt_succ_self _))
  refine wpAny_call (make_map (f := f) I.kIn M.makes M.init (beq_iff_eq.mp M.fn) ?_)
  refine codeAny_mono (F.run _ X.stack _ _ _ _ _ _ _ (hr.make C us kws) (J.env0.make C us kws) (hb _ _ J.kIn) (rv _) hq) fun r s' hr' => ?_
  rcases r with er | fl
  · exact hx pins _ _ er s' J hr'
  · cases fl with
    | ret u =>
      obtain ⟨v, H', I3, rv, ev, q3⟩ := J.after hr'
      subst ev
      exact ⟨rv, .ref (s.heap.objs.size + 1), H', I3, rfl, q3⟩
    | _ => exact hr'.elim
theorem mk_binds {us : List Value} (hb : Binds X.K fd ps ds) (hl : us.length + 1 + ds.length = ps.length) (s' : Shared) (a : Addr) (hk : X.K.In s'.heap) :
    BindsTo s' fd ⟨.ref a :: us, []⟩ (ps.zip ((Value.none :: (us ++ ds)).set 0 (.ref a))) :=
  hb s' (.ref a :: us) hk (by simpa [Nat.add_right_comm] using hl)
theorem mk_len {H : Hp} {Q : VK} {E₁ : XK} {us : List Value} {vs : List V} (F : FnOk X.prog X.w X.K X.mg X.base CX k f fd ps sp) (r : Vals vs us) (hd : Vals dvs ds) {a : Addr} (h : sp (.ref a :: (vs ++ dvs)) H Q E₁) : us.length + 1 + ds.length = ps.length := by
  have := F.len _ _ _ _ h
  have l1 := r.length
  have l2 := hd.length
  simp at this
  omega
theorem run_mkP {pins : List (Addr × Obj)} {σ : St} {H : Hp} {s : Shared} {Q : VK} {us : List Value} {vs : List V} (M : Mk X.K C f) (F : FnOk X.prog X.w X.K X.mg X.base CX k f fd ps sp) (hr : Room (k + 1) X.A) (hb : Binds X.K fd ps ds) (hd : Vals dvs ds)
    (hx : PassesAt CX X σ (E σ)) (I : Inv X pins σ H s) (r : Vals vs us)
    (h : ∀ x dx, H x = none → H dx = none → dx ≠ x → sp (.ref x :: (vs ++ dvs)) (upd (upd H dx (.own x)) x (.ins C dx [])) (fun v H2 => v = .non ∧ Q (.ref x) H2) (E σ)) :
    wpAny (model X.prog X.w) X.A (call (.ref C) us) (EP X pins σ Q) X.xe s := by
  have hl := mk_len F r hd (h (s.heap.objs.size + 1) s.heap.objs.size (I.hok.fresh (Nat.le_succ _)) (I.hok.fresh (Nat.le_refl _)) (Nat.ne_of_lt (Nat.lt_succ_self _)))
  exact run_mk (kws := []) (ws := Value.none :: (us ++ ds)) (vs := V.non :: (vs ++ dvs)) M F hr hx I (mk_binds hb hl) (fun a => .cons rfl (r.append hd)) h
theorem pe_makeS (M : Mk X.K C f) (F : FnOk X.prog X.w X.K X.mg X.base CX k f fd ps sp) (hr : Room (k + 1) X.A) (hg : Gl X x) (hm : X.mg x = some (.ref C)) (hb : Binds X.K fd ps ds) (hd : Vals dvs ds) (hx : ∀ σ, PassesAt CX X σ (E σ))
    (ha : PA X (e :: es) t) (hdb : (x == ("__debug__" : Str)) = false := by decide) (he : starEach (e :: es) X.env = (false, eval e X.env) :: starEach es X.env := by rfl) (hpl : (backTo pos (starEach es X.env)).any (·.1) = false := by rfl) :
    PE X (.Call (.Name x pp) (e :: es) [] pos) (tMakeS C sp dvs E t) :=
  ⟨fun pins s σ H Q I h => wpAny_Call_Name_kw (ld_glob I hg hm (PySem.W.callWith_K (h₀ := X.base) I.ok.mod.kin M.kp
    (thn (ha.run pos pins s σ H _ I h) fun us s1 ⟨vs, H1, I1, r, q⟩ => ⟨I1.kIn, run_mkP M F hr hb hd (hx σ) I1 r q⟩) he hpl) hdb)⟩
theorem pe_make0S (M : Mk X.K C f) (F : FnOk X.prog X.w X.K X.mg X.base CX k f fd ps sp) (hr : Room (k + 1) X.A) (hg : Gl X x) (hm : X.mg x = some (.ref C)) (hb : Binds X.K fd ps ds) (hd : Vals dvs ds) (hx : ∀ σ, PassesAt CX X σ (E σ))
    (hdb : (x == ("__debug__" : Str)) = false := by decide) : PE X (.Call (.Name x pp) [] [] pos) (tMakeS C sp dvs E tNil) :=
  ⟨fun pins s σ H Q I h => wpAny_Call_Name_kw (ld_glob I hg hm (PySem.W.callWith_K0 I.kIn M.kp (run_mkP (us := []) M F hr hb hd (hx σ) I .nil h)) hdb)⟩

/-- C(k = v, ..): keywords alone -/
def tMakeKS (C : Addr) (m : Nat) (sp : Sp) (gV : List V → List V → List V) (E : St → XK) (tk : TA) : TE := fun σ H Q => tk σ H fun zs H1 => zs.length = m ∧ ∀ x dx, H1 x = none → H1 dx = none → dx ≠ x →
  sp (gV [.ref x] zs) (upd (upd H1 dx (.own x)) x (.ins C dx [])) (fun v H2 => v = .non ∧ Q (.ref x) H2) (E σ)
theorem run_mkK {ks : List Str} {G : List Value → List Value → List Value} {gV : List V → List V → List V} {pins : List (Addr × Obj)} {σ : St} {H : Hp} {s : Shared} {Q : VK} {ws : List Value} {zs : List V} (M : Mk X.K C f)
    (F : FnOk X.prog X.w X.K X.mg X.base CX k f fd ps sp) (hr : Room (k + 1) X.A) (hb : KBn X.K fd ps 1 ks G gV) (hx : PassesAt CX X σ (E σ)) (I : Inv X pins σ H s) (rz : Vals zs ws) (l2 : zs.length = ks.length)
    (h : ∀ x dx, H x = none → H dx = none → dx ≠ x → sp (gV [.ref x] zs) (upd (upd H dx (.own x)) x (.ins C dx [])) (fun v H2 => v = .non ∧ Q (.ref x) H2) (E σ)) :
    wpAny (model X.prog X.w) X.A (call (.ref C) [] (ks.zip ws)) (EP X pins σ Q) X.xe s := by
  have J := Inv.made (C := C) I
  have hq := h (s.heap.objs.size + 1) s.heap.objs.size (I.hok.fresh (Nat.le_succ _)) (I.hok.fresh (Nat.le_refl _)) (Nat.ne_of_lt (Nat.lt_succ_self _))
  have rv := hb.rel (vs := [V.ref (s.heap.objs.size + 1)]) (us := [Value.ref (s.heap.objs.size + 1)]) (.cons rfl .nil) rz
  refine wpAny_call (make_map (f := f) I.kIn M.makes M.init (beq_iff_eq.mp M.fn) ?_)
  refine codeAny_mono (F.run _ X.stack _ _ _ _ _ _ _ (hr.make C [] (ks.zip ws)) (J.env0.make C [] (ks.zip ws)) (hb.to _ _ ws J.kIn rfl (rz.length.symm.trans l2)) rv hq) fun r s' hr' => ?_
  rcases r with er | fl
  · exact hx pins _ _ er s' J hr'
  · cases fl with
    | ret u =>
      obtain ⟨v, H', I3, rv, ev, q3⟩ := J.after hr'
      subst ev
      exact ⟨rv, .ref (s.heap.objs.size + 1), H', I3, rfl, q3⟩
    | _ => exact hr'.elim
theorem pe_makeKS {ks : List Str} {G : List Value → List Value → List Value} {gV : List V → List V → List V} {kws : List Keyword} {tk : TA} (M : Mk X.K C f) (F : FnOk X.prog X.w X.K X.mg X.base CX k f fd ps sp) (hr : Room (k + 1) X.A) (hg : Gl X x) (hm : X.mg x = some (.ref C))
    (hb : KBn X.K fd ps 1 ks G gV) (hx : ∀ σ, PassesAt CX X σ (E σ)) (hkw : PK X kws tk)
    (hall : (backToKw pos (keywordEach kws X.env)).all (·.1.isSome) = true := by rfl) (hks : (backToKw pos (keywordEach kws X.env)).filterMap (·.1) = ks := by rfl) (hdb : (x == ("__debug__" : Str)) = false := by decide)
    (hpl : ((backTo pos (starEach [] X.env)).any (·.1) || (backToKw pos (keywordEach kws X.env)).any (·.1.isNone)) = false := by rfl) :
    PE X (.Call (.Name x pp) [] kws pos) (tMakeKS C ks.length sp gV E tk) :=
  ⟨fun pins s σ H Q I h => wpAny_Call_Name_kw (ld_glob I hg hm (PySem.W.callWith_KW0 (h₀ := X.base) I.ok.mod.kin M.kp hall
    (thn (hkw.run pos pins s σ H _ I h) fun ws s2 ⟨zs, H2, I2, rz, l2, q2⟩ => ⟨I2.kIn, hks ▸ run_mkK M F hr hb (hx σ) I2 rz l2 q2⟩) hpl) hdb)⟩

/-- o.m(..) of an instance of the class at C -/
def tMethS (C : Addr) (m : Str) (sp : Sp) (dvs : List V) (E : St → XK) (ta : TE) (t : TA) : TE := fun σ H Q => ta σ H fun x H1 => ∃ a dx fs, x = .ref a ∧ H1 a = some (.ins C dx fs) ∧ fs.lookup m = none ∧
  t σ H1 fun vs H2 => sp (x :: (vs ++ dvs)) H2 Q (E σ)
theorem pe_methS {pl : Sem Bool} (he : PE X o ta) (c : Cls X.K C) (hm : Meth X.K C m f) (F : FnOk X.prog X.w X.K X.mg X.base CX k f fd ps sp) (hr : Room k X.A) (hb : Binds X.K fd ps ds) (hd : Vals dvs ds) (hx : ∀ σ, PassesAt CX X σ (E σ)) (ha : PA X (e :: es) t)
    (hst : starEach (e :: es) X.env = (false, eval e X.env) :: starEach es X.env := by rfl) (hpl : (backTo pos (starEach es X.env)).any (·.1) = false := by rfl)
    (ht : eval (.Call (.Attribute o m apos) (e :: es) [] pos) X.env = (eval o X.env >>= fun ov => standAt apos.atName >>= fun _ => holding [ov] (getMethod ov m pl) >>= fun z =>
      callWith pos z.1 z.2 (backTo pos (starEach (e :: es) X.env)) (backToKw pos (keywordEach [] X.env))) := by rfl) :
    PE X (.Call (.Attribute o m apos) (e :: es) [] pos) (tMethS C m sp dvs E ta t) := by
  refine ⟨fun pins s σ H Q I h => PySem.W.methodCall_KW (pl := pl) (thn (he.run pins s σ H _ I h) ?_) ht⟩
  rintro u s1 ⟨x, H1, I1, rx, a, dx, fs, rfl, ea, l, q⟩
  obtain rfl : u = Value.ref a := rx
  exact getmeth_ok I1 ea c hm l (PySem.W.callWith_K (first := [.ref a]) (h₀ := X.base) I.ok.mod.kin hm.kp
    (thn (ha.run pos pins s1 σ H1 _ I1 q) fun us s2 ⟨vs, H2, I2, r, q2⟩ => ⟨I2.kIn, run_fnSD (us := .ref a :: us) (vs := .ref a :: vs) F hr hb hd (hx σ) I2 (.cons rfl r) q2⟩) hst hpl)
theorem pe_meth0S {pl : Sem Bool} (he : PE X o ta) (c : Cls X.K C) (hm : Meth X.K C m f) (F : FnOk X.prog X.w X.K X.mg X.base CX k f fd ps sp) (hr : Room k X.A) (hb : Binds X.K fd ps ds) (hd : Vals dvs ds) (hx : ∀ σ, PassesAt CX X σ (E σ))
    (ht : eval (.Call (.Attribute o m apos) [] [] pos) X.env = (eval o X.env >>= fun ov => standAt apos.atName >>= fun _ => holding [ov] (getMethod ov m pl) >>= fun z =>
      callWith pos z.1 z.2 (backTo pos (starEach [] X.env)) (backToKw pos (keywordEach [] X.env))) := by rfl) :
    PE X (.Call (.Attribute o m apos) [] [] pos) (tMethS C m sp dvs E ta tNil) := by
  refine ⟨fun pins s σ H Q I h => PySem.W.methodCall_KW (pl := pl) (thn (he.run pins s σ H _ I h) ?_) ht⟩
  rintro u s1 ⟨x, H1, I1, rx, a, dx, fs, rfl, ea, l, q⟩
  obtain rfl : u = Value.ref a := rx
  exact getmeth_ok I1 ea c hm l (PySem.W.callWith_K0 (first := [.ref a]) I1.kIn hm.kp (run_fnSD (us := [.ref a]) (vs := [.ref a]) F hr hb hd (hx σ) I1 (.cons rfl .nil) q))
end

/-! ### operators and comparisons that an own class defines (nothing is raised) -/
section
variable {X : Cx} {k : Nat} {f C a dx : Addr} {fd : FuncData} {ps : List Str} {sp : Sp} {fs : List (Str × V)}
/-- the special method m of the class at C is the def at f -/
structure Spc (K : PySem.W.Frag) (C : Addr) (m : Str) (f : Addr) : Prop where
  at_ : PySem.W.findIn K (.ref C) m = some (some (.ref f))
  fn : PySem.W.isFn K (.ref f) = true
theorem cmpBack {v : V} {u : Value} {s : Shared} {Q : Value → Shared → Prop} (r : RelV v u) (q : Q u s) : PySem.W.CmpBack Q u s := by
  cases v <;> first
    | (obtain ⟨t, rfl⟩ := r; exact q)
    | (cases r; exact q)
theorem inst_of {pins : List (Addr × Obj)} {σ : St} {H : Hp} {s : Shared} (I : Inv X pins σ H s) (e : H a = some (.ins C dx fs)) : ∃ od, PySem.W.InstAt s.heap a (PySem.W.instObj C dx) C (some od) := by
  obtain ⟨mA, O, _⟩ := ins_get I.hok e
  obtain ⟨od, J, _⟩ := O.look
  exact ⟨od, J⟩
/-- both of the class at C -/
def rOwn (C : Addr) (sp : Sp) : R2 := fun x y H Q => ∃ a dx fs b dy gs, x = .ref a ∧ y = .ref b ∧ H a = some (.ins C dx fs) ∧ H b = some (.ins C dy gs) ∧ sp [.ref a, .ref b] H Q E0
/-- the left one of the class at C, the right one an int -/
def rOwnI (C : Addr) (sp : Sp) : R2 := fun x y H Q => ∃ a dx fs i, x = .ref a ∧ y = .int i ∧ H a = some (.ins C dx fs) ∧ sp [.ref a, .int i] H Q E0
/-- the left one of the class at C, the right one anything -/
def rOwnA (C : Addr) (sp : Sp) : R2 := fun x y H Q => ∃ a dx fs, x = .ref a ∧ H a = some (.ins C dx fs) ∧ sp [.ref a, y] H Q E0
theorem op_own {op : Operator} (F : FnOk X.prog X.w X.K X.mg X.base (L2.CX X.prog X.w) k f fd ps sp) (hr : Room k X.A) (hb : Binds X.K fd ps []) (hc : PySem.W.selfFirst X.K C = true) (hs : Spc X.K C (PySem.dunder op.info.2) f) : OpR X (binaryOp op) (rOwn C sp) := by
  rintro pins s σ H x y v u Q I rx ry ⟨a, dx, fs, b, dy, gs, rfl, rfl, ha, hbb, q⟩
  cases rx
  cases ry
  obtain ⟨od, J⟩ := inst_of I ha
  obtain ⟨od2, J2⟩ := inst_of I hbb
  obtain ⟨m, fr⟩ := I.fr
  refine PySem.W.binop_K fr I.mod.kin J J2.type hc hs.at_ hs.fn (thn (run_fn (us := [.ref a, .ref b]) (vs := [.ref a, .ref b]) (dvs := []) F hr hb .nil passL I (.cons rfl (.cons rfl .nil)) q) ?_)
  rintro u s1 ⟨w, H1, I1, rw', q1⟩
  exact cmpBack rw' ⟨w, H1, I1, rw', q1⟩
theorem op_ownI {op : Operator} {fo ro rc : Option Value} (F : FnOk X.prog X.w X.K X.mg X.base (L2.CX X.prog X.w) k f fd ps sp) (hr : Room k X.A) (hb : Binds X.K fd ps []) (hc : PySem.W.selfFirst X.K C = true) (hs : Spc X.K C (PySem.dunder op.info.2) f)
    (hrf : PySem.W.findIn X.K (.ref C) (PySem.dunderR op.info.2) = some rc) (hp : rc = none ∨ ∃ g : Addr, rc = some (.ref g)) (h1 : PySem.W.findIn X.K (.type "int") (PySem.dunder op.info.2) = some fo)
    (h2 : PySem.W.findIn X.K (.type "int") (PySem.dunderR op.info.2) = some ro) (hsub : PySem.W.subIn X.K (.type "int") (.ref C) = some false) : OpR X (binaryOp op) (rOwnI C sp) := by
  rintro pins s σ H x y v u Q I rx ry ⟨a, dx, fs, i, rfl, rfl, ha, q⟩
  cases rx
  obtain ⟨t, rfl⟩ := ry
  obtain ⟨od, J⟩ := inst_of I ha
  obtain ⟨m, fr⟩ := I.fr
  refine PySem.W.ksp_binT (T := "int") fr I.mod.kin J rfl hc hs.at_ hs.fn hrf hp h1 h2 hsub (thn (run_fn (us := [.ref a, .int i t]) (vs := [.ref a, .int i]) (dvs := []) F hr hb .nil passL I (.cons rfl (.cons ⟨t, rfl⟩ .nil)) q) ?_)
  rintro u s1 ⟨w, H1, I1, rw', q1⟩
  exact cmpBack rw' ⟨w, H1, I1, rw', q1⟩
theorem iop_own {op : Operator} (F : FnOk X.prog X.w X.K X.mg X.base (L2.CX X.prog X.w) k f fd ps sp) (hr : Room k X.A) (hb : Binds X.K fd ps []) (hc : PySem.W.selfFirst X.K C = true) (hs : Spc X.K C (PySem.dunderI op.info.2) f) : OpR X (inplaceOp op) (rOwnA C sp) := by
  rintro pins s σ H x y v u Q I rx ry ⟨a, dx, fs, rfl, ha, q⟩
  cases rx
  obtain ⟨od, J⟩ := inst_of I ha
  obtain ⟨m, fr⟩ := I.fr
  refine PySem.W.ksp_inplace fr I.mod.kin J hc hs.at_ hs.fn (thn (run_fn (us := [.ref a, u]) (vs := [.ref a, y]) (dvs := []) F hr hb .nil passL I (.cons rfl (.cons ry .nil)) q) ?_)
  rintro u s1 ⟨w, H1, I1, rw', q1⟩
  exact cmpBack rw' ⟨w, H1, I1, rw', q1⟩
theorem rc_own {op : CmpOp} (F : FnOk X.prog X.w X.K X.mg X.base (L2.CX X.prog X.w) k f fd ps sp) (hr : Room k X.A) (hb : Binds X.K fd ps []) (hn : PySem.W.notFirst X.K C (.ref C) = true) (hs : Spc X.K C (cmpInfo op).2.1 f) : OpR X (richCompare op) (rOwn C sp) := by
  rintro pins s σ H x y v u Q I rx ry ⟨a, dx, fs, b, dy, gs, rfl, rfl, ha, hbb, q⟩
  cases rx
  cases ry
  obtain ⟨od, J⟩ := inst_of I ha
  obtain ⟨od2, J2⟩ := inst_of I hbb
  obtain ⟨m, fr⟩ := I.fr
  refine PySem.W.cmp_K hr.units0 fr I.mod.kin J J2.type hn hs.at_ hs.fn (thn (run_fn (us := [.ref a, .ref b]) (vs := [.ref a, .ref b]) (dvs := []) F hr hb .nil passL I (.cons rfl (.cons rfl .nil)) q) ?_)
  rintro u s1 ⟨w, H1, I1, rw', q1⟩
  exact cmpBack rw' ⟨w, H1, I1, rw', q1⟩

/-- o[i] by an own __getitem__ -/
def tOwnIx (C : Addr) (sp : Sp) (E : St → XK) (ta tb : TE) : TE := fun σ H Q => ta σ H fun x H1 => tb σ H1 fun y H2 => ∃ a dx fs, x = .ref a ∧ H2 a = some (.ins C dx fs) ∧ sp [.ref a, y] H2 Q (E σ)
/-- o[i] = v by an own __setitem__ -/
def sOwnPut (C : Addr) (sp : Sp) (E : St → XK) (to ti tv : TE) : TS := fun D σ H => tv σ H fun v H1 => to σ H1 fun x H2 => ti σ H2 fun y H3 => ∃ a dx fs, x = .ref a ∧ H3 a = some (.ins C dx fs) ∧ sp [.ref a, y, v] H3 (fun _ H4 => D.nx σ H4) (E σ)
end
section
variable {X : Cx} {CX : CXT} {k : Nat} {f C : Addr} {fd : FuncData} {ps : List Str} {sp : Sp} {E : St → XK} {o i value : Expr} {to ti tv : TE} {pos pos' : Pos}
theorem pe_ownIx (F : FnOk X.prog X.w X.K X.mg X.base CX k f fd ps sp) (hr : Room (k + 1) X.A) (hb : Binds X.K fd ps []) (hx : ∀ σ, PassesAt CX X σ (E σ)) (hs : Spc X.K C "__getitem__" f) (hf : PySem.W.fnIn X.K f = true) (ho : PE X o to) (hi : PE X i ti)
    (hsl : ∀ x v, subscripted i true (.ref x) v = runValue (.builtin "lifetime.subscript" ⟨[.ref x, v], []⟩) := by intro _ _; rfl) : PE X (.Subscript o i pos) (tOwnIx C sp E to ti) := by
  refine ⟨fun pins s σ H Q I h => Subscript_ (binT ho hi I h ?_)⟩
  rintro v u s2 x y H2 I2 rx ry ⟨a, dx, fs, rfl, ha, q⟩
  cases rx
  obtain ⟨od, J⟩ := inst_of I2 ha
  obtain ⟨m, fr⟩ := I2.fr
  refine PySem.W.sub_K fr I2.mod.kin J hs.at_ hf hs.fn ?_ (hsl a u)
  have rv : Vals [V.ref a, y] [Value.ref a, u] := .cons rfl (.cons ry .nil)
  refine wpAny_call (codeAny_mono (F.run X.A.in1 X.stack s2 H2 ⟨[.ref a, u], []⟩ [.ref a, u] [.ref a, y] Q (E σ) hr.in1 I2.env0.in1 (hb s2 [.ref a, u] I2.kIn ?_) rv q) fun r s' hq => back_of (hx σ) I2 hq)
  exact (F.len _ _ _ _ q)
theorem ps_ownPut (F : FnOk X.prog X.w X.K X.mg X.base CX k f fd ps sp) (hr : Room k X.A) (hb : Binds X.K fd ps []) (hx : ∀ σ, PassesAt CX X σ (E σ)) (hs : Spc X.K C "__setitem__" f) (hq : PySem.W.noSeq X.K C = true) (ho : PE X o to) (hi : PE X i ti) (hv : PE X value tv)
    (hsw : swapsWith value (some (.Subscript o i pos')) pos.line X.env = pure false) : PS X (.Assign [.Subscript o i pos'] value pos) (sOwnPut C sp E to ti tv) := by
  refine ⟨fun pins s σ H D I h => wpAny_Assign_Subscript (thn (hv.run pins s σ H _ I h) ?_) hsw⟩
  rintro r s1 ⟨v, H1, I1, rv, q1⟩
  refine thn (ho.run pins s1 σ H1 _ I1 q1) ?_
  rintro u s2 ⟨x, H2, I2, rx, q2⟩
  refine thn (hi.run pins s2 σ H2 _ I2 q2) ?_
  rintro iv s3 ⟨y, H3, I3, ry, a, dx, fs, rfl, ha, q3⟩
  cases rx
  obtain ⟨od, J⟩ := inst_of I3 ha
  obtain ⟨m, fr⟩ := I3.fr
  refine PySem.W.ksp_setItem fr I3.mod.kin J hq hs.at_ hs.fn ?_
  refine thn (run_fnSD (us := [.ref a, iv, r]) (vs := [.ref a, y, v]) (dvs := []) (E := E) F hr hb .nil (hx σ) I3 (.cons rfl (.cons ry (.cons rv .nil))) q3) ?_
  rintro _ s4 ⟨w, H4, I4, _, q4⟩
  exact ⟨σ, H4, I4, q4⟩
end
end L2.MP

set_option Elab.async false
set_option linter.all false
set_option maxRecDepth 100000
set_option maxHeartbeats 4000000
/-! The head: defs at any address that the written part tells, one Bool for all other facts, tables. -/
namespace L2.MP
open PySem PySem.Spec PyProof.Rows
/-- a def by the address that the written part gives it -/
structure DefM where
  adr : PySem.W.Frag → Addr
  name : Str
  qual : Str
  st : Stmt
  dfl : List He.Dv := []
  kwd : List (Str × He.Dv) := []
  fr : List Str := []
def dBody (s : Stmt) : List Stmt := defBody s
/-- a def's text; of its closure the names alone -/
abbrev FnV : Type := Option (Str × Str × Arguments × FuncBody × Scope × Addr × List Str × Addr)
def fnAt (K : PySem.W.Frag) (a : Addr) : FnV := match K.lookup a with
  | some ⟨_, _, .func fd, _⟩ => some (fd.name, fd.qualname, fd.params, fd.body, fd.scope, fd.globals, fd.closure.map (·.1), fd.builtins)
  | _ => none
def fdAt (K : PySem.W.Frag) (a : Addr) : FuncData := match K.lookup a with
  | some ⟨_, _, .func fd, _⟩ => fd
  | _ => PySem.W.fnOf "" "" (defArgs (.Pass ⟨0, 0, 0, 0⟩)) [] (defScope (.Pass ⟨0, 0, 0, 0⟩)) .none .none .none .none none .none .none
def DefM.val (d : DefM) : FnV := some (d.name, d.qual, defArgs d.st, .stmts (defBody d.st), defScope d.st, mainGlobals, d.fr, builtinsNs)
def DefM.dvs (K : PySem.W.Frag) (d : DefM) : List V := d.dfl.map (He.Dv.v K)
def DefM.kws (K : PySem.W.Frag) (d : DefM) : List (Str × V) := d.kwd.map fun q => (q.1, q.2.v K)
def DefM.ok (K : PySem.W.Frag) (d : DefM) : Bool := PySem.W.keepIn K (.ref (d.adr K)) && (match K.lookup (d.adr K) with
  | some ⟨_, _, .func fd, _⟩ => PySem.W.codeIn K fd.code d.qual && (He.dflB K fd.defaults (d.dvs K) && He.kwdB K fd.kwdefaults (d.kws K))
  | _ => false)
/-- a def of the text as it stands behind the top -/
abbrev FunM (K : PySem.W.Frag) (d : DefM) : Prop := FunD K d.name d.qual (defArgs d.st) (defBody d.st) (defScope d.st) (d.dvs K) (d.kws K) (d.adr K) (fdAt K (d.adr K))
theorem DefM.fun {K : PySem.W.Frag} {d : DefM} (hfr : d.fr = []) (e : fnAt K (d.adr K) = d.val) (c : d.ok K = true) : FunM K d := by
  obtain ⟨kp, c2⟩ := He.ba c
  revert e c2
  unfold FunM fnAt fdAt
  cases q : K.lookup (d.adr K) with
  | none => intro _ c2; cases c2
  | some o =>
    rcases o with ⟨oc, od, dt, osl⟩
    cases dt with
    | func fd =>
      rcases fd with ⟨n1, n2, n3, n4, n5, n6, n7, n8, n9, n10, n11, n12, n13, n14, n15⟩
      intro e c2
      have e2 : (some (n1, n2, n3, n4, n5, n6, n7.map (·.1), n15) : FnV) = some (d.name, d.qual, defArgs d.st, .stmts (defBody d.st), defScope d.st, mainGlobals, d.fr, builtinsNs) := e
      simp only [Option.some.injEq, Prod.mk.injEq] at e2
      rcases e2 with ⟨h1, h2, h3, h4, h5, h6, h7, h8⟩
      rw [hfr, List.map_eq_nil_iff] at h7
      subst h1 h2 h3 h4 h5 h6 h7 h8
      obtain ⟨k1, k2⟩ := He.ba c2
      obtain ⟨k3, k4⟩ := He.ba k2
      exact ⟨⟨oc, od, n8, n9, n10, n11, n12, n13, n14, osl, rfl, q, k1, He.dflB_ok k3, He.kwdB_ok k4⟩, kp⟩
    | _ => intro _ c2; cases c2
/-- a def that captures __class__ -/
structure FunC (K : PySem.W.Frag) (x qual : Str) (params : Arguments) (body : List Stmt) (scope : Scope) (f : Addr) (fd : FuncData) (c cc : Addr) : Prop where
  ex : ∃ (oc : Value) (od : Option Addr) (kV doc pm : Value) (an : Option Addr) (ct : Value) (osl : Array (Option Value)),
    fd = PySem.W.fnX x qual params body scope [("__class__", cc)] .none kV doc pm an (.ref c) ct ∧ K.lookup f = some ⟨oc, od, .func fd, osl⟩
  cd : PySem.W.codeIn K (.ref c) qual = true
  kp : PySem.W.keepIn K (.ref f) = true
def ccAt (K : PySem.W.Frag) (a : Addr) : Addr := match K.lookup a with
  | some ⟨_, _, .func fd, _⟩ => (match fd.closure with | (_, c) :: _ => c | _ => 0)
  | _ => 0
def cdAt (K : PySem.W.Frag) (a : Addr) : Addr := match K.lookup a with
  | some ⟨_, _, .func fd, _⟩ => (match fd.code with | .ref c => c | _ => 0)
  | _ => 0
abbrev FunMC (K : PySem.W.Frag) (d : DefM) : Prop := FunC K d.name d.qual (defArgs d.st) (defBody d.st) (defScope d.st) (d.adr K) (fdAt K (d.adr K)) (cdAt K (d.adr K)) (ccAt K (d.adr K))
theorem DefM.funC {K : PySem.W.Frag} {d : DefM} (hfr : d.fr = [("__class__" : Str)]) (hdf : d.dfl = []) (e : fnAt K (d.adr K) = d.val) (c : d.ok K = true) : FunMC K d := by
  obtain ⟨kp, c2⟩ := He.ba c
  revert e c2
  unfold FunMC fnAt fdAt ccAt cdAt
  cases q : K.lookup (d.adr K) with
  | none => intro _ c2; cases c2
  | some o =>
    rcases o with ⟨oc, od, dt, osl⟩
    cases dt with
    | func fd =>
      rcases fd with ⟨n1, n2, n3, n4, n5, n6, n7, n8, n9, n10, n11, n12, n13, n14, n15⟩
      intro e c2
      have e2 : (some (n1, n2, n3, n4, n5, n6, n7.map (·.1), n15) : FnV) = some (d.name, d.qual, defArgs d.st, .stmts (defBody d.st), defScope d.st, mainGlobals, d.fr, builtinsNs) := e
      simp only [Option.some.injEq, Prod.mk.injEq] at e2
      rcases e2 with ⟨h1, h2, h3, h4, h5, h6, h7, h8⟩
      rw [hfr] at h7
      obtain ⟨cc, rfl⟩ : ∃ cc : Addr, n7 = [(("__class__" : Str), cc)] := by
        rcases n7 with _ | ⟨⟨y, cc⟩, _ | ⟨z, r⟩⟩
        · cases h7
        · simp at h7
          exact ⟨cc, by rw [h7]⟩
        · simp at h7
      subst h1 h2 h3 h4 h5 h6 h8
      obtain ⟨k1, k2⟩ := He.ba c2
      obtain ⟨k3, k4⟩ := He.ba k2
      have k5 := He.dflB_ok k3
      rw [show d.dvs K = [] by unfold DefM.dvs; rw [hdf]; rfl] at k5
      have k6 : n8 = .none := by
        rcases k5 with ⟨_, z⟩ | ⟨z, _⟩
        · exact z
        · exact absurd rfl z
      obtain ⟨c1, rfl⟩ : ∃ c1, n13 = .ref c1 := by
        cases n13 with
        | ref c1 => exact ⟨c1, rfl⟩
        | _ => cases k1
      exact ⟨⟨oc, od, n9, n10, n11, n12, n14, osl, by rw [k6], q⟩, k1, kp⟩
    | _ => intro _ c2; cases c2
/-- the getter of the property m of the class named x -/
def pgA (x m : Str) (K : PySem.W.Frag) : Addr := match PySem.W.recIn K (He.ma K (He.ga K x) m) "property" with
  | some (.ref g :: _) => g
  | _ => 0
def propB (x m : Str) (K : PySem.W.Frag) : Bool := He.eqO (PySem.W.findIn K (.ref (He.ga K x)) m) (some (some (.ref (He.ma K (He.ga K x) m)))) &&
  (He.eqO (PySem.W.specialIn K (.ref (He.ma K (He.ga K x) m)) "__get__") (some (some (.builtin "property.__get__"))) && (decide (PySem.W.takesIn K (.ref (He.ma K (He.ga K x) m)) = some true) &&
    (match PySem.W.recIn K (He.ma K (He.ga K x) m) "property" with
    | some (.ref _ :: _) => true
    | _ => false)))
theorem propB_ok {x m : Str} {K : PySem.W.Frag} (h : propB x m K = true) : PropOf K (He.ga K x) m (He.ma K (He.ga K x) m) (pgA x m K) := by
  obtain ⟨h1, h⟩ := He.ba h
  obtain ⟨h2, h⟩ := He.ba h
  obtain ⟨h3, h4⟩ := He.ba h
  refine ⟨He.eqO_ok h1, He.eqO_ok h2, of_decide_eq_true h3, ?_⟩
  unfold pgA
  split at h4
  · rename_i g rest q
    rw [q]
    exact ⟨rest, rfl⟩
  · cases h4
def spcB (x m : Str) (K : PySem.W.Frag) : Bool := He.eqO (PySem.W.findIn K (.ref (He.ga K x)) m) (some (some (.ref (He.ma K (He.ga K x) m)))) && PySem.W.isFn K (.ref (He.ma K (He.ga K x) m))
theorem spcB_ok {x m : Str} {K : PySem.W.Frag} (h : spcB x m K = true) : Spc K (He.ga K x) m (He.ma K (He.ga K x) m) := by
  obtain ⟨h1, h2⟩ := He.ba h
  exact ⟨He.eqO_ok h1, h2⟩
/-- the Hook: all defs' texts, one Bool, tables with text keys -/
abbrev AlM : Type := List FnV × Bool × List (Option (List (Option (Str × Int))))
def obsM (fn : List DefM) (ex : PySem.W.Frag → Bool) (ts : List He.Tab) (K : PySem.W.Frag) : AlM := (fn.map (fun d => fnAt K (d.adr K)), (fn.all fun d => d.ok K) && ex K, ts.map fun t => He.dicW K (t.1 K))
def valM (fn : List DefM) (ts : List He.Tab) (w : World) : AlM := (fn.map DefM.val, true, ts.map fun t => some (He.keysIn w.params t.2))
structure SaysM (fn : List DefM) (ex : PySem.W.Frag → Bool) (ts : List He.Tab) (w : World) (K : PySem.W.Frag) : Prop where
  eq : obsM fn ex ts K = valM fn ts w
theorem SaysM.at_ {fn : List DefM} {ex : PySem.W.Frag → Bool} {ts : List He.Tab} {w : World} {K : PySem.W.Frag} (c : SaysM fn ex ts w K) (i : Nat) {d : DefM} (h : fn[i]? = some d := by rfl) : fnAt K (d.adr K) = d.val ∧ d.ok K = true := by
  have e1 : fn.map (fun d => fnAt K (d.adr K)) = fn.map DefM.val := congrArg (fun z : AlM => z.1) c.eq
  have e2 : ((fn.all fun d => d.ok K) && ex K) = true := congrArg (fun z : AlM => z.2.1) c.eq
  obtain ⟨h1, _⟩ := He.ba e2
  refine ⟨?_, List.all_eq_true.mp h1 d (List.mem_of_getElem? h)⟩
  have q := congrArg (fun l => l[i]?) e1
  simp only [List.getElem?_map, h, Option.map_some, Option.some.injEq] at q
  exact q
theorem SaysM.fun {fn : List DefM} {ex : PySem.W.Frag → Bool} {ts : List He.Tab} {w : World} {K : PySem.W.Frag} (c : SaysM fn ex ts w K) (i : Nat) {d : DefM} (hfr : d.fr = []) (h : fn[i]? = some d := by rfl) : FunM K d :=
  DefM.fun hfr (c.at_ i h).1 (c.at_ i h).2
theorem SaysM.funC {fn : List DefM} {ex : PySem.W.Frag → Bool} {ts : List He.Tab} {w : World} {K : PySem.W.Frag} (c : SaysM fn ex ts w K) (i : Nat) {d : DefM} (hfr : d.fr = [("__class__" : Str)]) (hdf : d.dfl = []) (h : fn[i]? = some d := by rfl) : FunMC K d :=
  DefM.funC hfr hdf (c.at_ i h).1 (c.at_ i h).2
theorem SaysM.more {fn : List DefM} {ex : PySem.W.Frag → Bool} {ts : List He.Tab} {w : World} {K : PySem.W.Frag} (c : SaysM fn ex ts w K) : ex K = true :=
  (He.ba (congrArg (fun z : AlM => z.2.1) c.eq : ((fn.all fun d => d.ok K) && ex K) = true)).2
theorem SaysM.tab {fn : List DefM} {ex : PySem.W.Frag → Bool} {ts : List He.Tab} {w : World} {K : PySem.W.Frag} (c : SaysM fn ex ts w K) (i : Nat) {t : He.Tab} (h : ts[i]? = some t := by rfl) : ∃ es n, KDict K w (t.1 K) es n := by
  have e : (ts.map fun t => He.dicW K (t.1 K)) = ts.map fun t => some (He.keysIn w.params t.2) := congrArg (fun z : AlM => z.2.2) c.eq
  have q := congrArg (fun l => l[i]?) e
  simp only [List.getElem?_map, h, Option.map_some, Option.some.injEq] at q
  exact He.dicW_ok q
def hookM (n : Nat) (fn : List DefM) (ex : PySem.W.Frag → Bool) (ts : List He.Tab) : PySem.W.Hook where
  α := AlM
  obs := fun s => obsM fn ex ts (He.frT s.heap.get? (He.asD s.heap.get? n))
  val := fun w => valM fn ts w
  says := fun w h => ∃ K : PySem.W.Frag, K.In h ∧ SaysM fn ex ts w K
  of := fun _ _ e => ⟨_, He.frT_in, ⟨e⟩⟩
  keeps := fun _ _ _ ⟨K, hK, c⟩ k => ⟨K, PySem.W.Frag.In.keeps hK k, c⟩
def obsMG (n : Nat) (fn : List DefM) (ex : PySem.W.Frag → Bool) (ts : List He.Tab) (s : PySem.W.SharedT) : AlM := obsM fn ex ts (He.frT (HandSHeadRun.getT s) (He.asD (HandSHeadRun.getT s) n))
theorem obsMG_eq (n : Nat) (fn : List DefM) (ex : PySem.W.Frag → Bool) (ts : List He.Tab) (s : PySem.W.SharedT) : obsMG n fn ex ts s = (hookM n fn ex ts).obs s.abs := by
  have e : HandSHeadRun.getT s = s.abs.heap.get? := funext (HandSHeadRun.getT_eq s)
  show obsM fn ex ts (He.frT (HandSHeadRun.getT s) (He.asD (HandSHeadRun.getT s) n)) = obsM fn ex ts (He.frT s.abs.heap.get? (He.asD s.abs.heap.get? n))
  rw [e]
end L2.MP

set_option Elab.async false
set_option linter.all false
set_option maxRecDepth 100000
set_option maxHeartbeats 4000000
/-! Named readings of the operators and built-in functions that the programs use. -/
namespace L2.MP
open PySem PySem.Spec PyProof.Rows
section
variable {X : Cx}
/-! ### names -/
theorem pe_gint {x : Str} {i : Int} {pos : Pos} (hg : Gl X x) (h : ∃ t, X.mg x = some (.int i t)) (hd : (x == ("__debug__" : Str)) = false := by decide) : PE X (.Name x pos) (tC (.int i)) := by
  obtain ⟨t, h⟩ := h
  exact pe_glob hg h ⟨t, rfl⟩ hd
theorem pe_gstr {x z : Str} {pos : Pos} (hg : Gl X x) (h : ∃ t, X.mg x = some (.str z t)) (hd : (x == ("__debug__" : Str)) = false := by decide) : PE X (.Name x pos) (tC (.str z)) := by
  obtain ⟨t, h⟩ := h
  exact pe_glob hg h ⟨t, rfl⟩ hd
/-! ### numbers -/
def rSubI : R2 := rI0 fun i j => .int (i - j)
def rAddI : R2 := rI0 fun i j => .int (i + j)
def rFdivI : R2 := rI CDiv fun i j => .int (i / j)
def rModI : R2 := rI (fun _ j => 0 < j) fun i j => .int (i % j)
def rPowI : R2 := rI CPow fun i j => .int (i ^ j.toNat)
def rNegI : V → Hp → VK → Prop := rU fun i => .int (-i)
theorem op_subI : OpR X (binaryOp .Sub) rSubI := op_sub
theorem op_fdivI : OpR X (binaryOp .FloorDiv) rFdivI := op_fdiv
theorem op_modI : OpR X (binaryOp .Mod) rModI := op_mod
theorem op_powI : OpR X (binaryOp .Pow) rPowI := op_pow
theorem un_negI : UnR X (unaryOp .USub) rNegI := un_neg
theorem iop_addI : OpR X (inplaceOp .Add) rAddI := iop_add
def rLtI : R2 := rI0 fun i j => .bl (decide (i < j))
def rLeI : R2 := rI0 fun i j => .bl (decide (i ≤ j))
def rGtI : R2 := rI0 fun i j => .bl (decide (j < i))
def rGeI : R2 := rI0 fun i j => .bl (decide (j ≤ i))
theorem op_ltI : OpR X (compareOp .Lt) rLtI := op_lt
theorem op_leI : OpR X (compareOp .LtE) rLeI := op_le
theorem op_gtI : OpR X (compareOp .Gt) rGtI := op_gt
theorem op_geI : OpR X (compareOp .GtE) rGeI := op_ge
/-! ### plus and times of any kind -/
def rAddA (K : PySem.W.Frag) : R2 := fun x y H Q => match x, y with
  | .int i, .int j => Q (.int (i + j)) H
  | .str i, .str j => i.length + j.length ≤ sizeLine ∧ Q (.str (i ++ j)) H
  | .ref a, .ref b => rCat (.ref a) (.ref b) H Q ∨ rCatA K (.ref a) (.ref b) H Q
  | _, _ => False
theorem op_addA : OpR X (binaryOp .Add) (rAddA X.K) := by
  intro pins s σ H x y v u Q I rx ry h
  cases x <;> cases y <;> first
    | exact op_add pins s σ H _ _ v u Q I rx ry ⟨_, _, rfl, rfl, h⟩
    | exact op_add_str pins s σ H _ _ v u Q I rx ry ⟨_, _, rfl, rfl, h.1, h.2⟩
    | exact h.elim (op_cat pins s σ H _ _ v u Q I rx ry) (op_catA pins s σ H _ _ v u Q I rx ry)
    | exact h.elim
def rMulA : R2 := fun x y H Q => match x, y with
  | .int i, .int j => CMul i j ∧ Q (.int (i * j)) H
  | .str z, .int n => MulOk z n ∧ Q (.str (Txt.mul z n)) H
  | _, _ => False
theorem op_mulA : OpR X (binaryOp .Mult) rMulA := by
  intro pins s σ H x y v u Q I rx ry h
  cases x <;> cases y <;> first
    | exact op_mul pins s σ H _ _ v u Q I rx ry ⟨_, _, rfl, rfl, h.1, h.2⟩
    | (obtain ⟨h1, q⟩ := h
       obtain ⟨t, rfl⟩ := rx
       obtain ⟨t', rfl⟩ := ry
       exact SB.mul h1 fun t2 k => ⟨.str _, H, I.tok _, ⟨_, rfl⟩, q⟩)
    | exact h.elim
/-! ### equal or not, of scalars and of nested data -/
def rEqA (K : PySem.W.Frag) : R2 := fun x y H Q => rEq x y H Q ∨ rEqD K x y H Q
def rNeA (K : PySem.W.Frag) : R2 := fun x y H Q => rNe x y H Q ∨ rNeD K x y H Q
theorem op_eqA (hu : X.A.units + 64 < cLine) : OpR X (compareOp .Eq) (rEqA X.K) := orO op_eq (op_eqD hu)
theorem op_neA (hu : X.A.units + 64 < cLine) : OpR X (compareOp .NotEq) (rNeA X.K) := orO op_ne (op_neD hu)
def rIsNone : R2 := fun x y H Q => y = .non ∧ Q (.bl (decide (x = .non))) H
def rNotNone : R2 := fun x y H Q => y = .non ∧ Q (.bl (!decide (x = .non))) H
theorem op_isNone : OpR X (compareOp .Is) rIsNone := op_isN
theorem op_notNone : OpR X (compareOp .IsNot) rNotNone := op_notN
/-! ### in -/
def rInDict (neg : Bool) : R2 := fun x y H Q => ∃ a o, y = .ref a ∧ DGet H a x o ∧ Q (.bl (if neg then !o.isSome else o.isSome)) H
theorem op_inDict (hu : X.A.units + 1 < cLine) : OpR X (compareOp .In) (rInDict false) := by
  rintro pins s σ H x y v u Q I rx ry ⟨a, o, rfl, g, q⟩
  cases ry
  exact d_in hu I g rx fun s' I' => ⟨.bl o.isSome, H, I', rfl, q⟩
theorem op_notInDict (hu : X.A.units + 1 < cLine) : OpR X (compareOp .NotIn) (rInDict true) := by
  rintro pins s σ H x y v u Q I rx ry ⟨a, o, rfl, g, q⟩
  cases ry
  exact d_notIn hu I g rx fun s' I' => ⟨.bl (!o.isSome), H, I', rfl, q⟩
def rInA (K : PySem.W.Frag) (neg : Bool) : R2 := fun x y H Q => rIn K neg x y H Q ∨ rInDict neg x y H Q
theorem op_inA (hu : X.A.units + 1 < cLine) : OpR X (compareOp .In) (rInA X.K false) := orO op_in_seq (op_inDict hu)
theorem op_notInA (hu : X.A.units + 1 < cLine) : OpR X (compareOp .NotIn) (rInA X.K true) := orO op_notIn_seq (op_notInDict hu)
/-! ### built-in functions -/
def rAbsI : List V → Hp → VK → Prop := fun xs H Q => match xs with
  | [.int i] => Q (.int (if i < 0 then -i else i)) H
  | _ => False
theorem call_absI : CallR X (.builtin "abs") rAbsI := wkC call_abs fun xs H Q q => by
  rcases xs with _ | ⟨x, _ | ⟨y, r⟩⟩
  · exact q.elim
  · cases x <;> first | exact ⟨_, rfl, q⟩ | exact q.elim
  · cases x <;> exact q.elim
def rMax2I : List V → Hp → VK → Prop := fun xs H Q => match xs with
  | [.int i, .int j] => Q (.int (if j > i then j else i)) H
  | _ => False
theorem two_of {P : List V → Prop} {F : Int → Int → Prop} {xs : List V} (h : match xs with | [.int i, .int j] => F i j | _ => False) : ∃ i j, xs = [.int i, .int j] ∧ F i j := by
  split at h
  · exact ⟨_, _, rfl, h⟩
  · exact h.elim
theorem call_max2I (hc : X.calm = true) : CallR X (.builtin "max") rMax2I := wkC (call_max2 hc) fun xs H Q q => two_of (P := fun _ => True) q
def rMin2I : List V → Hp → VK → Prop := fun xs H Q => match xs with
  | [.int i, .int j] => Q (.int (if j < i then j else i)) H
  | _ => False
theorem call_min2I (hc : X.calm = true) : CallR X (.builtin "min") rMin2I := wkC (call_min2 hc) fun xs H Q q => two_of (P := fun _ => True) q
def rIntA : List V → Hp → VK → Prop := fun xs H Q => match xs with
  | [.int i] => Q (.int i) H
  | [.bl k] => Q (.int (if k then 1 else 0)) H
  | _ => False
theorem call_intA : CallR X (.type "int") rIntA := wkC call_int1 fun xs H Q q => by
  unfold rIntA at q
  split at q
  · exact .inl ⟨_, rfl, q⟩
  · exact .inr ⟨_, rfl, q⟩
  · exact q.elim
def rLenA (K : PySem.W.Frag) : List V → Hp → VK → Prop := fun xs H Q => ∃ x n, xs = [x] ∧ LenV K x H n ∧ Q (.int n) H
theorem call_lenA : CallR X (.builtin "len") (rLenA X.K) := call_len
def rLenD : List V → Hp → VK → Prop := fun xs H Q => ∃ a kvs, xs = [V.ref a] ∧ H a = some (.dK kvs) ∧ Q (.int kvs.length) H
theorem call_lenDI : CallR X (.builtin "len") rLenD := call_lenD
def rListA (K : PySem.W.Frag) : List V → Hp → VK → Prop := fun xs H Q => ∃ p ys, xs = [.ref p] ∧ (SqL K H p ys ∨ SqT K H p ys) ∧ ∀ l, H l = none → Q (.ref l) (upd H l (.lst ys))
theorem call_listA : CallR X (.type "list") (rListA X.K) := call_list_of
def rTupleA (K : PySem.W.Frag) : List V → Hp → VK → Prop := fun xs H Q => ∃ p ys, xs = [.ref p] ∧ ((SqL K H p ys ∧ ∀ l, H l = none → Q (.ref l) (upd H l (.tup ys))) ∨ (SqT K H p ys ∧ Q (.ref p) H))
theorem call_tupleA : CallR X (.type "tuple") (rTupleA X.K) := call_tuple_of
def rStrI : List V → Hp → VK → Prop := fun xs H Q => ∃ i, xs = [.int i] ∧ i.natAbs.log2 < 1920 ∧ Q (.str (toString i)) H
theorem call_strI : CallR X (.type "str") rStrI := call_str_int
/-! ### texts -/
def rSplitA : V → List V → Hp → VK → Prop := fun x xs H Q => ∃ a b, x = V.str a ∧ xs = [V.str b] ∧ (b.length == 0) = false ∧ a.length + 2 ≤ sizeLine ∧ rNewStrs (Txt.split a b) H Q
theorem pe_splitA {o e : Expr} {to te : TE} {apos pos : Pos} (ho : PE X o to) (he : PE X e te) (h1 : starEach [e] X.env = [(false, eval e X.env)] := by rfl) (h2 : attributeBase o "split" X.env (eval o X.env) = eval o X.env := by rfl)
    (h3 : (apos.endLine == pos.line) = true := by rfl) : PE X (.Call (.Attribute o "split" apos) [e] [] pos) (tM1 rSplitA to te) := pe_split ho he h1 h2 h3
def rJoinA (K : PySem.W.Frag) : V → List V → Hp → VK → Prop := fun x xs H Q => ∃ a p ys, x = V.str a ∧ xs = [V.ref p] ∧ (SqL K H p (ys.map V.str) ∨ SqT K H p (ys.map V.str)) ∧ (ys.map (·.length)).sum + ys.length * a.length ≤ 16777216 ∧ Q (V.str (Txt.join a ys)) H
theorem pe_joinA {o e : Expr} {to te : TE} {apos pos : Pos} (ho : PE X o to) (he : PE X e te) (h1 : starEach [e] X.env = [(false, eval e X.env)] := by rfl) (h2 : attributeBase o "join" X.env (eval o X.env) = eval o X.env := by rfl)
    (h3 : (apos.endLine == pos.line) = true := by rfl) : PE X (.Call (.Attribute o "join" apos) [e] [] pos) (tM1 (rJoinA X.K) to te) := pe_join ho he h1 h2 h3
def rSlAny (K : PySem.W.Frag) : V → Option Int → Option Int → Hp → VK → Prop := fun x lo hi H Q => rSlL K x lo hi H Q ∨ rSlA K x lo hi H Q ∨ rSlS x lo hi H Q
theorem sl_Any : SlR X (rSlAny X.K) := sl_list.or (sl_tupA.or sl_str)
/-! ### raising -/
def tRaiseE (E : XK) (cls : Value) : TS := fun _ _ H => E cls none H
end
theorem passL0 {X : Cx} {σ : St} : PassesAt (L2.CX X.prog X.w) X σ E0 := fun pins H s e s' I c => passL pins σ H s e s' I c
/-! ### facts by Bools, the end -/
def excM (x : Str) (K : PySem.W.Frag) : Bool := PySem.W.excIn K (He.ga K x) He.veBase "ValueError.__new__" && (PySem.W.keepIn K (.ref (He.ga K x)) && (decide (PySem.W.subIn K (.ref (He.ga K x)) (.type "BaseException") = some true) && decide (PySem.W.typeIn K (.ref (He.ga K x)) = some (.type "type"))))
theorem excM_ok {x : Str} {K : PySem.W.Frag} (h : excM x K = true) : PySem.W.excIn K (He.ga K x) He.veBase "ValueError.__new__" = true ∧ PySem.W.keepIn K (.ref (He.ga K x)) = true ∧ PySem.W.subIn K (.ref (He.ga K x)) (.type "BaseException") = some true ∧ PySem.W.typeIn K (.ref (He.ga K x)) = some (.type "type") := by
  obtain ⟨h1, h⟩ := He.ba h
  obtain ⟨h2, h⟩ := He.ba h
  obtain ⟨h3, h4⟩ := He.ba h
  exact ⟨h1, h2, of_decide_eq_true h3, of_decide_eq_true h4⟩
def orIntB (x : Str) (K : PySem.W.Frag) : Bool := (PySem.W.findIn K (.type "int") "__or__").isSome && ((PySem.W.findIn K (.type "int") "__ror__").isSome && (decide (PySem.W.subIn K (.type "int") (.ref (He.ga K x)) = some false) &&
  (match PySem.W.findIn K (.ref (He.ga K x)) "__ror__" with
  | some none => true
  | some (some (.ref _)) => true
  | _ => false)))
theorem orIntB_ok {x : Str} {K : PySem.W.Frag} (h : orIntB x K = true) : (∃ fo, PySem.W.findIn K (.type "int") "__or__" = some fo) ∧ (∃ ro, PySem.W.findIn K (.type "int") "__ror__" = some ro) ∧ PySem.W.subIn K (.type "int") (.ref (He.ga K x)) = some false ∧
    (∃ rc, PySem.W.findIn K (.ref (He.ga K x)) "__ror__" = some rc ∧ (rc = none ∨ ∃ g : Addr, rc = some (.ref g))) := by
  obtain ⟨h1, h⟩ := He.ba h
  obtain ⟨h2, h⟩ := He.ba h
  obtain ⟨h3, h4⟩ := He.ba h
  refine ⟨Option.isSome_iff_exists.mp h1, Option.isSome_iff_exists.mp h2, of_decide_eq_true h3, ?_⟩
  split at h4
  · rename_i q; exact ⟨none, q, .inl rfl⟩
  · rename_i g q; exact ⟨some (.ref g), q, .inr ⟨g, rfl⟩⟩
  · cases h4
theorem op_ownI2 {X : Cx} {k : Nat} {f C : Addr} {fd : FuncData} {ps : List Str} {sp : Sp} (hf : (∃ fo, PySem.W.findIn X.K (.type "int") "__or__" = some fo) ∧ (∃ ro, PySem.W.findIn X.K (.type "int") "__ror__" = some ro) ∧ PySem.W.subIn X.K (.type "int") (.ref C) = some false ∧
    (∃ rc, PySem.W.findIn X.K (.ref C) "__ror__" = some rc ∧ (rc = none ∨ ∃ g : Addr, rc = some (.ref g))))
    (F : FnOk X.prog X.w X.K X.mg X.base (L2.CX X.prog X.w) k f fd ps sp) (hr : Room k X.A) (hb : Binds X.K fd ps []) (hc : PySem.W.selfFirst X.K C = true) (hs : Spc X.K C "__or__" f) : OpR X (binaryOp .BitOr) (rOwnI C sp) := by
  obtain ⟨⟨fo, h1⟩, ⟨ro, h2⟩, h3, rc, h4, h5⟩ := hf
  exact op_ownI (op := .BitOr) F hr hb hc hs h4 h5 h1 h2 h3
theorem fact_of {l : List (PySem.W.Frag → Bool)} {K : PySem.W.Frag} (h : (l.all fun f => f K) = true) (i : Nat) {f : PySem.W.Frag → Bool} (e : l[i]? = some f := by rfl) : f K = true :=
  List.all_eq_true.mp h f (List.mem_of_getElem? e)
/-- a def from which nothing that is raised comes -/
theorem fn_close {P : Program} {w : World} {K : PySem.W.Frag} {mg : Str → Option Value} {base : Heap} {k : Nat} {f : Addr} {fd : FuncData} {ps : List Str} {sp : Sp} (F : FnOk P w K mg base (L2.CX P w) k f fd ps sp) :
    FnOk P w K mg base CX0 k f fd ps (fun vs H Q _ => sp vs H Q E0) := by
  refine ⟨fun vs H Q _ h => F.len vs H Q E0 h, fun A outer s H args us vs Q E hr he hb hv h => codeAny_mono (F.run A outer s H args us vs Q E0 hr he hb hv h) fun r s' hq => ?_⟩
  rcases r with e | fl
  · obtain ⟨_, _, _, _, _, _, _, _, _, _, _, _, z⟩ := (show L2.CX P w outer H s E0 e s' from hq)
    exact z.elim
  · cases fl <;> exact hq
end L2.MP

set_option Elab.async false
set_option linter.all false
set_option maxRecDepth 100000
set_option maxHeartbeats 4000000
/-! Reading step by step: one lemma a combinator, and the tactic that takes them. -/
namespace L2.MP
open PySem PySem.Spec PyProof.Rows
/-- all that is tracked stays -/
def Ex (H H' : Hp) : Prop := ∀ a o, H a = some o → H' a = some o
theorem Ex.refl (H : Hp) : Ex H H := fun _ _ h => h
theorem Ex.trans {H H1 H2 : Hp} (a : Ex H H1) (b : Ex H1 H2) : Ex H H2 := fun x o h => b x o (a x o h)
theorem Ex.new {H : Hp} {p : Addr} {o : HO} (h : H p = none) : Ex H (upd H p o) := fun a u e => by rw [upd_ne (ne_of_none e h)]; exact e
theorem Ex.new' {H H' : Hp} {p : Addr} {o : HO} (e : Ex H H') (h : H p = none) : Ex H (upd H' p o) := fun a u ha => by rw [upd_ne (ne_of_none ha h)]; exact e a u ha
theorem Ex.at {H H' : Hp} {a : Addr} {o : HO} (e : Ex H H') (h : H a = some o) : H' a = some o := e a o h
theorem Ex.none {H H' : Hp} {a : Addr} (e : Ex H H') (h : H' a = none) : H a = none := by
  cases q : H a with
  | none => rfl
  | some o => rw [e a o q] at h; cases h
theorem Ex.sqL {K : PySem.W.Frag} {H H' : Hp} {a : Addr} {xs : List V} (e : Ex H H') (h : SqL K H a xs) : SqL K H' a xs := Same.seq e h
theorem Ex.sqT {K : PySem.W.Frag} {H H' : Hp} {a : Addr} {xs : List V} (e : Ex H H') (h : SqT K H a xs) : SqT K H' a xs := by
  rcases h with (h | ⟨o, h⟩) | h
  · exact .inl (.inl (e _ _ h))
  · exact .inl (.inr ⟨o, e _ _ h⟩)
  · exact .inr h
theorem up_new {H : Hp} {p a : Addr} {o u : HO} (hp : H p = none) (h : H a = some u) : upd H p o a = some u := (Ex.new hp).at h
theorem up_ne {H : Hp} {p a : Addr} {o u : HO} (hn : a ≠ p) (h : H a = some u) : upd H p o a = some u := by rw [upd_ne hn]; exact h
theorem up_none {H : Hp} {p a : Addr} {o : HO} (h : upd H p o a = none) : H a = none := by
  by_cases e : a = p
  · subst e; rw [upd_same] at h; cases h
  · rw [upd_ne e] at h; exact h
theorem sqL_of {K : PySem.W.Frag} {H : Hp} {a : Addr} {xs : List V} (h : H a = some (.lst xs)) : SqL K H a xs := .inl (.inl h)
theorem sqT_of {K : PySem.W.Frag} {H : Hp} {a : Addr} {xs : List V} (h : H a = some (.tup xs)) : SqT K H a xs := .inl (.inl h)
theorem sqL_ne {K : PySem.W.Frag} {H : Hp} {p a : Addr} {o : HO} {xs : List V} (hn : a ≠ p) (h : SqL K H a xs) : SqL K (upd H p o) a xs := by
  rcases h with (h | ⟨u, h⟩) | h
  · exact .inl (.inl (up_ne hn h))
  · exact .inl (.inr ⟨u, up_ne hn h⟩)
  · exact .inr h
theorem sqT_ne {K : PySem.W.Frag} {H : Hp} {p a : Addr} {o : HO} {xs : List V} (hn : a ≠ p) (h : SqT K H a xs) : SqT K (upd H p o) a xs := by
  rcases h with (h | ⟨u, h⟩) | h
  · exact .inl (.inl (up_ne hn h))
  · exact .inl (.inr ⟨u, up_ne hn h⟩)
  · exact .inr h
theorem up_sqL {K : PySem.W.Frag} {H : Hp} {p a : Addr} {o : HO} {xs : List V} (hp : H p = none) (h : SqL K H a xs) : SqL K (upd H p o) a xs := (Ex.new hp).sqL h
theorem up_sqT {K : PySem.W.Frag} {H : Hp} {p a : Addr} {o : HO} {xs : List V} (hp : H p = none) (h : SqT K H a xs) : SqT K (upd H p o) a xs := (Ex.new hp).sqT h
theorem sz_of {n : Nat} (h : n ≤ 100000) : n ≤ sizeLine := Nat.le_trans h (by decide)
theorem szl_of {n : Nat} (h : n < 100000) : n < sizeLine := Nat.lt_of_lt_of_le h (by decide)
/-- the field f of instances of C is read plainly -/
class HasF (K : PySem.W.Frag) (C : Addr) (f : Str) : Prop where
  cls : Cls K C
  na : NoAttr K C f
class Lk (fs : List (Str × V)) (f : Str) (v : outParam V) : Prop where
  eq : fs.lookup f = some v
class LkN (fs : List (Str × V)) (f : Str) : Prop where
  eq : fs.lookup f = none
class Pf (f : Str) (v : V) (fs : List (Str × V)) (gs : outParam (List (Str × V))) : Prop where
  eq : putF f v fs = gs
  sm : fs.length < 1000

/-- the names of a turn, written out -/
class StC (ns : List Str) (vs : List V) (σ : outParam St) : Prop where
  eq : start ns vs = σ
class SetC (σ : St) (i : Nat) (o : Option V) (σ' : outParam St) : Prop where
  eq : σ.set i o = σ'
class GetC (σ : St) (i : Nat) (v : outParam V) : Prop where
  eq : σ[i]? = some (some v)
instance : StC [] [] [] := ⟨rfl⟩
instance {n : Str} {ns : List Str} {σ : St} [c : StC ns [] σ] : StC (n :: ns) [] (none :: σ) := ⟨by rw [← c.eq]; simp [start, List.replicate_succ]⟩
instance {n : Str} {ns : List Str} {v : V} {vs : List V} {σ : St} [c : StC ns vs σ] : StC (n :: ns) (v :: vs) (some v :: σ) := ⟨by rw [← c.eq]; simp [start]⟩
instance {a o : Option V} {l : St} : SetC (a :: l) 0 o (o :: l) := ⟨rfl⟩
instance {a o : Option V} {l l' : St} {i : Nat} [c : SetC l i o l'] : SetC (a :: l) (i + 1) o (a :: l') := ⟨by rw [← c.eq]; rfl⟩
instance {v : V} {l : St} : GetC (some v :: l) 0 v := ⟨rfl⟩
instance {v : V} {a : Option V} {l : St} {i : Nat} [c : GetC l i v] : GetC (a :: l) (i + 1) v := ⟨by rw [← c.eq]; rfl⟩
section
variable {K : PySem.W.Frag} {σ : St} {H : Hp} {Q : VK} {te ta tb : TE} {tr : TA} {v x y : V} {i : Nat} {n b c : St → Hp → Prop} {r : VK} {t u : TS} {tt tu : TT} {BQ : Bool → Hp → Prop} {AQ : List V → Hp → Prop} {vs : List V}
/-! statements -/
theorem k_seq (h : t ⟨u ⟨n, r, b, c⟩, r, b, c⟩ σ H) : tSeq t u ⟨n, r, b, c⟩ σ H := h
theorem k_next (h : n σ H) : tNext ⟨n, r, b, c⟩ σ H := h
theorem k_brk (h : b σ H) : tBreak ⟨n, r, b, c⟩ σ H := h
theorem k_cont (h : c σ H) : tCont ⟨n, r, b, c⟩ σ H := h
theorem k_drop (h : te σ H fun _ H1 => n σ H1) : tDrop te ⟨n, r, b, c⟩ σ H := h
theorem k_ret (h : te σ H r) : tRet te ⟨n, r, b, c⟩ σ H := h
theorem k_retN (h : r .non H) : tRetN ⟨n, r, b, c⟩ σ H := h
theorem k_if (h : tt σ H fun k H1 => if k = true then t ⟨n, r, b, c⟩ σ H1 else u ⟨n, r, b, c⟩ σ H1) : tIfS tt t u ⟨n, r, b, c⟩ σ H := h
def Asg (i : Nat) (σ : St) (n : St → Hp → Prop) : VK := fun z H1 => n (σ.set i (some z)) H1
theorem k_asg (h : te σ H (Asg i σ n)) : tAsg te (gName i) ⟨n, r, b, c⟩ σ H := h
theorem k_asgS {σ' : St} [c : SetC σ i (some x) σ'] (q : n σ' H) : Asg i σ n x H := by show n _ H; rw [c.eq]; exact q
theorem k_aug {ti : TIp} [g : GetC σ i x] (h : te σ H fun y H1 => ti x y H1 (Asg i σ n)) : tAug i te ti ⟨n, r, b, c⟩ σ H := ⟨x, g.eq, h⟩
theorem o_addIp {p q' : Int} (q : Q (.int (p + q')) H) : rAddI (.int p) (.int q') H Q := ⟨p, q', rfl, rfl, q⟩
theorem k_start {T : TS} {D : Ends} {ns : List Str} {vs : List V} {σ' : St} [c : StC ns vs σ'] (q : T D σ' H) : T D (start ns vs) H := by rw [c.eq]; exact q
theorem k_raise {E : XK} {cls : Value} (h : E cls none H) : tRaiseE E cls ⟨n, r, b, c⟩ σ H := h
def RPut (K : PySem.W.Frag) (f : Str) (x y : V) (H : Hp) (k : Hp → Prop) : Prop := ∃ a C dx fs, x = .ref a ∧ H a = some (.ins C dx fs) ∧ Cls K C ∧ NoAttr K C f ∧ fs.length < 1000 ∧ k (upd H a (.ins C dx (putF f y fs)))
theorem k_fldp {f : Str} {tv : TE} (h : tv σ H fun y H1 => ta σ H1 fun x H2 => RPut K f x y H2 (fun H3 => n σ H3)) : sFld K ta tv f ⟨n, r, b, c⟩ σ H := h
theorem k_rput {f : Str} {a C dx : Addr} {fs gs : List (Str × V)} {k : Hp → Prop} (h : H a = some (.ins C dx fs)) (i : HasF K C f) (j : Pf f y fs gs) (q : k (upd H a (.ins C dx gs))) : RPut K f (.ref a) y H k :=
  ⟨a, C, dx, fs, rfl, h, i.cls, i.na, j.sm, by rw [j.eq]; exact q⟩
/-! tests -/
def Bq (BQ : Bool → Hp → Prop) (x : V) (H : Hp) : Prop := ∃ k, x = .bl k ∧ BQ k H
theorem k_test (h : te σ H (Bq BQ)) : tTest te σ H BQ := h
theorem k_tB (h : te σ H (Bq BQ)) : tB te σ H BQ := h
theorem k_bl {k : Bool} (h : BQ k H) : Bq BQ (.bl k) H := ⟨k, rfl, h⟩
def RAndT (tu : TT) (σ : St) (BQ : Bool → Hp → Prop) (k : Bool) (H : Hp) : Prop := if k = true then tu σ H BQ else BQ false H
def ROrT (tu : TT) (σ : St) (BQ : Bool → Hp → Prop) (k : Bool) (H : Hp) : Prop := if k = true then BQ true H else tu σ H BQ
theorem k_and (h : tt σ H (RAndT tu σ BQ)) : tAnd tt tu σ H BQ := h
theorem k_or (h : tt σ H (ROrT tu σ BQ)) : tOr tt tu σ H BQ := h
theorem k_not (h : tt σ H fun k H1 => BQ (!k) H1) : tNot tt σ H BQ := h
theorem k_itT {A B : Prop} (h : A) : if true = true then A else B := by rw [if_pos rfl]; exact h
theorem k_itF {A B : Prop} (h : B) : if false = true then A else B := by rw [if_neg Bool.false_ne_true]; exact h
theorem k_itdT {p A B : Prop} [Decidable p] (hp : p) (h : A) : if decide p = true then A else B := by rw [decide_eq_true hp]; exact k_itT h
theorem k_itdF {p A B : Prop} [Decidable p] (hp : ¬ p) (h : B) : if decide p = true then A else B := by rw [decide_eq_false hp]; exact k_itF h
theorem k_itnT {p A B : Prop} [Decidable p] (hp : ¬ p) (h : A) : if (!decide p) = true then A else B := by rw [decide_eq_false hp]; exact k_itT h
theorem k_itnF {p A B : Prop} [Decidable p] (hp : p) (h : B) : if (!decide p) = true then A else B := by rw [decide_eq_true hp]; exact k_itF h
theorem k_itd {p A B : Prop} [Decidable p] (h1 : p → A) (h2 : ¬ p → B) : if decide p = true then A else B := by
  by_cases h : p
  · exact k_itdT h (h1 h)
  · exact k_itdF h (h2 h)
theorem k_inot {k : Bool} {A B : Prop} (h : if k = true then B else A) : if (!k) = true then A else B := by
  cases k
  · exact k_itT (by rw [if_neg Bool.false_ne_true] at h; exact h)
  · exact k_itF (by rw [if_pos rfl] at h; exact h)
theorem k_itb {k : Bool} {A B : Prop} (h1 : k = true → A) (h2 : k = false → B) : if k = true then A else B := by
  cases k
  · exact k_itF (h2 rfl)
  · exact k_itT (h1 rfl)
theorem k_randtP {e z : Bool} (h2 : ∀ Q' : Bool → Hp → Prop, Q' z H → tu σ H Q') (q : BQ (e && z) H) : RAndT tu σ BQ e H := by cases e; exact k_itF q; exact k_itT (h2 _ q)
theorem k_rortP {e z : Bool} (h2 : ∀ Q' : Bool → Hp → Prop, Q' z H → tu σ H Q') (q : BQ (e || z) H) : ROrT tu σ BQ e H := by cases e; exact k_itF (h2 _ q); exact k_itT q
theorem k_randtS {e : Bool} (h : if e = true then tu σ H BQ else BQ false H) : RAndT tu σ BQ e H := h
theorem k_rortS {e : Bool} (h : if e = true then BQ true H else tu σ H BQ) : ROrT tu σ BQ e H := h
/-! expressions -/
theorem k_var [h : GetC σ i v] (q : Q v H) : tVar i σ H Q := ⟨v, h.eq, q⟩
theorem k_c (q : Q v H) : tC v σ H Q := q
theorem k_op {ro : R2} (h : ta σ H fun x H1 => tb σ H1 fun y H2 => ro x y H2 Q) : tOp ro ta tb σ H Q := h
theorem k_un {ro : V → Hp → VK → Prop} (h : ta σ H fun x H1 => ro x H1 Q) : tUn ro ta σ H Q := h
theorem k_nil (q : AQ [] H) : tNil σ H AQ := q
theorem k_cons (h : ta σ H fun x H1 => tr σ H1 fun xs H2 => AQ (x :: xs) H2) : tCons ta tr σ H AQ := h
theorem k_cb {ro : List V → Hp → VK → Prop} (h : tr σ H fun xs H1 => ro xs H1 Q) : tCB ro tr σ H Q := h
def RIfE (ta tb : TE) (σ : St) (Q : VK) (k : Bool) (H : Hp) : Prop := if k = true then ta σ H Q else tb σ H Q
theorem k_randtT (h : tu σ H BQ) : RAndT tu σ BQ true H := k_itT h
theorem k_randtF (h : BQ false H) : RAndT tu σ BQ false H := k_itF h
theorem k_rortT (h : BQ true H) : ROrT tu σ BQ true H := k_itT h
theorem k_rortF (h : tu σ H BQ) : ROrT tu σ BQ false H := k_itF h
theorem k_ifT {A B : Prop} {e : Bool} (h : e = true) (q : A) : if e = true then A else B := by rw [if_pos h]; exact q
theorem k_ifF {A B : Prop} {e : Bool} (h : e = false) (q : B) : if e = true then A else B := by rw [h]; exact k_itF q
theorem k_ifE (h : tt σ H (RIfE ta tb σ Q)) : tIf tt ta tb σ H Q := h
theorem k_rifI {e : Bool} {p p' : Int} (h1 : ∀ Q' : VK, Q' (.int p) H → ta σ H Q') (h2 : ∀ Q' : VK, Q' (.int p') H → tb σ H Q') (q : Q (.int (if e = true then p else p')) H) : RIfE ta tb σ Q e H := by cases e; exact k_itF (h2 _ q); exact k_itT (h1 _ q)
theorem k_rifS {e : Bool} (h : if e = true then ta σ H Q else tb σ H Q) : RIfE ta tb σ Q e H := h
def RAnd (k f : Hp → Prop) (x : V) (H : Hp) : Prop := ∃ c, x = .bl c ∧ if c = true then k H else f H
theorem k_rand {k f : Hp → Prop} {e : Bool} (h : if e = true then k H else f H) : RAnd k f (.bl e) H := ⟨e, rfl, h⟩
def RAndV (tb : TE) (σ : St) (Q : VK) (x : V) (H : Hp) : Prop := ∃ c, x = .bl c ∧ if c = true then tb σ H Q else Q (.bl false) H
def ROrV (tb : TE) (σ : St) (Q : VK) (x : V) (H : Hp) : Prop := ∃ c, x = .bl c ∧ if c = true then Q (.bl true) H else tb σ H Q
theorem k_andV (h : ta σ H (RAndV tb σ Q)) : tAndV ta tb σ H Q := h
theorem k_orV (h : ta σ H (ROrV tb σ Q)) : tOrV ta tb σ H Q := h
theorem k_randP {e z : Bool} (h2 : ∀ Q' : VK, Q' (.bl z) H → tb σ H Q') (q : Q (.bl (e && z)) H) : RAndV tb σ Q (.bl e) H := ⟨e, rfl, by cases e; exact k_itF q; exact k_itT (h2 _ q)⟩
theorem k_rorP {e z : Bool} (h2 : ∀ Q' : VK, Q' (.bl z) H → tb σ H Q') (q : Q (.bl (e || z)) H) : ROrV tb σ Q (.bl e) H := ⟨e, rfl, by cases e; exact k_itF (h2 _ q); exact k_itT q⟩
theorem k_randS {e : Bool} (h : if e = true then tb σ H Q else Q (.bl false) H) : RAndV tb σ Q (.bl e) H := ⟨e, rfl, h⟩
theorem k_rorS {e : Bool} (h : if e = true then Q (.bl true) H else tb σ H Q) : ROrV tb σ Q (.bl e) H := ⟨e, rfl, h⟩
theorem k_randT (h : tb σ H Q) : RAndV tb σ Q (.bl true) H := k_randS (k_itT h)
theorem k_randF (h : Q (.bl false) H) : RAndV tb σ Q (.bl false) H := k_randS (k_itF h)
theorem k_rorT (h : Q (.bl true) H) : ROrV tb σ Q (.bl true) H := k_rorS (k_itT h)
theorem k_rorF (h : tb σ H Q) : ROrV tb σ Q (.bl false) H := k_rorS (k_itF h)
def RNot (Q : VK) (x : V) (H : Hp) : Prop := ∃ c, x = .bl c ∧ Q (.bl (!c)) H
theorem k_notV (h : ta σ H (RNot Q)) : tNotV ta σ H Q := h
theorem k_rnot {e : Bool} (h : Q (.bl (!e)) H) : RNot Q (.bl e) H := ⟨e, rfl, h⟩
def NewT (xs : List V) (H : Hp) (Q : VK) : Prop := xs.length ≤ sizeLine ∧ ∀ p, H p = none → Q (.ref p) (upd H p (.tup xs))
def NewL (xs : List V) (H : Hp) (Q : VK) : Prop := xs.length ≤ sizeLine ∧ ∀ p, H p = none → Q (.ref p) (upd H p (.lst xs))
theorem k_tup (h : tr σ H fun xs H1 => NewT xs H1 Q) : tTup tr σ H Q := h
theorem k_lst (h : tr σ H fun xs H1 => NewL xs H1 Q) : tLst tr σ H Q := h
theorem k_newT (h : vs.length ≤ 100000) (q : ∀ p, H p = none → Q (.ref p) (upd H p (.tup vs))) : NewT vs H Q := ⟨sz_of h, q⟩
theorem k_newL (h : vs.length ≤ 100000) (q : ∀ p, H p = none → Q (.ref p) (upd H p (.lst vs))) : NewL vs H Q := ⟨sz_of h, q⟩
def RFld (K : PySem.W.Frag) (f : Str) (x : V) (H : Hp) (Q : VK) : Prop := ∃ a C dx fs v, x = .ref a ∧ H a = some (.ins C dx fs) ∧ Cls K C ∧ NoAttr K C f ∧ fs.lookup f = some v ∧ Q v H
theorem k_fld {f : Str} (h : ta σ H fun x H1 => RFld K f x H1 Q) : tFld K ta f σ H Q := h
theorem k_rfld {f : Str} {a C dx : Addr} {fs : List (Str × V)} (h : H a = some (.ins C dx fs)) (i : HasF K C f) (j : Lk fs f v) (q : Q v H) : RFld K f (.ref a) H Q := ⟨a, C, dx, fs, v, rfl, h, i.cls, i.na, j.eq, q⟩
theorem k_call {sp : Sp} {dvs : List V} {E : St → XK} (h : tr σ H fun vs H1 => sp (vs ++ dvs) H1 Q (E σ)) : tCallSD sp dvs E tr σ H Q := h
def RMk (C : Addr) (sp : Sp) (vs : List V) (E : XK) (H : Hp) (Q : VK) : Prop := ∀ x dx, H x = none → H dx = none → dx ≠ x → sp (.ref x :: vs) (upd (upd H dx (.own x)) x (.ins C dx [])) (fun v H2 => v = .non ∧ Q (.ref x) H2) E
theorem k_make {C : Addr} {sp : Sp} {dvs : List V} {E : St → XK} (h : tr σ H fun vs H1 => RMk C sp (vs ++ dvs) (E σ) H1 Q) : tMakeS C sp dvs E tr σ H Q := h
def RProp (C : Addr) (sp : Sp) (dvs : List V) (E : XK) (x : V) (H : Hp) (Q : VK) : Prop := ∃ a dx fs, x = .ref a ∧ H a = some (.ins C dx fs) ∧ sp (.ref a :: dvs) H Q E
theorem k_prop {C : Addr} {sp : Sp} {dvs : List V} {E : XK} (h : ta σ H fun x H1 => RProp C sp dvs E x H1 Q) : tProp C sp dvs E ta σ H Q := h
theorem k_rprop {C a dx : Addr} {sp : Sp} {dvs : List V} {E : XK} {fs : List (Str × V)} (h : H a = some (.ins C dx fs)) (q : sp (.ref a :: dvs) H Q E) : RProp C sp dvs E (.ref a) H Q := ⟨a, dx, fs, rfl, h, q⟩
def RMeth (C : Addr) (m : Str) (x : V) (H : Hp) (k : Prop) : Prop := ∃ a dx fs, x = .ref a ∧ H a = some (.ins C dx fs) ∧ fs.lookup m = none ∧ k
theorem k_meth {C : Addr} {m : Str} {sp : Sp} {dvs : List V} {E : St → XK} (h : ta σ H fun x H1 => RMeth C m x H1 (tr σ H1 fun vs H2 => sp (x :: (vs ++ dvs)) H2 Q (E σ))) : tMethS C m sp dvs E ta tr σ H Q := h
theorem k_rmeth {C a dx : Addr} {m : Str} {fs : List (Str × V)} {k : Prop} (h : H a = some (.ins C dx fs)) (j : LkN fs m) (q : k) : RMeth C m (.ref a) H k := ⟨a, dx, fs, rfl, h, j.eq, q⟩
theorem k_own {C a dx e dy : Addr} {sp : Sp} {fs gs : List (Str × V)} (h1 : H a = some (.ins C dx fs)) (h2 : H e = some (.ins C dy gs)) (q : sp [.ref a, .ref e] H Q E0) : rOwn C sp (.ref a) (.ref e) H Q := ⟨a, dx, fs, e, dy, gs, rfl, rfl, h1, h2, q⟩
theorem k_ownI {C a dx : Addr} {m : Int} {sp : Sp} {fs : List (Str × V)} (h1 : H a = some (.ins C dx fs)) (q : sp [.ref a, .int m] H Q E0) : rOwnI C sp (.ref a) (.int m) H Q := ⟨a, dx, fs, m, rfl, rfl, h1, q⟩
theorem k_ownA {C a dx : Addr} {sp : Sp} {fs : List (Str × V)} (h1 : H a = some (.ins C dx fs)) (q : sp [.ref a, y] H Q E0) : rOwnA C sp (.ref a) y H Q := ⟨a, dx, fs, rfl, h1, q⟩
/-! operators on values -/
variable {p q' : Int} {s z : Str} {k1 k2 : Bool}
theorem o_addI (q : Q (.int (p + q')) H) : rAddA K (.int p) (.int q') H Q := q
theorem o_addS (h : s.length + z.length ≤ 100000) (q : Q (.str (s ++ z)) H) : rAddA K (.str s) (.str z) H Q := ⟨sz_of h, q⟩
theorem o_addL {a e : Addr} {xs ys : List V} (h1 : H a = some (.lst xs)) (h2 : H e = some (.lst ys)) (h : xs.length + ys.length ≤ 100000) (q : ∀ p, H p = none → Q (.ref p) (upd H p (.lst (xs ++ ys)))) : rAddA K (.ref a) (.ref e) H Q :=
  .inl ⟨a, e, xs, ys, rfl, rfl, h1, h2, sz_of h, q⟩
theorem o_subI (q : Q (.int (p - q')) H) : rSubI (.int p) (.int q') H Q := ⟨p, q', rfl, rfl, q⟩
theorem o_mulI (h : CMul p q') (q : Q (.int (p * q')) H) : rMulA (.int p) (.int q') H Q := ⟨h, q⟩
theorem o_fdiv (h : CDiv p q') (q : Q (.int (p / q')) H) : rFdivI (.int p) (.int q') H Q := ⟨p, q', rfl, rfl, h, q⟩
theorem o_mod (h : 0 < q') (q : Q (.int (p % q')) H) : rModI (.int p) (.int q') H Q := ⟨p, q', rfl, rfl, h, q⟩
theorem o_lt (q : Q (.bl (decide (p < q'))) H) : rLtI (.int p) (.int q') H Q := ⟨p, q', rfl, rfl, q⟩
theorem o_le (q : Q (.bl (decide (p ≤ q'))) H) : rLeI (.int p) (.int q') H Q := ⟨p, q', rfl, rfl, q⟩
theorem o_gt (q : Q (.bl (decide (q' < p))) H) : rGtI (.int p) (.int q') H Q := ⟨p, q', rfl, rfl, q⟩
theorem o_ge (q : Q (.bl (decide (q' ≤ p))) H) : rGeI (.int p) (.int q') H Q := ⟨p, q', rfl, rfl, q⟩
theorem dInt {a b : Int} : decide (V.int a = V.int b) = decide (a = b) := by simp
theorem dBl {a b : Bool} : decide (V.bl a = V.bl b) = decide (a = b) := by simp
theorem dStr {a b : Str} : decide (V.str a = V.str b) = decide (a = b) := by simp
theorem o_eqI (q : Q (.bl (decide (p = q'))) H) : rEqA K (.int p) (.int q') H Q := .inl ⟨rfl, by rw [dInt]; exact q⟩
theorem o_eqB (q : Q (.bl (decide (k1 = k2))) H) : rEqA K (.bl k1) (.bl k2) H Q := .inl ⟨rfl, by rw [dBl]; exact q⟩
theorem o_eqS (q : Q (.bl (decide (s = z))) H) : rEqA K (.str s) (.str z) H Q := .inl ⟨rfl, by rw [dStr]; exact q⟩
theorem o_neI (q : Q (.bl (!decide (p = q'))) H) : rNeA K (.int p) (.int q') H Q := .inl ⟨rfl, by rw [dInt]; exact q⟩
theorem o_neB (q : Q (.bl (!decide (k1 = k2))) H) : rNeA K (.bl k1) (.bl k2) H Q := .inl ⟨rfl, by rw [dBl]; exact q⟩
theorem o_neS (q : Q (.bl (!decide (s = z))) H) : rNeA K (.str s) (.str z) H Q := .inl ⟨rfl, by rw [dStr]; exact q⟩
theorem o_isN (q : Q (.bl (decide (x = .non))) H) : rIsNone x .non H Q := ⟨rfl, q⟩
theorem o_notN (q : Q (.bl (!decide (x = .non))) H) : rNotNone x .non H Q := ⟨rfl, q⟩
theorem o_max (q : Q (.int (if q' > p then q' else p)) H) : rMax2I [.int p, .int q'] H Q := q
theorem o_min (q : Q (.int (if q' < p then q' else p)) H) : rMin2I [.int p, .int q'] H Q := q
theorem o_intI (q : Q (.int p) H) : rIntA [.int p] H Q := q
theorem o_intB (q : Q (.int (if k1 then 1 else 0)) H) : rIntA [.bl k1] H Q := q
theorem o_abs (q : Q (.int (if p < 0 then -p else p)) H) : rAbsI [.int p] H Q := q
theorem o_ixL {a : Addr} {xs : List V} (h : SqL K H a xs) (e : atI xs p = some v) (q : Q v H) : rIx K (.ref a) (.int p) H Q := .inl ⟨a, xs, p, v, rfl, rfl, h, e, q⟩
theorem o_ixT {a : Addr} {xs : List V} (h : SqT K H a xs) (e : atI xs p = some v) (q : Q v H) : rIx K (.ref a) (.int p) H Q := .inr (.inl ⟨a, xs, p, v, rfl, rfl, h, e, q⟩)
theorem o_lenL {a : Addr} {xs : List V} (h : SqL K H a xs) (q : Q (.int xs.length) H) : rLenA K [.ref a] H Q := ⟨.ref a, xs.length, rfl, .inl ⟨xs, h, rfl⟩, q⟩
theorem o_lenT {a : Addr} {xs : List V} (h : SqT K H a xs) (q : Q (.int xs.length) H) : rLenA K [.ref a] H Q := ⟨.ref a, xs.length, rfl, .inr ⟨xs, h, rfl⟩, q⟩
/-! isinstance -/
theorem o_isi {c : V} {tv uv : Value} {k : Bool} (h1 : ClsV c uv) (h2 : TyX K H x tv) (h3 : PySem.W.kitOne K tv uv = some k) (q : Q (.bl k) H) : rIsi K [x, c] H Q := ⟨x, c, tv, uv, k, rfl, h1, h2, h3, q⟩
end
end L2.MP
namespace L2.MP
open PySem PySem.Spec PyProof.Rows
/-! ### looking up in written attribute lists -/
theorem lk0 {f : Str} {v : V} {r : List (Str × V)} : ((f, v) :: r).lookup f = some v := by rw [List.lookup_cons, beq_self_eq_true]
theorem lkS {f k : Str} {u v : V} {r : List (Str × V)} (h : (f == k) = false) (e : r.lookup f = some v) : ((k, u) :: r).lookup f = some v := by rw [List.lookup_cons, h]; exact e
theorem lkN0 {f : Str} : ([] : List (Str × V)).lookup f = none := rfl
theorem lkNS {f k : Str} {u : V} {r : List (Str × V)} (h : (f == k) = false) (e : r.lookup f = none) : ((k, u) :: r).lookup f = none := by rw [List.lookup_cons, h]; exact e
theorem pf0 {f : Str} {v : V} : putF f v [] = [(f, v)] := rfl
theorem pfE {f : Str} {u v : V} {r : List (Str × V)} : putF f v ((f, u) :: r) = (f, v) :: r := by
  show (if f = f then (f, v) :: r else (f, u) :: putF f v r) = _
  rw [if_pos rfl]
theorem pfS {f k : Str} {u v : V} {r r' : List (Str × V)} (h : (k == f) = false) (e : putF f v r = r') : putF f v ((k, u) :: r) = (k, u) :: r' := by
  show (if k = f then (k, v) :: r else (k, u) :: putF f v r) = _
  rw [if_neg (fun z => by rw [z, beq_self_eq_true] at h; cases h), e]
/-! ### isinstance -/
class IsiC (K : PySem.W.Frag) (C : Addr) : Prop where
  cl : Cls K C
  ha : PySem.W.findIn K (.ref C) "__class__" = some (some (.builtin "object.__class__"))
  hn : PySem.W.specialIn K (.builtin "object.__class__") "__get__" = some (some (.builtin "getset_descriptor.__get__"))
  tk : PySem.W.takesIn K (.builtin "object.__class__") = some true
  hm : PySem.W.mroIn K C (.type "object") = some true
def isiB (x : Str) (K : PySem.W.Frag) : Bool := He.eqO (PySem.W.findIn K (.ref (He.ga K x)) "__class__") (some (some (.builtin "object.__class__"))) && (He.eqO (PySem.W.specialIn K (.builtin "object.__class__") "__get__") (some (some (.builtin "getset_descriptor.__get__"))) &&
  (decide (PySem.W.takesIn K (.builtin "object.__class__") = some true) && decide (PySem.W.mroIn K (He.ga K x) (.type "object") = some true)))
theorem isiB_ok {x : Str} {K : PySem.W.Frag} (cl : Cls K (He.ga K x)) (h : isiB x K = true) : IsiC K (He.ga K x) := by
  obtain ⟨h1, h⟩ := He.ba h
  obtain ⟨h2, h⟩ := He.ba h
  obtain ⟨h3, h4⟩ := He.ba h
  exact ⟨cl, He.eqO_ok h1, He.eqO_ok h2, of_decide_eq_true h3, of_decide_eq_true h4⟩
class Kit (K : PySem.W.Frag) (t c : Value) (k : outParam Bool) : Prop where
  eq : PySem.W.kitOne K t c = some k
/-- the built-in type of a plain value -/
class TyN (x : V) (T : outParam String) : Prop where
  ty : ∀ K H, TyX K H x (.type T)
instance : TyN .non "NoneType" := ⟨fun _ _ => .base .non⟩
instance {b : Bool} : TyN (.bl b) "bool" := ⟨fun _ _ => .base (.bl b)⟩
instance {i : Int} : TyN (.int i) "int" := ⟨fun _ _ => .base (.int i)⟩
instance {s : Str} : TyN (.str s) "str" := ⟨fun _ _ => .base (.str s)⟩
section
variable {K : PySem.W.Frag}
theorem kb {a b : String} {k : Bool} (h : kitB a b = some k) : Kit K (.type a) (.type b) k := ⟨kit_ty h⟩
instance : Kit K (.type "NoneType") (.type "int") false := kb (by decide +kernel)
instance : Kit K (.type "NoneType") (.type "bool") false := kb (by decide +kernel)
instance : Kit K (.type "NoneType") (.type "str") false := kb (by decide +kernel)
instance : Kit K (.type "NoneType") (.type "list") false := kb (by decide +kernel)
instance : Kit K (.type "NoneType") (.type "tuple") false := kb (by decide +kernel)
instance : Kit K (.type "bool") (.type "int") true := kb (by decide +kernel)
instance : Kit K (.type "bool") (.type "bool") true := kb (by decide +kernel)
instance : Kit K (.type "bool") (.type "str") false := kb (by decide +kernel)
instance : Kit K (.type "bool") (.type "list") false := kb (by decide +kernel)
instance : Kit K (.type "bool") (.type "tuple") false := kb (by decide +kernel)
instance : Kit K (.type "int") (.type "int") true := kb (by decide +kernel)
instance : Kit K (.type "int") (.type "bool") false := kb (by decide +kernel)
instance : Kit K (.type "int") (.type "str") false := kb (by decide +kernel)
instance : Kit K (.type "int") (.type "list") false := kb (by decide +kernel)
instance : Kit K (.type "int") (.type "tuple") false := kb (by decide +kernel)
instance : Kit K (.type "str") (.type "int") false := kb (by decide +kernel)
instance : Kit K (.type "str") (.type "bool") false := kb (by decide +kernel)
instance : Kit K (.type "str") (.type "str") true := kb (by decide +kernel)
instance : Kit K (.type "str") (.type "list") false := kb (by decide +kernel)
instance : Kit K (.type "str") (.type "tuple") false := kb (by decide +kernel)
instance : Kit K (.type "list") (.type "int") false := kb (by decide +kernel)
instance : Kit K (.type "list") (.type "bool") false := kb (by decide +kernel)
instance : Kit K (.type "list") (.type "str") false := kb (by decide +kernel)
instance : Kit K (.type "list") (.type "list") true := kb (by decide +kernel)
instance : Kit K (.type "list") (.type "tuple") false := kb (by decide +kernel)
instance : Kit K (.type "tuple") (.type "int") false := kb (by decide +kernel)
instance : Kit K (.type "tuple") (.type "bool") false := kb (by decide +kernel)
instance : Kit K (.type "tuple") (.type "str") false := kb (by decide +kernel)
instance : Kit K (.type "tuple") (.type "list") false := kb (by decide +kernel)
instance : Kit K (.type "tuple") (.type "tuple") true := kb (by decide +kernel)
variable {H : Hp} {Q : VK} {x : V} {a C dx D : Addr} {fs : List (Str × V)} {k : Bool} {T S : String}
theorem i_plain [t : TyN x T] [c : Kit K (.type T) (.type S) k] (q : Q (.bl k) H) : rIsi K [x, .ty S] H Q := o_isi (.ty S) (t.ty K H) c.eq q
theorem i_plainC [t : TyN x T] [c : Kit K (.type T) (.ref D) k] (q : Q (.bl k) H) : rIsi K [x, .ref D] H Q := o_isi (.own D) (t.ty K H) c.eq q
theorem i_insC (h : H a = some (.ins C dx fs)) (i : IsiC K C) (c : Kit K (.ref C) (.ref D) k) (q : Q (.bl k) H) : rIsi K [.ref a, .ref D] H Q := o_isi (.own D) (.base (.ins h i.cl i.ha i.hn i.tk i.hm)) c.eq q
theorem i_lst {xs : List V} (h : H a = some (.lst xs)) (c : Kit K (.type "list") (.type S) k) (q : Q (.bl k) H) : rIsi K [.ref a, .ty S] H Q := o_isi (.ty S) (.base (.lst h)) c.eq q
theorem i_tup {xs : List V} (h : H a = some (.tup xs)) (c : Kit K (.type "tuple") (.type S) k) (q : Q (.bl k) H) : rIsi K [.ref a, .ty S] H Q := o_isi (.ty S) (.base (.tup h)) c.eq q
end
end L2.MP
namespace L2.MP
open PySem PySem.Spec PyProof.Rows
/-! ### loops, turn by turn -/
section
variable {K : PySem.W.Frag} {σ : St} {H : Hp} {n b c : St → Hp → Prop} {r : VK} {i : Nat} {tb : TS} {tr : TA} {te : TE}
/-- cnt turns from x on -/
def RFor (i : Nat) (tb : TS) (n : St → Hp → Prop) (r : VK) : Nat → Int → St → Hp → Prop
  | 0, _ => n
  | m + 1, x => fun σ H => tb ⟨RFor i tb n r m (x + 1), r, n, RFor i tb n r m (x + 1)⟩ (σ.set i (some (.int x))) H
theorem k_forN (h : RFor i tb n r 0 x σ H) : n σ H := h
theorem rfor_ok {lo : Int} {cnt : Nat} (h : RFor i tb n r cnt lo σ H) {D : Ends} (e : D = ⟨n, r, b, c⟩) : ∃ W : Nat → Nat → St → Hp → Prop, (∃ m, W 0 m σ H) ∧ ∀ i' m σ H, W i' m σ H →
      ((Itr lo cnt).stop i' H ∧ D.nx σ H) ∨ ((Itr lo cnt).go i' H ∧ ∃ N : St → Hp → Prop, (∀ σ' H', N σ' H' → ∃ m', m' < m ∧ W (i' + 1) m' σ' H') ∧ ∀ x H', (Itr lo cnt).yld i' H x H' → gName i x σ H' fun σ2 H2 => tb { nx := N, rt := D.rt, bk := D.nx, ct := N } σ2 H2) := by
  subst e
  refine for_range (D := ⟨n, r, b, c⟩) (fun j σ H => j ≤ cnt ∧ RFor i tb n r (cnt - j) (lo + j) σ H) ⟨Nat.zero_le _, by simpa using h⟩ (fun j σ H hj ⟨_, q⟩ => ?_) (fun σ H ⟨_, q⟩ => ?_)
  · obtain ⟨m, hm⟩ : ∃ m, cnt - j = m + 1 := ⟨cnt - j - 1, by omega⟩
    rw [hm] at q
    have e1 : cnt - (j + 1) = m := by omega
    have e2 : lo + ((j + 1 : Nat) : Int) = lo + (j : Int) + 1 := by omega
    have ef : (fun σ H => j + 1 ≤ cnt ∧ RFor i tb n r (cnt - (j + 1)) (lo + ((j + 1 : Nat) : Int)) σ H) = RFor i tb n r m (lo + j + 1) := by
      funext σ H
      rw [e1, e2]
      exact propext ⟨fun z => z.2, fun z => ⟨hj, z⟩⟩
    show tb ⟨fun σ H => j + 1 ≤ cnt ∧ RFor i tb n r (cnt - (j + 1)) (lo + ((j + 1 : Nat) : Int)) σ H, r, n, fun σ H => j + 1 ≤ cnt ∧ RFor i tb n r (cnt - (j + 1)) (lo + ((j + 1 : Nat) : Int)) σ H⟩ _ _
    rw [ef]
    exact q
  · rw [Nat.sub_self] at q
    exact q
/-- what a for asks of its turns -/
def FW (J : It) (i : Nat) (tb : TS) (D : Ends) (σ : St) (H : Hp) : Prop := ∃ W : Nat → Nat → St → Hp → Prop, (∃ m, W 0 m σ H) ∧ ∀ i' m σ H, W i' m σ H →
  (J.stop i' H ∧ D.nx σ H) ∨ (J.go i' H ∧ ∃ N : St → Hp → Prop, (∀ σ' H', N σ' H' → ∃ m', m' < m ∧ W (i' + 1) m' σ' H') ∧ ∀ x H', J.yld i' H x H' → gName i x σ H' fun σ2 H2 => tb { D with nx := N, ct := N, bk := D.nx } σ2 H2)
def RR1 (i : Nat) (tb : TS) (D : Ends) (σ : St) (vs : List V) (H : Hp) : Prop := ∃ j : Int, vs = [.int j] ∧ -(2 ^ 62) ≤ j ∧ j < 2 ^ 62 ∧ FW (Itr 0 j.toNat) i tb D σ H
def RR2 (i : Nat) (tb : TS) (D : Ends) (σ : St) (vs : List V) (H : Hp) : Prop := ∃ lo hi : Int, vs = [.int lo, .int hi] ∧ (-(2 ^ 62) ≤ lo ∧ lo < 2 ^ 62 ∧ -(2 ^ 62) ≤ hi ∧ hi < 2 ^ 62) ∧ FW (Itr lo (hi - lo).toNat) i tb D σ H
def RL (K : PySem.W.Frag) (i : Nat) (tb : TS) (D : Ends) (σ : St) (x : V) (H : Hp) : Prop := ∃ a, x = .ref a ∧ (∃ xs, SqL K H a xs) ∧ FW (Itl K a) i tb D σ H
def RT (K : PySem.W.Frag) (i : Nat) (tb : TS) (D : Ends) (σ : St) (x : V) (H : Hp) : Prop := ∃ a, x = .ref a ∧ (∃ xs, SqT K H a xs) ∧ FW (Itt K a) i tb D σ H
theorem k_forR1 (h : tr σ H (RR1 i tb ⟨n, r, b, c⟩ σ)) : tFor (iRng1 tr) (gName i) tb ⟨n, r, b, c⟩ σ H := h
theorem k_forR2 (h : tr σ H (RR2 i tb ⟨n, r, b, c⟩ σ)) : tFor (iRng2 tr) (gName i) tb ⟨n, r, b, c⟩ σ H := h
theorem k_forL (h : te σ H (RL K i tb ⟨n, r, b, c⟩ σ)) : tFor (iList K te) (gName i) tb ⟨n, r, b, c⟩ σ H := h
theorem k_forT (h : te σ H (RT K i tb ⟨n, r, b, c⟩ σ)) : tFor (iTup K te) (gName i) tb ⟨n, r, b, c⟩ σ H := h
/-- a range, all its turns written -/
theorem k_rr1 {j : Int} (h : -(2 ^ 62) ≤ j ∧ j < 2 ^ 62) (q : RFor i tb n r j.toNat 0 σ H) : RR1 i tb ⟨n, r, b, c⟩ σ [.int j] H := ⟨j, rfl, h.1, h.2, rfor_ok q rfl⟩
theorem k_rr2 {lo hi : Int} (h : -(2 ^ 62) ≤ lo ∧ lo < 2 ^ 62 ∧ -(2 ^ 62) ≤ hi ∧ hi < 2 ^ 62) (q : RFor i tb n r (hi - lo).toNat lo σ H) : RR2 i tb ⟨n, r, b, c⟩ σ [.int lo, .int hi] H := ⟨lo, hi, rfl, h, rfor_ok q rfl⟩
/-- a range by an invariant -/
theorem k_rr1I {j : Int} (h : 0 ≤ j ∧ j < 2 ^ 62) (P : Nat → St → Hp → Prop) (h0 : P 0 σ H) (ht : ∀ (m : Nat) σ H, (m : Int) < j → P m σ H → tb ⟨P (m + 1), r, n, P (m + 1)⟩ (σ.set i (some (.int m))) H) (hd : ∀ σ H, P j.toNat σ H → n σ H) : RR1 i tb ⟨n, r, b, c⟩ σ [.int j] H := by
  refine ⟨j, rfl, by omega, h.2, for_range (D := ⟨n, r, b, c⟩) P h0 (fun m σ H hm q => ?_) hd⟩
  have := ht m σ H (by omega) q
  show tb _ (σ.set i (some (.int (0 + (m : Int))))) H
  rw [Int.zero_add]
  exact this
/-- a list, turn by turn -/
def RForL (K : PySem.W.Frag) (a : Addr) (all : List V) (i : Nat) (tb : TS) (n : St → Hp → Prop) (r : VK) : List V → St → Hp → Prop
  | [] => fun σ H => SqL K H a all ∧ n σ H
  | x :: rest => fun σ H => SqL K H a all ∧ tb ⟨RForL K a all i tb n r rest, r, n, RForL K a all i tb n r rest⟩ (σ.set i (some x)) H
theorem RForL.sq {a : Addr} {all : List V} : ∀ {rest : List V} {σ : St} {H : Hp}, RForL K a all i tb n r rest σ H → SqL K H a all
  | [], _, _, h => h.1
  | _ :: _, _, _, h => h.1
theorem k_rl {a : Addr} {xs : List V} (h : SqL K H a xs) (q : RForL K a xs i tb n r xs σ H) : RL K i tb ⟨n, r, b, c⟩ σ (.ref a) H := by
  refine ⟨a, rfl, ⟨xs, h⟩, for_list (D := ⟨n, r, b, c⟩) (fun j σ H => RForL K a xs i tb n r (xs.drop j) σ H) q (fun j σ H _ z => z.sq) (fun j x σ H hj z => ?_) (fun σ H z => ?_)⟩
  · have e : xs.drop j = x :: xs.drop (j + 1) := by
      obtain ⟨hl, e⟩ := List.getElem?_eq_some_iff.mp hj
      rw [List.drop_eq_getElem_cons hl, e]
    rw [e] at z
    exact z.2
  · rw [List.drop_length] at z
    exact z.2
theorem k_rlI {a : Addr} {xs : List V} (h : SqL K H a xs) (P : Nat → St → Hp → Prop) (h0 : P 0 σ H) (hl : ∀ (m : Nat) σ H, m ≤ xs.length → P m σ H → SqL K H a xs)
    (ht : ∀ (m : Nat) x σ H, xs[m]? = some x → P m σ H → tb ⟨P (m + 1), r, n, P (m + 1)⟩ (σ.set i (some x)) H) (hd : ∀ σ H, P xs.length σ H → n σ H) : RL K i tb ⟨n, r, b, c⟩ σ (.ref a) H :=
  ⟨a, rfl, ⟨xs, h⟩, for_list (D := ⟨n, r, b, c⟩) P h0 hl (fun m x σ H hm q => ht m x σ H hm q) hd⟩
def RForT (K : PySem.W.Frag) (a : Addr) (all : List V) (i : Nat) (tb : TS) (n : St → Hp → Prop) (r : VK) : List V → St → Hp → Prop
  | [] => fun σ H => SqT K H a all ∧ n σ H
  | x :: rest => fun σ H => SqT K H a all ∧ tb ⟨RForT K a all i tb n r rest, r, n, RForT K a all i tb n r rest⟩ (σ.set i (some x)) H
theorem RForT.sq {a : Addr} {all : List V} : ∀ {rest : List V} {σ : St} {H : Hp}, RForT K a all i tb n r rest σ H → SqT K H a all
  | [], _, _, h => h.1
  | _ :: _, _, _, h => h.1
theorem k_rt {a : Addr} {xs : List V} (h : SqT K H a xs) (q : RForT K a xs i tb n r xs σ H) : RT K i tb ⟨n, r, b, c⟩ σ (.ref a) H := by
  refine ⟨a, rfl, ⟨xs, h⟩, for_tup (D := ⟨n, r, b, c⟩) (fun j σ H => RForT K a xs i tb n r (xs.drop j) σ H) q (fun j σ H _ z => z.sq) (fun j x σ H hj z => ?_) (fun σ H z => ?_)⟩
  · have e : xs.drop j = x :: xs.drop (j + 1) := by
      obtain ⟨hl, e⟩ := List.getElem?_eq_some_iff.mp hj
      rw [List.drop_eq_getElem_cons hl, e]
    rw [e] at z
    exact z.2
  · rw [List.drop_length] at z
    exact z.2
theorem k_turnL {a : Addr} {all rest : List V} {x : V} {σ' : St} (h : SqL K H a all) [c : SetC σ i (some x) σ'] (q : tb ⟨RForL K a all i tb n r rest, r, n, RForL K a all i tb n r rest⟩ σ' H) : RForL K a all i tb n r (x :: rest) σ H := ⟨h, by rw [c.eq]; exact q⟩
theorem k_doneL {a : Addr} {all : List V} (h : SqL K H a all) (q : n σ H) : RForL K a all i tb n r [] σ H := ⟨h, q⟩
theorem k_turnT {a : Addr} {all rest : List V} {x : V} {σ' : St} (h : SqT K H a all) [c : SetC σ i (some x) σ'] (q : tb ⟨RForT K a all i tb n r rest, r, n, RForT K a all i tb n r rest⟩ σ' H) : RForT K a all i tb n r (x :: rest) σ H := ⟨h, by rw [c.eq]; exact q⟩
theorem k_doneT {a : Addr} {all : List V} (h : SqT K H a all) (q : n σ H) : RForT K a all i tb n r [] σ H := ⟨h, q⟩
theorem k_turnR {m : Nat} {x x' : Int} {σ' : St} [c : SetC σ i (some (.int x)) σ'] (e : x + 1 = x') (q : tb ⟨RFor i tb n r m x', r, n, RFor i tb n r m x'⟩ σ' H) : RFor i tb n r (m + 1) x σ H := by
  subst e
  show tb _ _ H
  rw [c.eq]
  exact q
theorem k_doneR {x : Int} (q : n σ H) : RFor i tb n r 0 x σ H := q
end
end L2.MP
namespace L2.MP
open PySem PySem.Spec PyProof.Rows
section
variable {K : PySem.W.Frag} {σ : St} {H : Hp} {n b c : St → Hp → Prop} {r : VK} {i : Nat} {tb : TS}
theorem k_rr1L (m : Nat) {j : Int} (e : j = (m : Int)) (hm : m < 2 ^ 62) (q : RFor i tb n r m 0 σ H) : RR1 i tb ⟨n, r, b, c⟩ σ [.int j] H := by
  subst e
  exact k_rr1 ⟨by omega, by omega⟩ (by rw [Int.toNat_natCast]; exact q)
/-- the law's cell of the script -/
def cellv (ns : List Int) (i : Int) : Int := ns.getD i.toNat 0
theorem cell_at {ns : List Int} {i : Int} (h0 : 0 ≤ i) (h : i < (ns.map V.int).length) : atI (ns.map V.int) i = some (.int (cellv ns i)) := by
  obtain ⟨m, rfl⟩ : ∃ m : Nat, i = (m : Int) := ⟨i.toNat, by omega⟩
  have hm : m < ns.length := by simpa using h
  rw [atI_nat (v := V.int (cellv ns m)) ?_]
  simp [cellv, List.getD, hm]
theorem cell_out {ns : List Int} {i : Int} (h0 : 0 ≤ i) (h : ¬ i < (ns.map V.int).length) : cellv ns i = 0 := by
  have hm : ns.length ≤ i.toNat := by simp at h; omega
  simp [cellv, List.getD, List.getElem?_eq_none hm]
end
end L2.MP
namespace L2.MP
open PySem PySem.Spec PyProof.Rows
section
variable {K : PySem.W.Frag} {H : Hp} {Q : VK} {v : V} {p : Int} {a : Addr} {xs : List V}
theorem atI_toNat {α : Type} {xs : List α} {v : α} (h0 : 0 ≤ p) (e : xs[p.toNat]? = some v) : atI xs p = some v := by
  obtain ⟨m, rfl⟩ : ∃ m : Nat, p = (m : Int) := ⟨p.toNat, by omega⟩
  exact atI_nat (by simpa using e)
theorem o_ixTn (h : SqT K H a xs) (h0 : 0 ≤ p) (e : xs[p.toNat]? = some v) (q : Q v H) : rIx K (.ref a) (.int p) H Q := o_ixT h (atI_toNat h0 e) q
theorem o_ixLn (h : SqL K H a xs) (h0 : 0 ≤ p) (e : xs[p.toNat]? = some v) (q : Q v H) : rIx K (.ref a) (.int p) H Q := o_ixL h (atI_toNat h0 e) q
end
end L2.MP

set_option Elab.async false
set_option linter.all false
set_option maxRecDepth 100000
set_option maxHeartbeats 4000000
/-! Steps for dicts, own subscripts, methods of texts and lists. -/
namespace L2.MP
open PySem PySem.Spec PyProof.Rows
class DNe (a b : Str) : Prop where
  ne : a ≠ b
class ValC (kvs : List (Key × V)) (s : Str) (v : outParam V) : Prop where
  eq : valV kvs (.inr s) = some v
instance {r : List (Key × V)} {s : Str} {v : V} : ValC ((.inr s, v) :: r) s v := ⟨valV_pos rfl⟩
instance {r : List (Key × V)} {s t : Str} {v u : V} [d : DNe t s] [c : ValC r s v] : ValC ((.inr t, u) :: r) s v := ⟨by rw [valV_neg (fun e => d.ne (Sum.inr.inj e))]; exact c.eq⟩
class TdS (trs : List (TE × TE)) (l : outParam (List (Str × Str))) : Prop where
  eq : trs = l.map fun p => (tC (.str p.1), tC (.str p.2))
instance : TdS [] [] := ⟨rfl⟩
instance {a b : Str} {r : List (TE × TE)} {l : List (Str × Str)} [c : TdS r l] : TdS ((tC (.str a), tC (.str b)) :: r) ((a, b) :: l) := ⟨by rw [c.eq]; rfl⟩
class PutC (kvs : List (Key × V)) (s : Str) (v : V) (out : outParam (List (Key × V))) : Prop where
  eq : putK kvs (.inr s) v = out
class NoC (kvs : List (Key × V)) (s : Str) : Prop where
  eq : (kvs.any fun kv => decide (kv.1 = .inr s)) = false
instance {s : Str} : NoC [] s := ⟨rfl⟩
instance {r : List (Key × V)} {s t : Str} {u : V} [d : DNe t s] [c : NoC r s] : NoC ((.inr t, u) :: r) s := ⟨by
  rw [List.any_cons, c.eq, Bool.or_false]
  exact decide_eq_false (fun e => d.ne (Sum.inr.inj e))⟩
theorem put_new {kvs : List (Key × V)} {s : Str} {v : V} (c : NoC kvs s) : putK kvs (.inr s) v = kvs ++ [(.inr s, v)] := by
  unfold putK
  rw [if_neg (by rw [c.eq]; decide)]
section
variable {K : PySem.W.Frag} {σ : St} {H : Hp} {Q : VK} {td ty tv te ta : TE} {tr : TA} {n b c : St → Hp → Prop} {r : VK} {x y v u : V} {a p : Addr} {s z : Str} {kvs gs : List (Key × V)}
def NewD (H : Hp) (Q : VK) : Prop := ∀ p, H p = none → Q (.ref p) (upd H p (.dK []))
theorem k_newK (h : NewD H Q) : tDNewK σ H Q := h
theorem k_newD (q : ∀ p, H p = none → Q (.ref p) (upd H p (.dK []))) : NewD H Q := q
def RDGet (x y : V) (H : Hp) (Q : VK) : Prop := ∃ a v, x = .ref a ∧ DGet H a y (some v) ∧ Q v H
theorem k_dget (h : td σ H fun x H1 => ty σ H1 fun y H2 => RDGet x y H2 Q) : tDGet td ty σ H Q := h
theorem k_rdget (h : H a = some (.dK kvs)) (e : valV kvs (.inr s) = some v) (q : Q v H) : RDGet (.ref a) (.str s) H Q := ⟨a, v, rfl, e ▸ DGet.k (k := .inr s) h, q⟩
def RDGet2 (x y z : V) (H : Hp) (Q : VK) : Prop := ∃ a, x = .ref a ∧ ∃ o, DGet H a y o ∧ Q (o.getD z) H
def RDG2 (ty tx : TE) (σ : St) (Q : VK) (x : V) (H : Hp) : Prop := ∃ a, x = .ref a ∧ IsD H a ∧ ty σ H fun y H2 => tx σ H2 fun z H3 => ∃ o, DGet H3 a y o ∧ Q (o.getD z) H3
theorem k_dget2 {tx : TE} (h : td σ H (RDG2 ty tx σ Q)) : tDGet2 td ty tx σ H Q := h
def RDo (a : Addr) (Q : VK) (y z : V) (H : Hp) : Prop := ∃ o, DGet H a y o ∧ Q (o.getD z) H
theorem k_rdg2 {tx : TE} (h : H a = some (.dK kvs)) (q : ty σ H fun y H2 => tx σ H2 fun z H3 => RDo a Q y z H3) : RDG2 ty tx σ Q (.ref a) H := ⟨a, rfl, .inl ⟨kvs, .inl h⟩, q⟩
theorem k_rdo {z : V} (h : H a = some (.dK kvs)) (q : Q ((valV kvs (.inr s)).getD z) H) : RDo a Q (.str s) z H := ⟨_, DGet.k (k := .inr s) h, q⟩
def RDPut (x y v : V) (H : Hp) (k : Hp → Prop) : Prop := ∃ a H4, x = .ref a ∧ DPut H a y v H4 ∧ k H4
theorem k_dput (h : tv σ H fun v H1 => td σ H1 fun x H2 => ty σ H2 fun y H3 => RDPut x y v H3 (fun H4 => n σ H4)) : sDPut td ty tv ⟨n, r, b, c⟩ σ H := h
theorem k_rdput {k : Hp → Prop} (h : H a = some (.dK kvs)) (hl : kvs.length ≤ 90000) (e : putK kvs (.inr s) v = gs) (q : k (upd H a (.dK gs))) : RDPut (.ref a) (.str s) v H k := ⟨a, _, rfl, DPut.k (k := .inr s) h (szl_of (by omega)), by rw [e]; exact q⟩
theorem k_rdputC {k : Hp → Prop} (h : H a = some (.dK kvs)) (hl : kvs.length ≤ 90000) (e : PutC kvs s v gs) (q : k (upd H a (.dK gs))) : RDPut (.ref a) (.str s) v H k := k_rdput h hl e.eq q
theorem k_rdgetC (h : H a = some (.dK kvs)) (e : ValC kvs s v) (q : Q v H) : RDGet (.ref a) (.str s) H Q := k_rdget h e.eq q
/-! a display of texts -/
def dS (l : List (Str × Str)) : List (Key × V) := l.map fun p => (.inr p.1, .str p.2)
theorem tPairs_S {σ : St} (l : List (Str × Str)) : ∀ {H : Hp} {R : List (V × V) → Hp → Prop}, R (l.map fun p => (V.str p.1, V.str p.2)) H → tPairs (l.map fun p => (tC (.str p.1), tC (.str p.2))) σ H R := by
  induction l with
  | nil => intro H R q; exact q
  | cons a l ih =>
    intro H R q
    show tPairs (l.map fun p => (tC (.str p.1), tC (.str p.2))) σ H fun ps H3 => R ((V.str a.1, V.str a.2) :: ps) H3
    exact ih q
def RDisp (l : List (Str × Str)) (H : Hp) (Q : VK) : Prop := ∀ p, H p = none → Q (.ref p) (upd H p (.dK (mergeK [] (dS l))))
theorem k_disp {trs : List (TE × TE)} {l : List (Str × Str)} [c : TdS trs l] (hl : l.length ≤ 15) (q : ∀ p, H p = none → Q (.ref p) (upd H p (.dK (mergeK [] (dS l))))) : tDisp trs σ H Q := by
  intro p hp
  rw [c.eq]
  refine tPairs_S l ⟨upd_same, dS l, ?_, by rw [dS, List.length_map]; exact hl, ?_⟩
  · rw [dS, List.map_map]; rfl
  · rw [upd_upd]; exact q p hp
/-! texts and lists -/
def RM1 (ro : V → List V → Hp → VK → Prop) (te : TE) (σ : St) (Q : VK) (x : V) (H : Hp) : Prop := (∃ a, x = .str a) ∧ te σ H fun y H2 => ro x [y] H2 Q
theorem k_m1 {ro : V → List V → Hp → VK → Prop} (h : td σ H (RM1 ro te σ Q)) : tM1 ro td te σ H Q := h
theorem k_rm1 {ro : V → List V → Hp → VK → Prop} (h : te σ H fun y H2 => ro (.str s) [y] H2 Q) : RM1 ro te σ Q (.str s) H := ⟨⟨s, rfl⟩, h⟩
theorem o_split {l : List Str} (hz : (z.length == 0) = false) (hs : s.length ≤ 90000) (e : Txt.split s z = l) (hl : l.length ≤ 90000) (q : ∀ p, H p = none → Q (.ref p) (upd H p (.lst (l.map V.str)))) : rSplitA (.str s) [.str z] H Q :=
  ⟨s, z, rfl, rfl, hz, sz_of (by omega), by subst e; exact q⟩
def RBM (K : PySem.W.Frag) (T : String) (ro : V → List V → Hp → VK → Prop) (tr : TA) (σ : St) (Q : VK) (x : V) (H : Hp) : Prop := tyV K T x H ∧ tr σ H fun xs H2 => ro x xs H2 Q
theorem k_bm {ro : V → List V → Hp → VK → Prop} {T : String} (h : ta σ H (RBM K T ro tr σ Q)) : tBM K T ro ta tr σ H Q := h
theorem k_rbmL {ro : V → List V → Hp → VK → Prop} {xs : List V} (h : SqL K H a xs) (q : tr σ H fun xs H2 => ro (.ref a) xs H2 Q) : RBM K "list" ro tr σ Q (.ref a) H := ⟨.inl ⟨rfl, xs, h⟩, q⟩
theorem o_append {xs : List V} (h : H a = some (.lst xs)) (hl : xs.length ≤ 90000) (q : Q .non (upd H a (.lst (xs ++ [y])))) : rAppend (.ref a) [y] H Q := ⟨a, xs, y, rfl, rfl, h, szl_of (by omega), q⟩
/-! own subscripts -/
def ROwnIx (C : Addr) (sp : Sp) (E : XK) (x y : V) (H : Hp) (Q : VK) : Prop := ∃ a dx fs, x = .ref a ∧ H a = some (.ins C dx fs) ∧ sp [.ref a, y] H Q E
theorem k_ownIx {C : Addr} {sp : Sp} {E : St → XK} (h : ta σ H fun x H1 => te σ H1 fun y H2 => ROwnIx C sp (E σ) x y H2 Q) : tOwnIx C sp E ta te σ H Q := h
theorem k_rownIx {C dx : Addr} {sp : Sp} {E : XK} {fs : List (Str × V)} (h : H a = some (.ins C dx fs)) (q : sp [.ref a, y] H Q E) : ROwnIx C sp E (.ref a) y H Q := ⟨a, dx, fs, rfl, h, q⟩
def ROwnPut (C : Addr) (sp : Sp) (E : XK) (x y v : V) (H : Hp) (k : Hp → Prop) : Prop := ∃ a dx fs, x = .ref a ∧ H a = some (.ins C dx fs) ∧ sp [.ref a, y, v] H (fun _ H4 => k H4) E
theorem k_ownPut {C : Addr} {sp : Sp} {E : St → XK} (h : tv σ H fun v H1 => ta σ H1 fun x H2 => te σ H2 fun y H3 => ROwnPut C sp (E σ) x y v H3 (n σ)) : sOwnPut C sp E ta te tv ⟨n, r, b, c⟩ σ H := h
theorem k_rownPut {C dx : Addr} {sp : Sp} {E : XK} {fs : List (Str × V)} {k : Hp → Prop} (h : H a = some (.ins C dx fs)) (q : sp [.ref a, y, v] H (fun _ H4 => k H4) E) : ROwnPut C sp E (.ref a) y v H k := ⟨a, dx, fs, rfl, h, q⟩
/-! in -/
theorem allF (l : List Str) : (l.map V.str).all flatV = true := by
  induction l with
  | nil => rfl
  | cons a l ih => rw [List.map_cons, List.all_cons, ih]; rfl
theorem inS {s : Str} {l : List Str} : inV (.str s) (l.map V.str) = decide (s ∈ l) := by
  induction l with
  | nil => simp [inV]
  | cons a l ih =>
    rw [List.map_cons, inV, List.any_cons, ← inV, ih]
    by_cases e : a = s
    · subst e; simp [eqV]
    · have e' : s ≠ a := fun z => e z.symm
      simp [eqV, e, e']
theorem o_inT {l : List Str} (h : SqT K H a (l.map V.str)) (q : Q (.bl (decide (s ∈ l))) H) : rInA K false (.str s) (.ref a) H Q := .inl ⟨a, _, rfl, .inr h, rfl, (allF l), by rw [inS]; exact q⟩
theorem o_ninT {l : List Str} (h : SqT K H a (l.map V.str)) (q : Q (.bl (!decide (s ∈ l))) H) : rInA K true (.str s) (.ref a) H Q := .inl ⟨a, _, rfl, .inr h, rfl, (allF l), by rw [inS]; exact q⟩
theorem o_inL {l : List Str} (h : SqL K H a (l.map V.str)) (q : Q (.bl (decide (s ∈ l))) H) : rInA K false (.str s) (.ref a) H Q := .inl ⟨a, _, rfl, .inl h, rfl, (allF l), by rw [inS]; exact q⟩
theorem o_ninL {l : List Str} (h : SqL K H a (l.map V.str)) (q : Q (.bl (!decide (s ∈ l))) H) : rInA K true (.str s) (.ref a) H Q := .inl ⟨a, _, rfl, .inl h, rfl, (allF l), by rw [inS]; exact q⟩
/-! powers, fresh things -/
theorem o_pow18 (q : Q (.int 1000000000000000000) H) : rPowI (.int 10) (.int 18) H Q := ⟨10, 18, rfl, rfl, ⟨by decide, by decide, by decide⟩, q⟩
theorem o_pow9 (q : Q (.int 1000000000) H) : rPowI (.int 10) (.int 9) H Q := ⟨10, 9, rfl, rfl, ⟨by decide, by decide, by decide⟩, q⟩
theorem o_pow30 (q : Q (.int 1000000000000000000000000000000) H) : rPowI (.int 10) (.int 30) H Q := ⟨10, 30, rfl, rfl, ⟨by decide, by decide, by decide⟩, q⟩
/-! a thing written twice -/
theorem k_rdputU {k : Hp → Prop} (hl : kvs.length ≤ 90000) (e : PutC kvs s v gs) (q : k (upd H a (.dK gs))) : RDPut (.ref a) (.str s) v (upd H a (.dK kvs)) k := k_rdputC upd_same hl e (by rw [upd_upd]; exact q)
theorem o_appendU {xs : List V} (hl : xs.length ≤ 90000) (q : Q .non (upd H a (.lst (xs ++ [y])))) : rAppend (.ref a) [y] (upd H a (.lst xs)) Q := o_append upd_same hl (by rw [upd_upd]; exact q)
theorem k_rputU {f : Str} {C dx : Addr} {fs hs : List (Str × V)} {k : Hp → Prop} (i : HasF K C f) (j : Pf f y fs hs) (q : k (upd H a (.ins C dx hs))) : RPut K f (.ref a) y (upd H a (.ins C dx fs)) k := k_rput upd_same i j (by rw [upd_upd]; exact q)
end
end L2.MP

set_option Elab.async false
set_option linter.all false
set_option maxRecDepth 100000
set_option maxHeartbeats 4000000
/-! The written tables of a book: the entries and their choices. -/
namespace L2.MP
open PySem PySem.Spec PyProof.Rows
abbrev ENT : List Str := [("work" : Str), ("write" : Str), ("meet" : Str), ("test" : Str), ("partly" : Str), ("value" : Str), ("path" : Str), ("loop" : Str), ("guard" : Str), ("call" : Str)]
instance : DNe ("work" : Str) ("write" : Str) := ⟨by decide +kernel⟩
instance : DNe ("work" : Str) ("meet" : Str) := ⟨by decide +kernel⟩
instance : DNe ("work" : Str) ("test" : Str) := ⟨by decide +kernel⟩
instance : DNe ("work" : Str) ("partly" : Str) := ⟨by decide +kernel⟩
instance : DNe ("work" : Str) ("value" : Str) := ⟨by decide +kernel⟩
instance : DNe ("work" : Str) ("path" : Str) := ⟨by decide +kernel⟩
instance : DNe ("work" : Str) ("loop" : Str) := ⟨by decide +kernel⟩
instance : DNe ("work" : Str) ("guard" : Str) := ⟨by decide +kernel⟩
instance : DNe ("work" : Str) ("call" : Str) := ⟨by decide +kernel⟩
instance : DNe ("write" : Str) ("work" : Str) := ⟨by decide +kernel⟩
instance : DNe ("write" : Str) ("meet" : Str) := ⟨by decide +kernel⟩
instance : DNe ("write" : Str) ("test" : Str) := ⟨by decide +kernel⟩
instance : DNe ("write" : Str) ("partly" : Str) := ⟨by decide +kernel⟩
instance : DNe ("write" : Str) ("value" : Str) := ⟨by decide +kernel⟩
instance : DNe ("write" : Str) ("path" : Str) := ⟨by decide +kernel⟩
instance : DNe ("write" : Str) ("loop" : Str) := ⟨by decide +kernel⟩
instance : DNe ("write" : Str) ("guard" : Str) := ⟨by decide +kernel⟩
instance : DNe ("write" : Str) ("call" : Str) := ⟨by decide +kernel⟩
instance : DNe ("meet" : Str) ("work" : Str) := ⟨by decide +kernel⟩
instance : DNe ("meet" : Str) ("write" : Str) := ⟨by decide +kernel⟩
instance : DNe ("meet" : Str) ("test" : Str) := ⟨by decide +kernel⟩
instance : DNe ("meet" : Str) ("partly" : Str) := ⟨by decide +kernel⟩
instance : DNe ("meet" : Str) ("value" : Str) := ⟨by decide +kernel⟩
instance : DNe ("meet" : Str) ("path" : Str) := ⟨by decide +kernel⟩
instance : DNe ("meet" : Str) ("loop" : Str) := ⟨by decide +kernel⟩
instance : DNe ("meet" : Str) ("guard" : Str) := ⟨by decide +kernel⟩
instance : DNe ("meet" : Str) ("call" : Str) := ⟨by decide +kernel⟩
instance : DNe ("test" : Str) ("work" : Str) := ⟨by decide +kernel⟩
instance : DNe ("test" : Str) ("write" : Str) := ⟨by decide +kernel⟩
instance : DNe ("test" : Str) ("meet" : Str) := ⟨by decide +kernel⟩
instance : DNe ("test" : Str) ("partly" : Str) := ⟨by decide +kernel⟩
instance : DNe ("test" : Str) ("value" : Str) := ⟨by decide +kernel⟩
instance : DNe ("test" : Str) ("path" : Str) := ⟨by decide +kernel⟩
instance : DNe ("test" : Str) ("loop" : Str) := ⟨by decide +kernel⟩
instance : DNe ("test" : Str) ("guard" : Str) := ⟨by decide +kernel⟩
instance : DNe ("test" : Str) ("call" : Str) := ⟨by decide +kernel⟩
instance : DNe ("partly" : Str) ("work" : Str) := ⟨by decide +kernel⟩
instance : DNe ("partly" : Str) ("write" : Str) := ⟨by decide +kernel⟩
instance : DNe ("partly" : Str) ("meet" : Str) := ⟨by decide +kernel⟩
instance : DNe ("partly" : Str) ("test" : Str) := ⟨by decide +kernel⟩
instance : DNe ("partly" : Str) ("value" : Str) := ⟨by decide +kernel⟩
instance : DNe ("partly" : Str) ("path" : Str) := ⟨by decide +kernel⟩
instance : DNe ("partly" : Str) ("loop" : Str) := ⟨by decide +kernel⟩
instance : DNe ("partly" : Str) ("guard" : Str) := ⟨by decide +kernel⟩
instance : DNe ("partly" : Str) ("call" : Str) := ⟨by decide +kernel⟩
instance : DNe ("value" : Str) ("work" : Str) := ⟨by decide +kernel⟩
instance : DNe ("value" : Str) ("write" : Str) := ⟨by decide +kernel⟩
instance : DNe ("value" : Str) ("meet" : Str) := ⟨by decide +kernel⟩
instance : DNe ("value" : Str) ("test" : Str) := ⟨by decide +kernel⟩
instance : DNe ("value" : Str) ("partly" : Str) := ⟨by decide +kernel⟩
instance : DNe ("value" : Str) ("path" : Str) := ⟨by decide +kernel⟩
instance : DNe ("value" : Str) ("loop" : Str) := ⟨by decide +kernel⟩
instance : DNe ("value" : Str) ("guard" : Str) := ⟨by decide +kernel⟩
instance : DNe ("value" : Str) ("call" : Str) := ⟨by decide +kernel⟩
instance : DNe ("path" : Str) ("work" : Str) := ⟨by decide +kernel⟩
instance : DNe ("path" : Str) ("write" : Str) := ⟨by decide +kernel⟩
instance : DNe ("path" : Str) ("meet" : Str) := ⟨by decide +kernel⟩
instance : DNe ("path" : Str) ("test" : Str) := ⟨by decide +kernel⟩
instance : DNe ("path" : Str) ("partly" : Str) := ⟨by decide +kernel⟩
instance : DNe ("path" : Str) ("value" : Str) := ⟨by decide +kernel⟩
instance : DNe ("path" : Str) ("loop" : Str) := ⟨by decide +kernel⟩
instance : DNe ("path" : Str) ("guard" : Str) := ⟨by decide +kernel⟩
instance : DNe ("path" : Str) ("call" : Str) := ⟨by decide +kernel⟩
instance : DNe ("loop" : Str) ("work" : Str) := ⟨by decide +kernel⟩
instance : DNe ("loop" : Str) ("write" : Str) := ⟨by decide +kernel⟩
instance : DNe ("loop" : Str) ("meet" : Str) := ⟨by decide +kernel⟩
instance : DNe ("loop" : Str) ("test" : Str) := ⟨by decide +kernel⟩
instance : DNe ("loop" : Str) ("partly" : Str) := ⟨by decide +kernel⟩
instance : DNe ("loop" : Str) ("value" : Str) := ⟨by decide +kernel⟩
instance : DNe ("loop" : Str) ("path" : Str) := ⟨by decide +kernel⟩
instance : DNe ("loop" : Str) ("guard" : Str) := ⟨by decide +kernel⟩
instance : DNe ("loop" : Str) ("call" : Str) := ⟨by decide +kernel⟩
instance : DNe ("guard" : Str) ("work" : Str) := ⟨by decide +kernel⟩
instance : DNe ("guard" : Str) ("write" : Str) := ⟨by decide +kernel⟩
instance : DNe ("guard" : Str) ("meet" : Str) := ⟨by decide +kernel⟩
instance : DNe ("guard" : Str) ("test" : Str) := ⟨by decide +kernel⟩
instance : DNe ("guard" : Str) ("partly" : Str) := ⟨by decide +kernel⟩
instance : DNe ("guard" : Str) ("value" : Str) := ⟨by decide +kernel⟩
instance : DNe ("guard" : Str) ("path" : Str) := ⟨by decide +kernel⟩
instance : DNe ("guard" : Str) ("loop" : Str) := ⟨by decide +kernel⟩
instance : DNe ("guard" : Str) ("call" : Str) := ⟨by decide +kernel⟩
instance : DNe ("call" : Str) ("work" : Str) := ⟨by decide +kernel⟩
instance : DNe ("call" : Str) ("write" : Str) := ⟨by decide +kernel⟩
instance : DNe ("call" : Str) ("meet" : Str) := ⟨by decide +kernel⟩
instance : DNe ("call" : Str) ("test" : Str) := ⟨by decide +kernel⟩
instance : DNe ("call" : Str) ("partly" : Str) := ⟨by decide +kernel⟩
instance : DNe ("call" : Str) ("value" : Str) := ⟨by decide +kernel⟩
instance : DNe ("call" : Str) ("path" : Str) := ⟨by decide +kernel⟩
instance : DNe ("call" : Str) ("loop" : Str) := ⟨by decide +kernel⟩
instance : DNe ("call" : Str) ("guard" : Str) := ⟨by decide +kernel⟩
/-! a new key -/
theorem put_cons {t s : Str} {u v : V} {r : List (Key × V)} (d : t ≠ s) : putK ((.inr t, u) :: r) (.inr s) v = (.inr t, u) :: putK r (.inr s) v := by
  have d' : ¬ (Sum.inr t : Key) = Sum.inr s := fun z => d (Sum.inr.inj z)
  unfold putK
  rw [List.any_cons, show decide ((Sum.inr t : Key) = Sum.inr s) = false from decide_eq_false d', Bool.false_or]
  split
  · rw [List.map_cons]
    congr 1
    show (if (Sum.inr t : Key) = Sum.inr s then (Sum.inr t, v) else (Sum.inr t, u)) = _
    rw [if_neg d']
  · rfl
instance {s : Str} {v : V} : PutC [] s v [(.inr s, v)] := ⟨rfl⟩
instance {t s : Str} {u v : V} {r r' : List (Key × V)} [d : DNe t s] [c : PutC r s v r'] : PutC ((.inr t, u) :: r) s v ((.inr t, u) :: r') := ⟨by rw [put_cons d.ne, c.eq]⟩
def CHT : List (Str × List Str) := [(("work" : Str), [("drop" : Str), ("left" : Str), ("short" : Str), ("join" : Str)]), (("write" : Str), [("raise" : Str), ("partly" : Str), ("skip" : Str), ("stop" : Str)]), (("meet" : Str), [("leave" : Str), ("raise" : Str)]),
  (("test" : Str), [("ignore" : Str), ("raise" : Str), ("stop" : Str)]), (("partly" : Str), [("pass" : Str), ("stop" : Str)]), (("value" : Str), [("show" : Str), ("blank" : Str), ("skip" : Str), ("stop" : Str)]), (("path" : Str), [("show" : Str), ("blank" : Str), ("skip" : Str), ("stop" : Str)])]
/-- the choices of an entry -/
def chs (e : Str) : List Str := (CHT.lookup e).getD [("forget" : Str), ("stick" : Str), ("stop" : Str)]
def strsB : List Str → List Value → Bool
  | [], [] => true
  | a :: l, .str b _ :: r => decide (a = b) && strsB l r
  | _, _ => false
theorem strsB_ok : ∀ {l : List Str} {r : List Value}, strsB l r = true → Vals (l.map V.str) r
  | [], [], _ => .nil
  | a :: l, .str b t :: r, h => by
    obtain ⟨h1, h2⟩ := He.ba h
    obtain rfl := of_decide_eq_true h1
    exact .cons ⟨t, rfl⟩ (strsB_ok h2)
  | [], _ :: _, h => by cases h
  | _ :: _, [], h => by cases h
def wtupB (a : Addr) (l : List Str) (K : PySem.W.Frag) : Bool := match K.lookup a with
  | some o => decide (o.cls = .type "tuple") && (match o.data with
    | .seq its _ => decide (its.size ≤ 1000) && strsB l its.toList
    | _ => false)
  | none => false
theorem wtupB_ok {a : Addr} {l : List Str} {K : PySem.W.Frag} (h : wtupB a l K = true) (H : Hp) : SqT K H a (l.map V.str) := by
  unfold wtupB at h
  split at h
  · rename_i o e
    obtain ⟨h1, h2⟩ := He.ba h
    split at h2
    · rename_i its n d
      obtain ⟨h3, h4⟩ := He.ba h2
      exact .inr ⟨o, its, n, e, of_decide_eq_true h1, d, Nat.le_trans (of_decide_eq_true h3) (by decide), strsB_ok h4⟩
    · cases h2
  · cases h
/-- where the choices of an entry stand -/
def chA (K : PySem.W.Frag) (e : Str) : Addr := match PySem.W.nsIn K (He.ga K "CHOICES") e with
  | some (some (.ref g)) => g
  | _ => 0
def chB (K : PySem.W.Frag) : Bool := ENT.all fun e => decide (PySem.W.nsIn K (He.ga K "CHOICES") e = some (some (.ref (chA K e)))) && wtupB (chA K e) (chs e) K
def entB (K : PySem.W.Frag) : Bool := wtupB (He.ga K "ENTRIES") ENT K
class BookK (K : PySem.W.Frag) : Prop where
  ent : entB K = true
  ch : chB K = true
class BookW (K : PySem.W.Frag) (w : World) : Prop where
  kd : ∃ es n, KDict K w (He.ga K "CHOICES") es n
section
variable {K : PySem.W.Frag} {w : World} {H : Hp} {Q : VK} {e s : Str}
theorem ent_sq [b : BookK K] : SqT K H (He.ga K "ENTRIES") (ENT.map V.str) := wtupB_ok b.ent H
theorem ch_sq [b : BookK K] (he : e ∈ ENT) : SqT K H (chA K e) ((chs e).map V.str) := wtupB_ok (He.ba (List.all_eq_true.mp b.ch e he)).2 H
theorem ch_kd [b : BookK K] [c : BookW K w] (he : e ∈ ENT) : KDct K w (He.ga K "CHOICES") e (.ref (chA K e)) := by
  obtain ⟨es, n, d⟩ := c.kd
  exact ⟨es, n, _, d.at_, d.lit, of_decide_eq_true (He.ba (List.all_eq_true.mp b.ch e he)).1, rfl⟩
def rIxW (K : PySem.W.Frag) (w : World) : R2 := rIxD K w
theorem k_ixW [BookK K] [BookW K w] (he : e ∈ ENT) (q : Q (.ref (chA K e)) H) : rIxW K w (.ref (He.ga K "CHOICES")) (.str e) H Q := ⟨_, e, _, rfl, rfl, ch_kd he, q⟩
theorem pe_ixW {X : Cx} {a b : Expr} {ta tb : TE} {pos : Pos} (ha : PE X a ta) (hb : PE X b tb) (hs : PlainIx b) : PE X (.Subscript a b pos) (tOp (rIxW X.K X.w) ta tb) := pe_ix ix_kdict ha hb hs
/-- in the choices of an entry; in the entries -/
theorem k_ninCh [BookK K] (he : e ∈ ENT) (q : Q (.bl (!decide (s ∈ chs e))) H) : rInA K true (.str s) (.ref (chA K e)) H Q := o_ninT (ch_sq he) q
theorem k_ninEnt [BookK K] (q : Q (.bl (!decide (s ∈ ENT))) H) : rInA K true (.str s) (.ref (He.ga K "ENTRIES")) H Q := o_ninT ent_sq q
theorem k_lenEnt [BookK K] (q : Q (.int 10) H) : rLenA K [.ref (He.ga K "ENTRIES")] H Q := o_lenT ent_sq q
/-! the book's dict: each entry with its choice -/
def bk (f : Str → Str) : List (Key × V) := ENT.map fun e => (Sum.inr e, V.str (f e))
def fset (f : Str → Str) (e c : Str) : Str → Str := fun x => if x = e then c else f x
theorem bk_get {f : Str → Str} (he : e ∈ ENT) : valV (bk f) (.inr e) = some (.str (f e)) := by
  unfold bk
  generalize ENT = l at he
  induction l with
  | nil => cases he
  | cons a l ih =>
    by_cases h : a = e
    · subst h; exact valV_pos rfl
    · rw [List.map_cons, valV_neg (fun z => h (Sum.inr.inj z))]
      exact ih ((List.mem_cons.mp he).resolve_left (fun z => h z.symm))
theorem bk_put {f : Str → Str} {c : Str} (he : e ∈ ENT) : putK (bk f) (.inr e) (.str c) = bk (fset f e c) := by
  unfold putK
  have h : ((bk f).any fun kv => decide (kv.1 = Sum.inr e)) = true := by
    rw [List.any_eq_true]
    exact ⟨(.inr e, .str (f e)), List.mem_map.mpr ⟨e, he, rfl⟩, by simp⟩
  rw [if_pos h]
  unfold bk
  rw [List.map_map]
  refine List.map_congr_left fun x _ => ?_
  show (if (Sum.inr x : Key) = Sum.inr e then ((Sum.inr x : Key), V.str c) else (Sum.inr x, V.str (f x))) = (Sum.inr x, V.str (fset f e c x))
  by_cases z : x = e
  · subst z; simp [fset]
  · simp [fset, z]
theorem bk_len {f : Str → Str} : (bk f).length = 10 := rfl
theorem fset_eq {f : Str → Str} {c : Str} : fset f e c e = c := if_pos rfl
theorem fset_ne {f : Str → Str} {c x : Str} (h : x ≠ e) : fset f e c x = f x := if_neg h
theorem k_bkget {f : Str → Str} {a : Addr} (h : H a = some (.dK (bk f))) (he : e ∈ ENT) (q : Q (.str (f e)) H) : RDGet (.ref a) (.str e) H Q := k_rdget h (bk_get he) q
theorem k_bkput {f : Str → Str} {a : Addr} {c : Str} {k : Hp → Prop} (h : H a = some (.dK (bk f))) (he : e ∈ ENT) (q : k (upd H a (.dK (bk (fset f e c))))) : RDPut (.ref a) (.str e) (.str c) H k :=
  k_rdput h (by rw [bk_len]; decide) (bk_put he) q
end
/-- the choices told as the law tells them -/
abbrev CHX : List (Str × Str) := [(("work" : Str), ("drop left short join" : Str)), (("write" : Str), ("raise partly skip stop" : Str)), (("meet" : Str), ("leave raise" : Str)), (("test" : Str), ("ignore raise stop" : Str)), (("partly" : Str), ("pass stop" : Str)), (("value" : Str), ("show blank skip stop" : Str)), (("path" : Str), ("show blank skip stop" : Str))]
def chT (e : Str) : Str := (CHX.lookup e).getD ("forget stick stop" : Str)
theorem ent_all {P : Str → Prop} (h : ∀ e ∈ ENT, P e) : ∀ e ∈ ENT, P e := h
theorem chx_ok : ∀ e ∈ ENT, ((valV (mergeK [] (dS CHX)) (.inr e)).getD (.str ("forget stick stop" : Str)) = .str (chT e) ∧ Txt.split (chT e) (" " : Str) = chs e) ∧ ((chT e).length ≤ 90 ∧ (chs e).length ≤ 4 ∧ 2 ≤ (chs e).length) := by
  intro e he
  simp only [ENT, List.mem_cons, List.not_mem_nil, or_false] at he
  rcases he with rfl | rfl | rfl | rfl | rfl | rfl | rfl | rfl | rfl | rfl <;> exact ⟨⟨by kernel_rfl, by kernel_rfl⟩, by decide +kernel⟩
/-! the top run holds a dict: the one question to the world that it asks, told both ways -/
abbrev wB (w : World) (b : Bool) : World := ⟨w.draws, { w.params with followText := fun r => if r = "special-get-raises" then b else w.params.followText r }⟩
theorem wB_eq (w : World) : wB w (w.params.followText "special-get-raises") = w := by
  have e : (fun r => if r = "special-get-raises" then w.params.followText "special-get-raises" else w.params.followText r) = w.params.followText := by
    funext r
    split
    · rename_i h; rw [h]
    · rfl
  unfold wB
  rw [e]
end L2.MP

set_option Elab.async false
set_option linter.all false
set_option maxRecDepth 100000
set_option maxHeartbeats 4000000
/-! Lists by an open place; a book's choices by names. -/
namespace L2.MP
open PySem PySem.Spec PyProof.Rows
theorem up_new' {H : Hp} {p a dx : Addr} {o u v : HO} (hp : H p = none) (h : upd H dx v a = some u) (hn : dx ≠ p := by assumption) : upd (upd H dx v) p o a = some u := up_ne (fun z => by subst z; rw [upd_ne (Ne.symm hn), hp] at h; cases h) h
def sv (l : List Str) (i : Int) : Str := l.getD i.toNat ("" : Str)
theorem sv_mem {l : List Str} {i : Int} (h0 : 0 ≤ i) (h : i < l.length) : sv l i ∈ l := by
  have h' : i.toNat < l.length := by omega
  simp [sv, List.getD, h']
section
variable {K : PySem.W.Frag} {H : Hp} {Q : VK} {v : V} {p : Int} {a : Addr}
theorem o_ixD {ds : List Int} (h : SqL K H a (ds.map V.int)) (h0 : 0 ≤ p) (h1 : p < ds.length) (q : Q (.int (cellv ds p)) H) : rIx K (.ref a) (.int p) H Q :=
  o_ixL h (cell_at h0 (by simpa using h1)) q
theorem o_ixSv {l : List Str} (h : SqL K H a (l.map V.str)) (h0 : 0 ≤ p) (h1 : p < l.length) (q : Q (.str (sv l p)) H) : rIx K (.ref a) (.int p) H Q := by
  obtain ⟨m, rfl⟩ : ∃ m : Nat, p = (m : Int) := ⟨p.toNat, by omega⟩
  have hm : m < l.length := by omega
  refine o_ixL h (atI_nat (v := V.str (sv l m)) ?_) q
  simp [sv, List.getD, hm]
theorem o_ix2S {s0 s1 : Str} {c : Bool} (h : SqL K H a [.str s0, .str s1]) (q : Q (.str (if c = true then s1 else s0)) H) : rIx K (.ref a) (.int (if c = true then 1 else 0)) H Q := by
  cases c
  · exact o_ixL h (atI_nat (j := 0) rfl) q
  · exact o_ixL h (atI_nat (j := 1) rfl) q
theorem o_ix2I {i0 i1 : Int} {c : Bool} (h : SqL K H a [.int i0, .int i1]) (q : Q (.int (if c = true then i1 else i0)) H) : rIx K (.ref a) (.int (if c = true then 1 else 0)) H Q := by
  cases c
  · exact o_ixL h (atI_nat (j := 0) rfl) q
  · exact o_ixL h (atI_nat (j := 1) rfl) q
theorem cell60 {ds : List Int} {i : Int} (h : ∀ d ∈ ds, 0 ≤ d ∧ d < 60) : 0 ≤ cellv ds i ∧ cellv ds i < 60 := by
  by_cases e : i.toNat < ds.length
  · have : cellv ds i ∈ ds := by simp [cellv, List.getD, e]
    exact h _ this
  · have : cellv ds i = 0 := by simp [cellv, List.getD, Nat.le_of_not_lt e]
    rw [this]; decide
end
class InE (e : Str) : Prop where
  mem : e ∈ ENT
instance : InE ("work" : Str) := ⟨by decide +kernel⟩
instance : InE ("write" : Str) := ⟨by decide +kernel⟩
instance : InE ("meet" : Str) := ⟨by decide +kernel⟩
instance : InE ("test" : Str) := ⟨by decide +kernel⟩
instance : InE ("partly" : Str) := ⟨by decide +kernel⟩
instance : InE ("value" : Str) := ⟨by decide +kernel⟩
instance : InE ("path" : Str) := ⟨by decide +kernel⟩
instance : InE ("loop" : Str) := ⟨by decide +kernel⟩
instance : InE ("guard" : Str) := ⟨by decide +kernel⟩
instance : InE ("call" : Str) := ⟨by decide +kernel⟩
/-- the choice at an entry, told -/
class FEq (f : Str → Str) (e : Str) (v : outParam Str) : Prop where
  eq : f e = v
instance (priority := low) {f : Str → Str} {e : Str} : FEq f e (f e) := ⟨rfl⟩
instance {f : Str → Str} {e c : Str} : FEq (fset f e c) e c := ⟨fset_eq⟩
instance {f : Str → Str} {e x c v : Str} [d : DNe x e] [i : FEq f x v] : FEq (fset f e c) x v := ⟨by rw [fset_ne d.ne]; exact i.eq⟩
/-- all choices are choices of their entries -/
def Good (f : Str → Str) : Prop := ∀ e ∈ ENT, f e ∈ chs e
theorem Good.set {f : Str → Str} {e c : Str} (g : Good f) (h : c ∈ chs e) : Good (fset f e c) := fun x hx => by
  unfold fset
  split
  · rename_i z; rw [z]; exact h
  · exact g x hx
/-- ten choices in the order of the entries -/
def fL (cs : List Str) : Str → Str := fun e => cs.getD (ENT.idxOf e) ("" : Str)
theorem bk_fL {c0 c1 c2 c3 c4 c5 c6 c7 c8 c9 : Str} : bk (fL [c0, c1, c2, c3, c4, c5, c6, c7, c8, c9]) = [(.inr "work", .str c0), (.inr "write", .str c1), (.inr "meet", .str c2), (.inr "test", .str c3), (.inr "partly", .str c4), (.inr "value", .str c5), (.inr "path", .str c6), (.inr "loop", .str c7), (.inr "guard", .str c8), (.inr "call", .str c9)] := by
  unfold bk ENT
  simp only [List.map_cons, List.map_nil]
  rfl
theorem bk_list {f : Str → Str} : bk f = [(.inr "work", .str (f "work")), (.inr "write", .str (f "write")), (.inr "meet", .str (f "meet")), (.inr "test", .str (f "test")), (.inr "partly", .str (f "partly")), (.inr "value", .str (f "value")), (.inr "path", .str (f "path")), (.inr "loop", .str (f "loop")), (.inr "guard", .str (f "guard")), (.inr "call", .str (f "call"))] := rfl
theorem bk_congr {f g : Str → Str} (h : ∀ e ∈ ENT, f e = g e) : bk f = bk g := List.map_congr_left fun e he => by rw [h e he]
/-- the first m entries -/
def bkm (m : Nat) (f : Str → Str) : List (Key × V) := (ENT.take m).map fun e => (Sum.inr e, V.str (f e))
theorem bkm_ten {f : Str → Str} : bkm 10 f = bk f := rfl
theorem ent_fresh : ∀ m < 10, sv ENT (m : Nat) ∉ ENT.take m ∧ ENT.take (m + 1) = ENT.take m ++ [sv ENT (m : Nat)] ∧ sv ENT (m : Nat) ∈ ENT := by decide +kernel
theorem bkm_put {f : Str → Str} {m : Nat} {c : Str} (h : m < 10) : putK (bkm m f) (.inr (sv ENT m)) (.str c) = bkm (m + 1) (fset f (sv ENT m) c) := by
  obtain ⟨h1, h2, _⟩ := ent_fresh m h
  have nk : ((bkm m f).any fun kv => decide (kv.1 = Sum.inr (sv ENT m))) = false := by
    rw [List.any_eq_false]
    intro kv hkv
    obtain ⟨x, hx, rfl⟩ := List.mem_map.mp hkv
    simp only [decide_eq_true_eq]
    intro z
    exact h1 ((Sum.inr.inj z) ▸ hx)
  unfold putK
  rw [if_neg (by rw [nk]; decide)]
  unfold bkm
  rw [h2, List.map_append]
  congr 1
  · refine List.map_congr_left fun x hx => ?_
    rw [fset_ne (fun (z : x = sv ENT m) => h1 (by rw [← z]; exact hx))]
  · simp only [List.map_cons, List.map_nil]
    rw [fset_eq]
section
variable {K : PySem.W.Frag} {H : Hp} {Q : VK} {e c : Str}
theorem k_ninEntT [BookK K] (he : e ∈ ENT) (q : Q (.bl false) H) : rInA K true (.str e) (.ref (He.ga K "ENTRIES")) H Q := k_ninEnt (by rw [decide_eq_true he]; exact q)
theorem k_ninChT [BookK K] (he : e ∈ ENT) (hc : c ∈ chs e) (q : Q (.bl false) H) : rInA K true (.str c) (.ref (chA K e)) H Q := k_ninCh he (by rw [decide_eq_true hc]; exact q)
end
end L2.MP
namespace L2.MP
open PySem PySem.Spec PyProof.Rows
section
variable {K : PySem.W.Frag} {H : Hp} {Q : VK} {a : Addr}
theorem o_lenLS {l : List Str} (h : SqL K H a (l.map V.str)) (q : Q (.int l.length) H) : rLenA K [.ref a] H Q := o_lenL h (by rw [List.length_map]; exact q)
theorem o_lenLI {l : List Int} (h : SqL K H a (l.map V.int)) (q : Q (.int l.length) H) : rLenA K [.ref a] H Q := o_lenL h (by rw [List.length_map]; exact q)
theorem k_rdputB {m : Nat} {f : Str → Str} {c : Str} {k : Hp → Prop} (h : H a = some (.dK (bkm m f))) (hm : m < 10) (q : k (upd H a (.dK (bkm (m + 1) (fset f (sv ENT m) c))))) : RDPut (.ref a) (.str (sv ENT m)) (.str c) H k :=
  k_rdput h (by simp [bkm]; omega) (bkm_put hm) q
end
end L2.MP
namespace L2.MP
open PySem PySem.Spec PyProof.Rows
/-! new things, the heap behind them as a letter -/
section
variable {K : PySem.W.Frag} {σ : St} {H : Hp} {Q : VK} {a e : Addr} {vs xs ys : List V}
theorem k_newTA (h : vs.length ≤ 100000) (q : ∀ p H', H p = none → Ex H H' → H' p = some (.tup vs) → Q (.ref p) H') : NewT vs H Q := k_newT h fun p hp => q p _ hp (Ex.new hp) upd_same
theorem k_newLA (h : vs.length ≤ 100000) (q : ∀ p H', H p = none → Ex H H' → H' p = some (.lst vs) → Q (.ref p) H') : NewL vs H Q := k_newL h fun p hp => q p _ hp (Ex.new hp) upd_same
theorem k_newDA (q : ∀ p H', H p = none → Ex H H' → H' p = some (.dK []) → Q (.ref p) H') : NewD H Q := k_newD fun p hp => q p _ hp (Ex.new hp) upd_same
theorem k_dispA {trs : List (TE × TE)} {l : List (Str × Str)} [c : TdS trs l] (hl : l.length ≤ 15) (q : ∀ p H', H p = none → Ex H H' → H' p = some (.dK (mergeK [] (dS l))) → Q (.ref p) H') : tDisp trs σ H Q := k_disp hl fun p hp => q p _ hp (Ex.new hp) upd_same
theorem o_addLA (h1 : H a = some (.lst xs)) (h2 : H e = some (.lst ys)) (h : xs.length + ys.length ≤ 100000) (q : ∀ p H', H p = none → Ex H H' → H' p = some (.lst (xs ++ ys)) → Q (.ref p) H') : rAddA K (.ref a) (.ref e) H Q := o_addL h1 h2 h fun p hp => q p _ hp (Ex.new hp) upd_same
theorem o_splitA {s z : Str} {l : List Str} (hz : (z.length == 0) = false) (hs : s.length ≤ 90000) (e : Txt.split s z = l) (hl : l.length ≤ 90000) (q : ∀ p H', H p = none → Ex H H' → H' p = some (.lst (l.map V.str)) → Q (.ref p) H') : rSplitA (.str s) [.str z] H Q :=
  o_split hz hs e hl fun p hp => q p _ hp (Ex.new hp) upd_same
end
end L2.MP
namespace L2.MP
open PySem PySem.Spec PyProof.Rows
theorem ent_inj : ∀ i < 10, ∀ j < 10, sv ENT (i : Nat) = sv ENT (j : Nat) → i = j := by decide +kernel
theorem ent_ix : ∀ e ∈ ENT, ∃ i < 10, e = sv ENT (i : Nat) := by
  intro e he
  simp only [ENT, List.mem_cons, List.not_mem_nil, or_false] at he
  rcases he with rfl | rfl | rfl | rfl | rfl | rfl | rfl | rfl | rfl | rfl
  · exact ⟨0, by decide, rfl⟩
  · exact ⟨1, by decide, rfl⟩
  · exact ⟨2, by decide, rfl⟩
  · exact ⟨3, by decide, rfl⟩
  · exact ⟨4, by decide, rfl⟩
  · exact ⟨5, by decide, rfl⟩
  · exact ⟨6, by decide, rfl⟩
  · exact ⟨7, by decide, rfl⟩
  · exact ⟨8, by decide, rfl⟩
  · exact ⟨9, by decide, rfl⟩
theorem good_of {f : Str → Str} (h : ∀ i < 10, f (sv ENT (i : Nat)) ∈ chs (sv ENT (i : Nat))) : Good f := fun e he => by
  obtain ⟨i, hi, rfl⟩ := ent_ix e he
  exact h i hi
theorem goods_set {f : Str → Str} {m : Nat} {c : Str} (hm : m < 10) (h : ∀ i < m, f (sv ENT (i : Nat)) ∈ chs (sv ENT (i : Nat))) (hc : c ∈ chs (sv ENT m)) : ∀ i < m + 1, fset f (sv ENT m) c (sv ENT (i : Nat)) ∈ chs (sv ENT (i : Nat)) := fun i hi => by
  by_cases e : i = m
  · subst e; rw [fset_eq]; exact hc
  · rw [fset_ne (fun z => e (ent_inj i (by omega) m hm z))]
    exact h i (by omega)
theorem chs_two {e : Str} (he : e ∈ ENT) : 2 ≤ (chs e).length := (chx_ok e he).2.2.2
end L2.MP
namespace L2.MP
open PySem PySem.Spec PyProof.Rows
theorem bk_full {f g : Str → Str} : bk (fset (fset (fset (fset (fset (fset (fset (fset (fset (fset g "work" (f "work")) "write" (f "write")) "meet" (f "meet")) "test" (f "test")) "partly" (f "partly")) "value" (f "value")) "path" (f "path")) "loop" (f "loop")) "guard" (f "guard")) "call" (f "call")) = bk f := by
  refine bk_congr fun e he => ?_
  simp only [ENT, List.mem_cons, List.not_mem_nil, or_false] at he
  rcases he with rfl | rfl | rfl | rfl | rfl | rfl | rfl | rfl | rfl | rfl <;> exact FEq.eq
end L2.MP
namespace L2.MP
open PySem PySem.Spec PyProof.Rows
@[simp] theorem ofString_inj {a b : String} : (Str.ofString a = Str.ofString b) ↔ a = b := by
  constructor
  · intro h
    rw [Str.ofString_eq_toList, Str.ofString_eq_toList] at h
    have h1 : (a.toList.map Char.toNat).toArray = (b.toList.map Char.toNat).toArray := congrArg Str.cps h
    have h2 : a.toList.map Char.toNat = b.toList.map Char.toNat := by simpa using h1
    have inj : ∀ {x y : Char}, x.toNat = y.toNat → x = y := fun {x y} e => Char.ext (UInt32.toNat_inj.mp e)
    have h3 : ∀ (l m : List Char), l.map Char.toNat = m.map Char.toNat → l = m := by
      intro l
      induction l with
      | nil => intro m e; cases m with | nil => rfl | cons _ _ => simp at e
      | cons x l ih =>
        intro m e
        cases m with
        | nil => simp at e
        | cons y m =>
          simp only [List.map_cons, List.cons.injEq] at e
          rw [inj e.1, ih m e.2]
    exact String.toList_inj.mp (h3 _ _ h2)
  · rintro rfl; rfl
/-- the choices of an entry, written -/
class ChV (e : Str) (vs : outParam (List V)) : Prop where
  eq : (chs e).map V.str = vs
instance : ChV ("work" : Str) [.str "drop", .str "left", .str "short", .str "join"] := ⟨by kernel_rfl⟩
instance : ChV ("write" : Str) [.str "raise", .str "partly", .str "skip", .str "stop"] := ⟨by kernel_rfl⟩
instance : ChV ("meet" : Str) [.str "leave", .str "raise"] := ⟨by kernel_rfl⟩
instance : ChV ("test" : Str) [.str "ignore", .str "raise", .str "stop"] := ⟨by kernel_rfl⟩
instance : ChV ("partly" : Str) [.str "pass", .str "stop"] := ⟨by kernel_rfl⟩
instance : ChV ("value" : Str) [.str "show", .str "blank", .str "skip", .str "stop"] := ⟨by kernel_rfl⟩
instance : ChV ("path" : Str) [.str "show", .str "blank", .str "skip", .str "stop"] := ⟨by kernel_rfl⟩
instance : ChV ("loop" : Str) [.str "forget", .str "stick", .str "stop"] := ⟨by kernel_rfl⟩
instance : ChV ("guard" : Str) [.str "forget", .str "stick", .str "stop"] := ⟨by kernel_rfl⟩
instance : ChV ("call" : Str) [.str "forget", .str "stick", .str "stop"] := ⟨by kernel_rfl⟩
section
variable {K : PySem.W.Frag} {σ : St} {H : Hp} {n b c : St → Hp → Prop} {r : VK} {i : Nat} {tb : TS} {x : V} {xs : List V} {a : Addr}
/-- a written list or tuple, turn by turn -/
theorem k_rlC (h : SqL K H a (x :: xs)) (q : RForL K a (x :: xs) i tb n r (x :: xs) σ H) : RL K i tb ⟨n, r, b, c⟩ σ (.ref a) H := k_rl h q
theorem k_rtC (h : SqT K H a (x :: xs)) (q : RForT K a (x :: xs) i tb n r (x :: xs) σ H) : RT K i tb ⟨n, r, b, c⟩ σ (.ref a) H := k_rt h q
end
end L2.MP
namespace L2.MP
open PySem PySem.Spec PyProof.Rows
/-! == of lists and tuples of plain values -/
def pd : V → PyData
  | .bl b => .bool b
  | .int i => .int i
  | .str x => .str x
  | _ => .none
def flat1 : V → Bool
  | .non => true
  | .bl _ => true
  | .int _ => true
  | .str x => PyData.strOk x
  | _ => false
def flatOk (xs : List V) : Bool := xs.all flat1
theorem dp_flat {K : PySem.W.Frag} {H : Hp} : ∀ {xs : List V}, flatOk xs = true → DpAll K H xs (xs.map pd) ∧ PyData.canLayAll0 (xs.map pd) = true ∧ PyData.depthAll (xs.map pd) ≤ 1
  | [], _ => ⟨.nil, rfl, by decide⟩
  | x :: xs, h => by
    unfold flatOk at h
    rw [List.all_cons] at h
    obtain ⟨h1, h2⟩ := He.ba h
    obtain ⟨i1, i2, i3⟩ := dp_flat (K := K) (H := H) (xs := xs) h2
    have key : Dp K H x (pd x) ∧ PyData.canLay0 (pd x) = true ∧ PyData.depth (pd x) = 0 := by
      cases x with
      | non => exact ⟨.non, by simp [pd, PyData.canLay0], by simp [pd, PyData.depth]⟩
      | bl b => exact ⟨.bl b, by simp [pd, PyData.canLay0], by simp [pd, PyData.depth]⟩
      | int b => exact ⟨.int b, by simp [pd, PyData.canLay0], by simp [pd, PyData.depth]⟩
      | str b => exact ⟨.str b, by simpa [pd, PyData.canLay0, flat1] using h1, by simp [pd, PyData.depth]⟩
      | _ => cases h1
    obtain ⟨k1, k2, k3⟩ := key
    refine ⟨.cons k1 i1, ?_, ?_⟩
    · show PyData.canLayAll0 (pd x :: xs.map pd) = true
      rw [PyData.canLayAll0, k2, i2]; rfl
    · show PyData.depthAll (pd x :: xs.map pd) ≤ 1
      rw [PyData.depthAll, k3]; omega
theorem shaped_flat {xs : List V} (h : flatOk xs = true) : SeqAt.shaped (.tuple (xs.map pd)) = true ∧ SeqAt.shaped (.list (xs.map pd)) = true := by
  obtain ⟨_, h2, h3⟩ := dp_flat (K := default) (H := fun _ => none) h
  unfold SeqAt.shaped
  constructor
  · rw [PyData.canLay0, h2, PyData.depth]; simp; omega
  · rw [PyData.canLay0, h2, PyData.depth]; simp; omega
section
variable {K : PySem.W.Frag} {H : Hp} {Q : VK} {a b : Addr} {xs ys : List V}
theorem o_eqTT (h1 : SqT K H a xs) (h2 : SqT K H b ys) (hx : flatOk xs = true) (hy : flatOk ys = true) (q : Q (.bl (PyData.eqvAll (xs.map pd) (ys.map pd))) H) : rEqA K (.ref a) (.ref b) H Q :=
  .inr ⟨_, _, .tup h1 (dp_flat hx).1, .tup h2 (dp_flat hy).1, (shaped_flat hx).1, (shaped_flat hy).1, by rw [PyData.eqv]; exact q⟩
theorem o_neTT (h1 : SqT K H a xs) (h2 : SqT K H b ys) (hx : flatOk xs = true) (hy : flatOk ys = true) (q : Q (.bl (!PyData.eqvAll (xs.map pd) (ys.map pd))) H) : rNeA K (.ref a) (.ref b) H Q :=
  .inr ⟨_, _, .tup h1 (dp_flat hx).1, .tup h2 (dp_flat hy).1, (shaped_flat hx).1, (shaped_flat hy).1, by rw [PyData.eqv]; exact q⟩
theorem o_eqLL (h1 : SqL K H a xs) (h2 : SqL K H b ys) (hx : flatOk xs = true) (hy : flatOk ys = true) (q : Q (.bl (PyData.eqvAll (xs.map pd) (ys.map pd))) H) : rEqA K (.ref a) (.ref b) H Q :=
  .inr ⟨_, _, .lst h1 (dp_flat hx).1, .lst h2 (dp_flat hy).1, (shaped_flat hx).2, (shaped_flat hy).2, by rw [PyData.eqv]; exact q⟩
theorem o_neLL (h1 : SqL K H a xs) (h2 : SqL K H b ys) (hx : flatOk xs = true) (hy : flatOk ys = true) (q : Q (.bl (!PyData.eqvAll (xs.map pd) (ys.map pd))) H) : rNeA K (.ref a) (.ref b) H Q :=
  .inr ⟨_, _, .lst h1 (dp_flat hx).1, .lst h2 (dp_flat hy).1, (shaped_flat hx).2, (shaped_flat hy).2, by rw [PyData.eqv]; exact q⟩
theorem eqvAll_same {xs : List V} (h : flatOk xs = true) : PyData.eqvAll (xs.map pd) (xs.map pd) = true := by
  have := SeqAt.eqv_refl (.tuple (xs.map pd)) (by rw [PyData.canLay0]; exact (dp_flat (K := default) (H := fun _ => none) h).2.1)
  rwa [PyData.eqv] at this
/-- equal ones -/
theorem o_neTsame (h1 : SqT K H a xs) (h2 : SqT K H b xs) (hx : flatOk xs = true) (q : Q (.bl false) H) : rNeA K (.ref a) (.ref b) H Q := o_neTT h1 h2 hx hx (by rw [eqvAll_same hx]; exact q)
theorem o_neLsame (h1 : SqL K H a xs) (h2 : SqL K H b xs) (hx : flatOk xs = true) (q : Q (.bl false) H) : rNeA K (.ref a) (.ref b) H Q := o_neLL h1 h2 hx hx (by rw [eqvAll_same hx]; exact q)
theorem o_eqTsame (h1 : SqT K H a xs) (h2 : SqT K H b xs) (hx : flatOk xs = true) (q : Q (.bl true) H) : rEqA K (.ref a) (.ref b) H Q := o_eqTT h1 h2 hx hx (by rw [eqvAll_same hx]; exact q)
theorem o_eqLsame (h1 : SqL K H a xs) (h2 : SqL K H b xs) (hx : flatOk xs = true) (q : Q (.bl true) H) : rEqA K (.ref a) (.ref b) H Q := o_eqLL h1 h2 hx hx (by rw [eqvAll_same hx]; exact q)
end
/-- every choice is a plain text -/
theorem chs_flat : ∀ e ∈ ENT, ∀ c ∈ chs e, PyData.strOk c = true := by
  intro e he
  simp only [ENT, List.mem_cons, List.not_mem_nil, or_false] at he
  rcases he with rfl | rfl | rfl | rfl | rfl | rfl | rfl | rfl | rfl | rfl <;> decide +kernel
end L2.MP
namespace L2.MP
open PySem PySem.Spec PyProof.Rows
section
variable {K : PySem.W.Frag} {H : Hp} {Q : VK}
theorem o_neSame {v : V} (h : scal v v = true) (q : Q (.bl false) H) : rNeA K v v H Q := .inl ⟨h, by rw [decide_eq_true rfl]; exact q⟩
theorem o_eqSame {v : V} (h : scal v v = true) (q : Q (.bl true) H) : rEqA K v v H Q := .inl ⟨h, by rw [decide_eq_true rfl]; exact q⟩
end
theorem memS {l : List Str} {i : Nat} {x : V} (h : (l.map V.str)[i]? = some x) : ∃ c, x = .str c ∧ c ∈ l := by
  obtain ⟨c, hc, rfl⟩ := List.mem_map.mp (List.mem_of_getElem? h)
  exact ⟨c, rfl, hc⟩
end L2.MP
namespace L2.MP
open PySem PySem.Spec PyProof.Rows
class ILit (xs : List V) (l : outParam (List Int)) : Prop where
  eq : xs = l.map V.int
instance : ILit [] [] := ⟨rfl⟩
instance {i : Int} {xs : List V} {l : List Int} [c : ILit xs l] : ILit (V.int i :: xs) (i :: l) := ⟨by rw [c.eq]; rfl⟩
theorem inI {p : Int} {l : List Int} : inV (.int p) (l.map V.int) = decide (p ∈ l) := by
  induction l with
  | nil => simp [inV]
  | cons a l ih =>
    rw [List.map_cons, inV, List.any_cons, ← inV, ih]
    by_cases e : a = p
    · subst e; simp [eqV]
    · have e' : p ≠ a := fun z => e z.symm
      simp [eqV, e, e']
theorem allFI (l : List Int) : (l.map V.int).all flatV = true := by
  induction l with
  | nil => rfl
  | cons a l ih => rw [List.map_cons, List.all_cons, ih]; rfl
section
variable {K : PySem.W.Frag} {H : Hp} {Q : VK} {p : Int} {a : Addr} {xs : List V} {l : List Int}
theorem o_inTI (h : SqT K H a xs) (c : ILit xs l) (q : Q (.bl (decide (p ∈ l))) H) : rInA K false (.int p) (.ref a) H Q := .inl ⟨a, _, rfl, .inr h, rfl, by rw [c.eq]; exact allFI l, by rw [c.eq, inI]; exact q⟩
theorem o_inLI (h : SqL K H a xs) (c : ILit xs l) (q : Q (.bl (decide (p ∈ l))) H) : rInA K false (.int p) (.ref a) H Q := .inl ⟨a, _, rfl, .inl h, rfl, by rw [c.eq]; exact allFI l, by rw [c.eq, inI]; exact q⟩
theorem o_ix2PT {i0 i1 : Int} (h : SqT K H a [.int i0, .int i1]) (hp : 0 ≤ p ∧ p < 2) (q : Q (.int (if p = 1 then i1 else i0)) H) : rIx K (.ref a) (.int p) H Q := by
  by_cases e : p = 1
  · subst e
    exact o_ixT h (atI_nat (j := 1) rfl) q
  · have e0 : p = 0 := by omega
    subst e0
    exact o_ixT h (atI_nat (j := 0) rfl) q
theorem o_ix2PL {i0 i1 : Int} (h : SqL K H a [.int i0, .int i1]) (hp : 0 ≤ p ∧ p < 2) (q : Q (.int (if p = 1 then i1 else i0)) H) : rIx K (.ref a) (.int p) H Q := by
  by_cases e : p = 1
  · subst e
    exact o_ixL h (atI_nat (j := 1) rfl) q
  · have e0 : p = 0 := by omega
    subst e0
    exact o_ixL h (atI_nat (j := 0) rfl) q
end
end L2.MP
namespace L2.MP
open PySem PySem.Spec PyProof.Rows
/-- no bool -/
def nb : V → Bool
  | .int _ => true
  | .str _ => true
  | .non => true
  | _ => false
theorem i_nb {K : PySem.W.Frag} {H : Hp} {Q : VK} {v : V} (h : nb v = true) (q : Q (.bl false) H) : rIsi K [v, .ty "bool"] H Q := by
  cases v <;> first | exact i_plain q | cases h
end L2.MP
namespace L2.MP
open PySem PySem.Spec PyProof.Rows
theorem o_neg {H : Hp} {Q : VK} {p : Int} (q : Q (.int (-p)) H) : rNegI (.int p) H Q := ⟨p, rfl, q⟩
theorem o_isB {H : Hp} {Q : VK} {a b : Bool} (q : Q (.bl (decide (a = b))) H) : rIsB (.bl a) (.bl b) H Q := ⟨a, b, rfl, rfl, q⟩
theorem o_ixM {K : PySem.W.Frag} {H : Hp} {Q : VK} {a : Addr} {p : Int} {xs : List V} (h : SqL K H a xs) (h0 : 0 ≤ p) (h1 : p < xs.length) (q : ∀ v, v ∈ xs → Q v H) : rIx K (.ref a) (.int p) H Q := by
  obtain ⟨m, rfl⟩ : ∃ m : Nat, p = (m : Int) := ⟨p.toNat, by omega⟩
  have hm : m < xs.length := by omega
  exact o_ixL h (atI_nat (List.getElem?_eq_getElem hm)) (q _ (List.getElem_mem hm))
end L2.MP
namespace L2.MP
open PySem PySem.Spec PyProof.Rows
/-- the strictest choice -/
def lastc (e : Str) : Str := sv (chs e) ((chs e).length - 1 : Nat)
theorem lastc_ok : ∀ e ∈ ENT, lastc e ∈ chs e ∧ fL [("join" : Str), ("stop" : Str), ("raise" : Str), ("stop" : Str), ("stop" : Str), ("stop" : Str), ("stop" : Str), ("stop" : Str), ("stop" : Str), ("stop" : Str)] e = lastc e ∧ atI ((chs e).map V.str) (-1) = some (.str (lastc e)) ∧ (sv (chs e) 0 ∈ chs e ∧ atI ((chs e).map V.str) 0 = some (.str (sv (chs e) 0))) := by
  intro e he
  simp only [ENT, List.mem_cons, List.not_mem_nil, or_false] at he
  rcases he with rfl | rfl | rfl | rfl | rfl | rfl | rfl | rfl | rfl | rfl <;> decide +kernel
section
variable {K : PySem.W.Frag} {H : Hp} {Q : VK} {e c : Str} {a : Addr}
theorem o_ixLast (h : SqL K H a ((chs e).map V.str)) (he : e ∈ ENT) (q : Q (.str (lastc e)) H) : rIx K (.ref a) (.int (-1)) H Q := o_ixL h (lastc_ok e he).2.2.1 q
theorem k_ninEntF [BookK K] (he : e ∉ ENT) (q : Q (.bl true) H) : rInA K true (.str e) (.ref (He.ga K "ENTRIES")) H Q := k_ninEnt (by rw [decide_eq_false he]; exact q)
theorem k_ninChF [BookK K] (he : e ∈ ENT) (hc : c ∉ chs e) (q : Q (.bl true) H) : rInA K true (.str c) (.ref (chA K e)) H Q := k_ninCh he (by rw [decide_eq_false hc]; exact q)
/-- the wish of an except clause without a name -/
theorem k_wOnly {c cls : Value} {ts : Addr → Value → Option Addr → TS} {Wout : WX} {σ : St} {d : Option Addr} {D : Ends} (hx : PySem.W.exmOne K cls c = some true) (q : ∀ a, H a = none → ts a cls d D σ H) : wOnly K c ts Wout D cls d σ H := ⟨true, hx, fun _ => q, fun z => nomatch z⟩
end
end L2.MP
namespace L2.MP
open PySem PySem.Spec PyProof.Rows
section
variable {σ : St} {H : Hp} {Q : VK} {C : Addr} {sp : Sp} {m : Nat} {gV : List V → List V → List V} {zs vs : List V} {tk : TA}
def RMkK (C : Addr) (m : Nat) (sp : Sp) (gV : List V → List V → List V) (zs : List V) (E : XK) (H1 : Hp) (Q : VK) : Prop := zs.length = m ∧ ∀ x dx, H1 x = none → H1 dx = none → dx ≠ x → sp (gV [.ref x] zs) (upd (upd H1 dx (.own x)) x (.ins C dx [])) (fun v H2 => v = .non ∧ Q (.ref x) H2) E
theorem k_makeKS {E : St → XK} (h : tk σ H fun zs H1 => RMkK C m sp gV zs (E σ) H1 Q) : tMakeKS C m sp gV E tk σ H Q := h
theorem k_rmkK {E : XK} (hl : zs.length = m) (hg : ∀ x, gV [x] zs = x :: vs) (q : RMk C sp vs E H Q) : RMkK C m sp gV zs E H Q := ⟨hl, fun x dx h1 h2 h3 => by rw [hg]; exact q x dx h1 h2 h3⟩
end
end L2.MP

set_option Elab.async false
set_option linter.all false
set_option maxRecDepth 100000
set_option maxHeartbeats 4000000
/-! raise X(..) from Y(..): own classes with an own __init__, nothing handled. -/
namespace L2.MP
open PySem PySem.Spec PyProof.Rows
/-- what a raise with a cause leaves of the heap -/
def caused (h : Heap) (a b : Addr) : Heap := (h.update a (Obj.mapFields fun vs => vs.setIfInBounds 3 (.ref b))).update a (Obj.mapFields fun vs => vs.setIfInBounds 4 (.bool true))
abbrev excRec (C : Addr) (d : Option Addr) (t1 : Addr) : Obj := { cls := .ref C, dict := d, data := .fields #[.ref t1, .none, .none, .none, .bool false, .none] }
theorem caused_at {h : Heap} {a b C t1 : Addr} {d : Option Addr} (ha : h.get? a = some (excRec C d t1)) :
    h.get? a = some (excRec C d t1) ∧ (h.update a (Obj.mapFields fun vs => vs.setIfInBounds 3 (.ref b))).get? a = some { cls := .ref C, dict := d, data := .fields #[.ref t1, .none, .none, .ref b, .bool false, .none] } ∧
    (caused h a b).get? a = some { cls := .ref C, dict := d, data := .fields #[.ref t1, .none, .none, .ref b, .bool true, .none] } := by
  have q3 := Heap.get?_update_self (Obj.mapFields fun vs => vs.setIfInBounds 3 (.ref b)) ha (Obj.isFreed_of_fields (vs := #[.ref t1, .none, .none, .ref b, .bool false, .none]) rfl)
  have q4 := Heap.get?_update_self (Obj.mapFields fun vs => vs.setIfInBounds 4 (.bool true)) q3 (Obj.isFreed_of_fields (vs := #[.ref t1, .none, .none, .ref b, .bool true, .none]) rfl)
  exact ⟨ha, q3, q4⟩
theorem caused_ne {h : Heap} {a b x : Addr} (n : a ≠ x) : (caused h a b).get? x = h.get? x := (Heap.get?_update_other _ _ n).trans (Heap.get?_update_other _ _ n)
theorem sz_ofR {n : Nat} (h : n ≤ 1000) : n ≤ sizeLine := Nat.le_trans h (by decide)
theorem raise_fromC {prog : Program} {w : World} {A : Around} {E : Value → Shared → Prop} {env : Env} {s : Shared} {x c : Sem Value} {Q : Flow → Shared → Prop} (hh : A.handled = none)
    (h : wpAny (model prog w) A x (fun v s₁ => wpAny (model prog w) A c (fun v2 s₂ => ∃ (a C t1 b Cb tb : Addr) (d db : Option Addr), v = .ref a ∧ v2 = .ref b ∧ s₂.heap.get? a = some (excRec C d t1) ∧ s₂.heap.get? b = some (excRec Cb db tb) ∧
      PySem.W.Looks (model prog w) s₂.heap (isSubtype (.ref C) (.type "BaseException")) true ∧ PySem.W.Looks (model prog w) s₂.heap (isSubtype (.ref Cb) (.type "BaseException")) true ∧
      PySem.W.Looks (model prog w) (caused s₂.heap a b) (typeOf (.ref C)) (.type "type") ∧ E (.ref a) { s₂ with heap := caused s₂.heap a b }) E s₁) E s) :
    wpAny (model prog w) A (raiseStmt env (some x) (some c)) Q E s := by
  have nt : ∀ {Q' : Bool → Shared → Prop} {u : Shared} {p : Addr} {o : Obj} {vs : Array Value}, u.heap.get? p = some o → o.data = .fields vs → Q' false u → wpAny (model prog w) A (isType (.ref p)) Q' E u := fun {Q' u p o vs} g e q => by
    simp only [isType, loadHead]
    refine wpAny_bind (wpAny_loadPart g ?_)
    rw [e]
    exact wpAny_pure q
  have isI : ∀ {u : Heap} {p C : Addr} {o : Obj}, u.get? p = some o → o.cls = .ref C → PySem.W.Looks (model prog w) u (isSubtype (.ref C) (.type "BaseException")) true → PySem.W.Looks (model prog w) u (isInstance (.ref p) (.type "BaseException")) true := fun {u p C o} g e L => by
    have LT : PySem.W.Looks (model prog w) u (typeOf (.ref p)) (.ref C) := fun A Q E s k q => wpAny_typeOf_ref (k _ _ g) (by rw [e]; exact q)
    exact LT.andThen L
  unfold raiseStmt; dsimp only
  refine wpAny_bind (wpAny_mono h (fun v s₁ h₁ => wpAny_bind (wpAny_holding ?_)) fun _ _ z => z)
  refine wpAny_mono h₁ (fun v2 s₂ h₂ => wpAny_bind (wpAny_pure ?_)) fun _ _ z => z
  obtain ⟨a, C, t1, b, Cb, tb, d, db, rfl, rfl, ha, hb, L1, L2, L3, hE⟩ := h₂
  obtain ⟨_, ha3, ha4⟩ := caused_at (b := b) ha
  dsimp only
  refine wpAny_bind (wpAny_holding ?_); unfold excFromValue isExcClass
  refine wpAny_bind (wpAny_bind (nt ha rfl ?_)); simp only [Bool.false_eq_true, if_false]
  refine wpAny_pure ?_; simp only [Bool.false_eq_true, if_false]
  refine wpAny_bind ((isI ha rfl L1).here ?_); simp only [if_true]
  refine wpAny_pure ?_
  rw [if_neg (show ¬ (Value.ref b == Value.none) = true from by intro z; cases beq_iff_eq.mp z)]
  refine wpAny_bind (wpAny_holding ?_)
  refine wpAny_bind (wpAny_bind (nt hb rfl ?_)); simp only [Bool.false_eq_true, if_false]
  refine wpAny_pure ?_; simp only [Bool.false_eq_true, if_false]
  refine wpAny_bind ((isI hb rfl L2).here ?_); simp only [if_true]
  refine wpAny_pure ?_
  refine wpAny_bind (wpAny_setField ha rfl (show 3 < 6 by decide) (wpAny_bind (wpAny_setField ha3 rfl (show 4 < 6 by decide) ?_)))
  refine wpAny_bind (nt ha4 rfl ?_); simp only [Bool.false_eq_true, if_false]
  have LT4 : PySem.W.Looks (model prog w) (caused s₂.heap a b) (typeOf (.ref a)) (.ref C) := fun A Q E s k q => wpAny_typeOf_ref (k _ _ ha4) q
  unfold raisedInstance
  refine wpAny_bind (wpAny_bind (LT4.here (wpAny_bind (L3.here ?_)))); rw [if_pos (beq_self_eq_true _)]
  refine wpAny_pure ?_; unfold setFlight raiseNew
  refine wpAny_bind (wpAny_bind (wpAny_field ha4 rfl (show _ = some Value.none from rfl) ?_)); rw [if_neg (show ¬ (Value.none != Value.none) = true by decide)]
  refine wpAny_pure (wpAny_bind (wpAny_handled ?_)); rw [hh]
  first | exact wpAny_throw hE | exact wpAny_bind (wpAny_pure (wpAny_throw hE))
/-- an expression that makes an exception of an own class with an own __init__: it is new, and tracked -/
abbrev TX := St → Hp → (Addr → Addr → Addr → List (Str × V) → Hp → Prop) → Prop
def PMkT (X : Cx) (e : Expr) (t : TX) : Prop := ∀ (pins : List (Addr × Obj)) (s : Shared) (σ : St) (H : Hp) (Q : Addr → Addr → Addr → List (Str × V) → Hp → Prop), Inv X pins σ H s → t σ H Q →
  wpAny (model X.prog X.w) X.A (eval e X.env) (fun u s' => ∃ (a C d : Addr) (fs : List (Str × V)) (H' : Hp), u = .ref a ∧ Inv X pins σ H' s' ∧ X.s_0.heap.objs.size ≤ a ∧ a ∉ X.ex ∧ (∀ p ∈ X.pn ++ pins, p.1 ≠ a) ∧ H' a = some (exo a C (some d)) ∧ H' d = some (exd d fs) ∧ Raises X (.ref C) ∧ Q a C d fs H') X.xe s
def tMkT (C : Addr) (sp : Sp) (dvs : List V) (ta : TA) : TX := fun σ H Q => ta σ H fun vs H1 => vs.length ≤ 1000 ∧ ∀ a, H1 a = none → sp (.ref a :: (vs ++ dvs)) (upd H1 a (exo a C none))
  (fun v H2 => v = .non ∧ ∃ (d : Addr) (fs : List (Str × V)), H2 a = some (exo a C (some d)) ∧ H2 d = some (exd d fs) ∧ Q a C d fs H2) (fun _ _ _ => False)
section
variable {X : Cx} {es : List Expr} {e c : Expr} {ta : TA} {p pos : Pos}
theorem pmk_T {CX : CXT} {x : Str} {C fI : Addr} {k : Nat} {fd : FuncData} {ps : List Str} {sp : Sp} {ds : List Value} {dvs : List V} (T : OexC X.K C) (iC : PySem.W.findIn X.K (.ref C) "__init__" = some (some (.ref fI))) (tI : PySem.W.typeIn X.K (.ref fI) = some (.type "function"))
    (F1 : FnOk X.prog X.w X.K X.mg X.base CX k fI fd ps sp) (hr : Room (k + 1) X.A) (hb : Binds X.K fd ps ds) (hd : Vals dvs ds) (hx : Passes CX X (fun _ _ _ => False)) (hex : X.ex = []) (hg : Gl X x) (hm : X.mg x = some (.ref C)) (ha : PA X (e :: es) ta)
    (hdb : (x == ("__debug__" : Str)) = false := by decide) (hse : starEach (e :: es) X.env = (false, eval e X.env) :: starEach es X.env := by rfl) (hpl : (backTo pos (starEach es X.env)).any (·.1) = false := by rfl) :
    PMkT X (.Call (.Name x p) (e :: es) [] pos) (tMkT C sp dvs ta) := by
  intro pins s σ H Q I h
  have T' := T
  obtain ⟨nm, q, N, bs, bm, sn, sub, ab, col, dd, k0, k1, k2, k3, k5, hC, hbm⟩ := T.cls
  refine wpAny_Call_Name_kw (ld_glob I hg hm (PySem.W.callWith_K (h₀ := X.base) I.ok.mod.kin T.kC (thn (ha.run pos pins s σ H _ I h) ?_) hse hpl) hdb)
  rintro us ⟨hp, g, dr, tk, os⟩ ⟨vs, H1, I1, r1, hz, q1⟩
  refine ⟨I1.kIn, ?_⟩
  have hq := q1 (hp.objs.size + 1) (I1.hok.fresh (Nat.le_succ _))
  have hget : ((hp.push (PySem.W.kdv_tup us)).push (PySem.HandSPX.excO C hp.objs.size)).get? (hp.objs.size + 1) = some (PySem.HandSPX.excO C hp.objs.size) := by heap_get
  have I2 := I1.laid (t' := tk) (a := hp.objs.size + 1) (o := exo (hp.objs.size + 1) C none) (h' := (hp.push (PySem.W.kdv_tup us)).push (PySem.HandSPX.excO C hp.objs.size)) (fun b o ob => Heap.get?_push_of_some _ (Heap.get?_push_of_some _ ob)) (Nat.le_succ _) (exo_ok hget)
  have r2 : Vals (V.ref (hp.objs.size + 1) :: (vs ++ dvs)) (Value.ref (hp.objs.size + 1) :: (us ++ ds)) := .cons rfl (r1.append hd)
  have hl : (Value.ref (hp.objs.size + 1) :: us ++ ds).length = ps.length := r2.length.symm.trans (F1.len _ _ _ _ hq)
  have hus : us.length ≤ sizeLine := by rw [← r1.length]; exact sz_ofR hz
  refine wpAny_call (PySem.HandSPX.call_own F.excBase_ValueError (fun Y => PySem.HandSPX.refsVE_contains Y bm hbm) (I1.kIn _ _ hC) (PySem.W.looks_findIn I1.kIn iC) (fun self => PySem.W.bind_fn I1.kIn self tI) hus ?_)
  refine codeAny_mono (F1.run _ X.stack _ _ ⟨Value.ref (hp.objs.size + 1) :: us, []⟩ (Value.ref (hp.objs.size + 1) :: (us ++ ds)) _ _ (fun _ _ _ => False) (hr.make C us []) (I2.env0.make C us []) (hb _ (Value.ref (hp.objs.size + 1) :: us) I2.kIn hl) r2 hq) fun r s' hq' => ?_
  rcases r with er | fl
  · exact hx pins σ _ _ er s' I2 hq'
  · cases fl with
    | ret u =>
      obtain ⟨v, H', I3, rv, ev, d, fs, ea, ed, q3⟩ := I2.after hq'
      subst ev
      refine ⟨rv, hp.objs.size + 1, C, d, fs, H', rfl, I3, Nat.le_trans I1.sz (Nat.le_succ _), by rw [hex]; simp, fun p hp' z => ?_, ea, ed, raises_own T'.exC T'.tyC, q3⟩
      have := (I1.pin p hp').1
      exact absurd (Heap.lt_size this) (by rw [z]; exact Nat.not_lt.mpr (Nat.le_succ _))
    | _ => exact hq'.elim
end
theorem exd_frz {e : Addr} {fs : List (Str × V)} {o : Obj} {u : HO} : exd e fs ≠ .frz o u := fun z => by have z' : HO.ext _ = HO.frz o u := z; cases z'
theorem exd_tbl {e : Addr} {fs : List (Str × V)} {ps : Array Value} : exd e fs ≠ .tbl ps := fun z => by have z' : HO.ext _ = HO.tbl ps := z; cases z'
section
variable {X : Cx} {pins : List (Addr × Obj)} {σ : St} {H : Hp} {s : Shared} {a C d : Addr} {fs : List (Str × V)}
/-- a new exception is let go -/
theorem letgo (I : Inv X pins σ H s) (ea : H a = some (exo a C (some d))) (ed : H d = some (exd d fs)) (hn : X.s_0.heap.objs.size ≤ a) (hp : ∀ p ∈ X.pn ++ pins, p.1 ≠ a) :
    ∃ G : Heap, Inv X pins σ (upd (del H a) d (.xd fs)) { s with heap := G } ∧ (∀ b, b ≠ a → G.get? b = s.heap.get? b) ∧ G.get? a = none := by
  obtain ⟨G, q1, q2⟩ := restrict s.heap fun b => decide (b ≠ a)
  have gk : ∀ b, b ≠ a → G.get? b = s.heap.get? b := fun b hb => q1 b (decide_eq_true hb)
  have ga : G.get? a = none := q2 a (by simp)
  obtain ⟨t0, hoe⟩ := exo_at I.hok ea
  obtain ⟨mA, hns, rel⟩ := exd_at I.hok ed
  have na : ∀ {b : Addr}, H b = none → b ≠ a := fun {b} z e => by rw [e, ea] at z; cases z
  have nd : ∀ {b : Addr}, H b = none → b ≠ d := fun {b} z e => by rw [e, ed] at z; cases z
  have hda : d ≠ a := fun z => by
    obtain ⟨o, es, ep, e1, e2, _⟩ := hns
    rw [z, hoe] at e1
    cases Option.some.inj e1
    cases e2
  have no : ∀ {b : Addr} {o : Obj}, X.s_0.heap.get? b = some o → b ≠ a := fun z => Nat.ne_of_lt (Nat.lt_of_lt_of_le (Heap.lt_size z) hn)
  have gn : ∀ {b : Addr}, H b = none → upd (del H a) d (.xd fs) b = none := fun {b} z => by rw [upd_ne (nd z), del_ne (na z)]; exact z
  have cell : ∀ {x : Str} {c : Addr} {v : Option Value}, X.env.cells.lookup x = some c → s.heap.IsCell c v → G.IsCell c v := fun {x c v} e z => by
    obtain ⟨o, ho, hd⟩ := z
    exact ⟨o, (gk c (na (I.freeC x c e))).trans ho, hd⟩
  refine ⟨G, ⟨I.ok, I.os, I.bare, ⟨fun b o e n hb hx => (gk b (no e)).trans (I.base.keep b o e n hb hx), fun b o e n hb hx => ?_, fun b o e n hx => gn (I.base.free b o e n hx), fun b o e hx => ?_, fun b xs e => ?_, fun b o u e => ?_, fun b ps e => ?_⟩, ?_, fun x c e => ?_, gn I.free, fun x c e => gn (I.freeC x c e), fun p h => ?_, fun b o z => ?_, I.len⟩, gk, ga⟩
  · obtain ⟨sl, z⟩ := I.base.slot b o e n hb hx
    exact ⟨sl, (gk b (no e)).trans z⟩
  · obtain ⟨o', z⟩ := I.base.there b o e hx
    exact ⟨o', (gk b (no e)).trans z⟩
  · have z := I.base.tups b xs e
    rw [upd_ne (at_ne ed z exd_tup), del_ne (at_ne ea z exo_tup)]
    exact z
  · have z := I.base.frzs b o u e
    rw [upd_ne (at_ne ed z exd_frz), del_ne (at_ne ea z exo_frz)]
    exact z
  · obtain ⟨m, z⟩ := I.base.tbls b ps e
    exact ⟨m, by rw [upd_ne (at_ne ed z exd_tbl), del_ne (at_ne ea z exo_tbl)]; exact z⟩
  · obtain ⟨m, ⟨o, es, ep, ho, r⟩, hl⟩ := I.loc
    refine ⟨m, ⟨o, es, ep, (gk _ (na I.free)).trans ho, r⟩, fun i x v e1 e2 e3 => ?_⟩
    obtain ⟨u, ru, lk⟩ := hl i x v e1 e2 e3
    refine ⟨u, ru, lk.imp id fun ⟨k, c, ec, z⟩ => ⟨k, c, ec, cell ec z⟩⟩
  · obtain ⟨v, z⟩ := I.cell x c e
    exact ⟨v, cell e z⟩
  · obtain ⟨e1, n1, l1, f1, c1⟩ := I.pin p h
    exact ⟨(gk _ (hp p h)).trans e1, gn n1, l1, f1, c1⟩
  · by_cases hbd : b = d
    · subst hbd
      rw [upd_same] at z
      cases z
      exact ⟨mA, hns.at fun o y => (gk b hda).trans y, rel⟩
    · rw [upd_ne hbd] at z
      have hba : b ≠ a := fun e => by rw [e, del_same] at z; cases z
      rw [del_ne hba] at z
      have key : ∀ c, c = b ∨ H c = some (.own b) → c ≠ a := fun c hc => hc.elim (fun e => by rw [e]; exact hba) fun e => at_ne ea e exo_own
      refine (I.hok b o z).stay (fun c v hc y => (gk c (key c hc)).trans y) (fun c hc => ?_) fun c xs hc => ?_
      · rw [upd_ne (at_ne ed hc exd_own), del_ne (at_ne ea hc exo_own)]
        exact hc
      · rw [upd_ne (at_ne ed hc exd_tup), del_ne (at_ne ea hc exo_tup)]
        exact hc
end
section
variable {X : Cx} {W : WX} {e c : Expr} {t u : TX} {pos : Pos}
def tRaiseF (W : WX) (t u : TX) : TS := fun _ σ H => t σ H fun a C d fs H1 => u σ H1 fun _ _ _ _ H2 => H2 a = some (exo a C (some d)) ∧ H2 d = some (exd d fs) ∧ W (.ref C) (some d) σ (upd (del H2 a) d (.xd fs))
theorem ps_raiseFrom (hc : X.calm = true) (tk : Takes X W) (he : PMkT X e t) (hu : PMkT X c u) : PS X (.Raise (some e) (some c) pos) (tRaiseF W t u) := by
  refine ⟨fun pins s σ H D I h => ?_⟩
  show wpAny _ _ (do standAt pos; raiseStmt X.env (some (do let v ← eval e X.env; standAt pos; pure v)) (some (do let v ← eval c X.env; standAt pos; pure v))) _ _ _
  refine wpAny_bind (wpAny_standAt (raise_fromC (I.ok.hd hc) (wpAny_bind (thn (he pins s σ H _ I h) fun v s1 hv => wpAny_bind (wpAny_standAt (wpAny_pure ?_))))))
  obtain ⟨a, C, d, fs, H1, rfl, I1, ha, hax, hap, ea, ed, ra, q1⟩ := hv
  refine wpAny_bind (thn (hu pins s1 σ H1 _ I1 q1) fun v2 s2 hv2 => wpAny_bind (wpAny_standAt (wpAny_pure ?_)))
  obtain ⟨b, C', d', fs', H2, rfl, I2, hb, hbx, hbp, eb, ed', rb, ea2, ed2, w⟩ := hv2
  obtain ⟨t1, oa⟩ := exo_at I2.hok ea2
  obtain ⟨tb, ob⟩ := exo_at I2.hok eb
  obtain ⟨G, J, gk, ga⟩ := letgo I2 ea2 ed2 ha hap
  have k3 : ∀ x o, G.get? x = some o → (caused s2.heap a b).get? x = some o := fun x o z => by
    have n : x ≠ a := fun e => by rw [e, ga] at z; cases z
    rw [caused_ne (Ne.symm n), ← gk x n]
    exact z
  obtain ⟨_, _, oa4⟩ := caused_at (b := b) oa
  refine ⟨a, C, t1, b, C', tb, some d, some d', rfl, rfl, oa, ob, (ra _ s2.heap I2.kIn).1, (rb _ s2.heap I2.kIn).1, (ra _ _ (J.kIn.keeps k3)).2, tk _ _ (XE.new (s' := { s2 with heap := caused s2.heap a b }) J k3 ga oa4 ⟨rfl, rfl⟩ rfl rfl ?_ rfl I2.bare w)⟩
  have hda : d ≠ a := fun z => by
    rw [z, ea2] at ed2
    obtain ⟨mA, ⟨o, es, ep, e1, e2, _⟩, _⟩ := exd_at I2.hok (show H2 d = some (exd d fs) by rw [z, ea2]; exact ed2)
    rw [z, oa] at e1
    cases Option.some.inj e1
    cases e2
  rw [upd_ne (Ne.symm hda), del_same]
end
/-! the facts of such a class -/
def oexO (C : Addr) : Option Obj → Bool
  | some ⟨.type ty, _, .cls cd, sl⟩ => decide (ty = "type") && (match cd.mro, sl.toList with
    | .ref C' :: bm, [_, _, _, _, some (.builtin n), _] => decide (C' = C) && (decide (n = "ValueError.__new__") && (!cd.hasDel && (cd.hasDict && PySem.HandSPX.refsVE bm)))
    | _, _ => false)
  | _ => false
def oexB (x : Str) (K : PySem.W.Frag) : Bool := oexO (He.ga K x) (K.lookup (He.ga K x)) && (He.eqO (PySem.W.findIn K (.ref (He.ga K x)) "__setattr__") (some (some (.builtin "object.__setattr__"))) &&
  (decide (PySem.W.subIn K (.ref (He.ga K x)) (.type "BaseException") = some true) && (decide (PySem.W.typeIn K (.ref (He.ga K x)) = some (.type "type")) && PySem.W.keepIn K (.ref (He.ga K x)))))
theorem oexO_ok {C : Addr} {o : Option Obj} (h : oexO C o = true) : ∃ nm q N bs bm sn sub ab col dd k0 k1 k2 k3 k5, o = some (excClassObj nm q C N bs bm true sn sub ab col dd k0 k1 k2 k3 k5 "ValueError.__new__") ∧ PySem.HandSPX.refsVE bm = true := by
  unfold oexO at h
  split at h
  · rename_i ty dd cd sl
    obtain ⟨h1, h2⟩ := He.ba h
    have hty := of_decide_eq_true h1
    subst hty
    split at h2
    · rename_i C' bm k0 k1 k2 k3 n k5 hm hs
      obtain ⟨q1, q⟩ := He.ba h2
      obtain ⟨q2, q⟩ := He.ba q
      obtain ⟨q3, q⟩ := He.ba q
      obtain ⟨q4, q5⟩ := He.ba q
      have e1 := of_decide_eq_true q1
      have e2 := of_decide_eq_true q2
      subst e1 e2
      rcases cd with ⟨nm, bs, mro, ns, qn, hd, sn, sub, ab, col, del⟩
      dsimp only at hm q3 q4
      subst hm q4
      cases del
      · obtain ⟨l⟩ := sl
        have hs' : l = [k0, k1, k2, k3, some (.builtin "ValueError.__new__"), k5] := hs
        subst hs'
        exact ⟨nm, qn, ns, bs, bm, sn, sub, ab, col, dd, k0, k1, k2, k3, k5, rfl, q5⟩
      · cases q3
    · cases h2
  · cases h
theorem oexB_ok {x : Str} {K : PySem.W.Frag} (h : oexB x K = true) : OexC K (He.ga K x) := by
  obtain ⟨h1, h⟩ := He.ba h
  obtain ⟨h2, h⟩ := He.ba h
  obtain ⟨h3, h⟩ := He.ba h
  obtain ⟨h4, h5⟩ := He.ba h
  exact ⟨oexO_ok h1, He.eqO_ok h2, of_decide_eq_true h3, of_decide_eq_true h4, h5⟩
end L2.MP
namespace L2.MP
open PySem PySem.Spec PyProof.Rows
section
variable {K : PySem.W.Frag} {σ : St} {H : Hp} {D : Ends} {C a d : Addr} {sp : Sp} {dvs vs : List V} {ta : TA} {t u : TX} {W : WX} {fs : List (Str × V)}
def RMkT (C : Addr) (sp : Sp) (dvs vs : List V) (H1 : Hp) (Q : Addr → Addr → Addr → List (Str × V) → Hp → Prop) : Prop := vs.length ≤ 1000 ∧ ∀ a, H1 a = none → sp (.ref a :: (vs ++ dvs)) (upd H1 a (exo a C none))
  (fun v H2 => v = .non ∧ ∃ (d : Addr) (fs : List (Str × V)), H2 a = some (exo a C (some d)) ∧ H2 d = some (exd d fs) ∧ Q a C d fs H2) (fun _ _ _ => False)
theorem k_mkT {Q : Addr → Addr → Addr → List (Str × V) → Hp → Prop} (h : ta σ H fun vs H1 => RMkT C sp dvs vs H1 Q) : tMkT C sp dvs ta σ H Q := h
def RF2 (W : WX) (σ : St) (a C d : Addr) (fs : List (Str × V)) (H2 : Hp) : Prop := H2 a = some (exo a C (some d)) ∧ H2 d = some (exd d fs) ∧ W (.ref C) (some d) σ (upd (del H2 a) d (.xd fs))
theorem k_raiseF (h : t σ H fun a C d fs H1 => u σ H1 fun _ _ _ _ H2 => RF2 W σ a C d fs H2) : tRaiseF W t u D σ H := h
/-- the wish of an except clause -/
theorem k_wAs {c cls : Value} {i : Nat} {ts : Addr → Value → Option Addr → TS} {Wout : WX} {d : Option Addr} {n b ct : St → Hp → Prop} {r : VK} (hx : PySem.W.exmOne K cls c = some true)
    (q : ∀ a, H a = none → ts a cls d ⟨fun σ' H' => n (σ'.set i none) H', r, fun σ' H' => b (σ'.set i none) H', fun σ' H' => ct (σ'.set i none) H'⟩ (σ.set i (some (.ref a))) H) : wAs K c i ts Wout ⟨n, r, b, ct⟩ cls d σ H := ⟨true, hx, fun _ => q, fun z => nomatch z⟩
/-- n.f of the caught one -/
def RXf (a : Addr) (cls : Value) (d : Option Addr) (C : Addr) (f : Str) (x : V) (H1 : Hp) (Q : VK) : Prop := x = .ref a ∧ cls = .ref C ∧ ∃ (dd : Addr) (fs : List (Str × V)) (v : V), d = some dd ∧ H1 dd = some (.xd fs) ∧ fs.lookup f = some v ∧ Q v H1
theorem k_xf {te : TE} {f : Str} {cls : Value} {dd : Option Addr} {Q : VK} (h : te σ H fun x H1 => RXf a cls dd C f x H1 Q) : tXf a cls dd C f te σ H Q := h
theorem k_rxf {f : Str} {dd : Addr} {v : V} {Q : VK} (h : H dd = some (.xd fs)) (l : fs.lookup f = some v) (q : Q v H) : RXf a (.ref C) (some dd) C f (.ref a) H Q := ⟨rfl, rfl, dd, fs, v, rfl, h, l, q⟩
theorem k_rxf1 {f : Str} {dd : Addr} {v : V} {Q : VK} (h : H dd = some (.xd [(f, v)])) (q : Q v H) : RXf a (.ref C) (some dd) C f (.ref a) H Q := k_rxf h (by rw [List.lookup_cons, beq_self_eq_true]) q
theorem k_mk1 {f : Str} {v : V} {Q : Addr → Addr → Addr → List (Str × V) → Hp → Prop}
    (hsp : ∀ (a : Addr) (H1 : Hp) (Q' : VK), H1 a = some (exo a C none) → (∀ d, H1 d = none → d ≠ a → Q' .non (upd (upd H1 d (exd d [(f, v)])) a (exo a C (some d)))) → sp [.ref a, v] H1 Q' (fun _ _ _ => False))
    (q : ∀ a d H', H a = none → Ex H H' → H' a = some (exo a C (some d)) → H' d = some (exd d [(f, v)]) → H d = none → Q a C d [(f, v)] H') : RMkT C sp [] [v] H Q := by
  refine ⟨Nat.le_of_ble_eq_true rfl, fun a ha => hsp a _ _ upd_same fun d hd hn => ⟨rfl, d, _, upd_same, by rw [upd_ne hn, upd_same], q a d _ ha ?_ upd_same (by rw [upd_ne hn, upd_same]) (up_none hd)⟩⟩
  exact Ex.new' (Ex.new' (Ex.new ha) (up_none hd)) ha
theorem k_rf2 (ha : H a = some (exo a C (some d))) (hd : H d = some (exd d fs)) (q : ∀ H', (∀ x o, x ≠ a → x ≠ d → H x = some o → H' x = some o) → H' d = some (.xd fs) → W (.ref C) (some d) σ H') : RF2 W σ a C d fs H :=
  ⟨ha, hd, q _ (fun x o h1 h2 h => by rw [upd_ne h2, del_ne h1]; exact h) upd_same⟩
end
end L2.MP

set_option Elab.async false
set_option linter.all false
set_option maxRecDepth 100000
set_option maxHeartbeats 4000000
/-! isinstance of a caught exception that has a dict of its own. -/
namespace L2.MP
open PySem PySem.W PySem.Spec PySem.Calls PyProof.Rows
section
variable {prog : Program} {w : World} {A : Around} {E : Value → Shared → Prop} {s : Shared} {K : Frag} {x D : Addr} {ox : Obj} {od : Option Obj}
theorem found_class (T : ExcC K D) : findObj K D od "__class__" = some (.bind (.builtin "getset_descriptor.__get__") (.builtin "object.__class__")) := by
  obtain ⟨cd, hc, _⟩ := any_some T.hd
  unfold findObj; rw [hc, Option.bind_some, T.ha, Option.bind_some]; simp [T.hn, T.ht]
theorem class_of_exc (T : ExcC K D) {Q : Option Value → Shared → Prop} (X : K.In s.heap) (I : InstAt s.heap x ox D od) (q : Q (some (.ref D)) { s with toks := s.toks + 1 }) : wpAny (model prog w) A (getAttr? (.ref x) "__class__") Q E s := by
  obtain ⟨hp, gs, dr, tk, os⟩ := s
  have T0 := I.type (M := model prog w)
  have F1 := looks_findIn (M := model prog w) X T.hg
  have F2 := looks_findIn (M := model prog w) X T.hk
  have F3 := looks_find (M := model prog w) X I (found_class (od := od) T)
  have isx : Looks (model prog w) hp (isInstance (.ref x) (.type "BaseException")) true := T0.andThen (looks_subIn X T.hs)
  have n2 : (Value.builtin "BaseException.__getattribute__" == Value.builtin "object.__getattribute__") = false := by decide +kernel
  unfold getAttr? getAttrBy? getAttrBy; refine wpAny_bind (wpAny_mkText (wpAny_bind (wpAny_attempt (wpAny_holding (wpAny_bind (T0.at (wpAny_bind (F1.at ?_))))))))
  show wpAny _ _ (if (onTheHeap (Value.ref D) && Value.builtin "BaseException.__getattribute__" == Value.builtin "object.__getattribute__") = true then _ else _) _ _ _
  rw [show (onTheHeap (Value.ref D) && Value.builtin "BaseException.__getattribute__" == Value.builtin "object.__getattribute__") = false by rw [n2]; rfl, if_neg Bool.false_ne_true]
  unfold getAttrByItsOwn hookBefore; refine wpAny_bind ?_; rw [if_pos (show onTheHeap (Value.ref D) = true from rfl)]
  refine F2.at (wpAny_bind (wpAny_attempt (wpAny_holding ?_))); unfold callGetattribute
  rw [show (false && onTheHeap (Value.builtin "BaseException.__getattribute__")) = false from rfl, if_neg Bool.false_ne_true]; unfold boundAndCalled
  rw [PySem.F.excAttr_ValueError.ga.bind (.ref x)]; refine wpAny_bind (wpAny_pure ?_)
  show wpAny _ _ (call (.builtin "BaseException.__getattribute__") [.ref x, .str "__class__" tk]) _ _ _
  refine wpAny_call (codeAny_call_builtin PySem.F.excAttr_ValueError.ga.plain PySem.F.entry_bexc_ga (@check_slot (model prog w) _ _ ⟨hp, gs, dr, tk + 1, os⟩ "BaseException.__getattribute__" "BaseException" "__getattribute__" (.ref x) [.str "__class__" tk] [] _ (by decide +kernel) (by decide +kernel) isx (PySem.F.args_bexc_ga (.ref x) (.str "__class__" tk)) ?_))
  unfold Builtin.«object.__getattribute__»; refine wpAny_bind (wpAny_of_eq (a := ((Value.ref x : Value), [Value.str "__class__" tk])) (by first | rfl | (simp only [slotArgs]; rfl)) ?_)
  refine wpAny_bind (wpAny_pure (wpAny_bind (T0.at (wpAny_bind (F3.at ?_)))))
  show wpAny _ _ (holding [Value.builtin "object.__class__"] (call (.builtin "getset_descriptor.__get__") [.builtin "object.__class__", .ref x, .ref D]) >>= ret) _ _ _
  refine wpAny_bind (wpAny_holding (wpAny_call (class_get (s := ⟨hp, gs, dr, tk + 1, os⟩) (ox := ox) (od := od) X I T.hm (wpAny_pure ?_))))
  show wpAny _ _ (handedOut (.ref D)) _ _ _; rw [handedOut_of (v := .ref D) rfl]
  first | exact wpAny_pure (wpAny_pure q) | exact wpAny_pure q | exact wpAny_pure (wpAny_bind (wpAny_pure (wpAny_pure q)))
theorem kitx_of_exc (T : ExcC K D) : KitX K (.ref x) (.ref D) (fun h => ∃ od, InstAt h x ox D od) where
  ty := fun _ _ _ ⟨_, I⟩ => I.type
  it := fun _ _ X _ => by
    obtain ⟨cd, hc, _⟩ := any_some T.hd
    unfold clsIn at hc; split at hc
    · rename_i c' d' cd' sl' ho
      intro A' Q' E' s' k q
      unfold isType loadHead; exact wpAny_bind (wpAny_loadPart (k _ _ (X _ _ ho)) (wpAny_pure q))
    · cases hc
  ne := fun h tp dd its n sl X htp => by
    obtain ⟨cd, hc, _⟩ := any_some T.hd
    refine Bool.eq_false_iff.mpr fun q => ?_
    cases Value.ref.inj (beq_iff_eq.mp q)
    unfold clsIn at hc; split at hc
    · rename_i c' d' cd' sl' ho
      cases (X _ _ ho).symm.trans htp
    · cases hc
  ca := fun X ⟨od, I⟩ k => class_of_exc T X I k
end
end L2.MP
namespace L2.MP
open PySem PySem.Spec PyProof.Rows
/-- isinstance(e, c): e the exception that the suite holds, its dict tracked as an exception's -/
def rIsED (K : PySem.W.Frag) (D a dd : Addr) : List V → Hp → VK → Prop := fun xs H Q => ∃ (c : V) (cv : Value) (b : Bool) (fs : List (Str × V)), xs = [.ref a, c] ∧ (∀ u, RelV c u → u = cv) ∧ H dd = some (.xd fs) ∧ PySem.W.kitOne K (.ref D) cv = some b ∧ Q (.bl b) H
theorem call_isED {X : Cx} {a D dd : Addr} {oe : Obj} {pn : List (Addr × Obj)} (C : ExcC X.K D) (hz : Zc (.ref D) (some dd) oe) (hf : ∃ vs, oe.data = .fields vs) : CallR (X.suite a ((a, oe) :: pn)) (.builtin "isinstance") (rIsED X.K D a dd) := by
  intro pins s σ H xs us Q I r h
  obtain ⟨c, cv, b, fs, rfl, hcv, hd, e, q⟩ := h
  rcases r with _ | ⟨rx, _ | ⟨rt, _ | _⟩⟩
  cases rx
  cases hcv _ rt
  obtain ⟨hget, _⟩ := I.pin (a, oe) (List.mem_append.mpr (.inl List.mem_cons_self))
  obtain ⟨vs, hv⟩ := hf
  have hx : ObjOk X.prog X.w H s.heap dd (.xd fs) := I.hok dd _ hd
  obtain ⟨mA, ⟨o, es, ep, ho, _⟩, _⟩ := hx
  have J : ∃ od, PySem.W.InstAt s.heap a oe D od := ⟨some o, hget, hz.1, by unfold PySem.W.notCls; rw [hv] <;> rfl, by rw [hz.2]; exact ho⟩
  exact PySem.W.kia_one (kitx_of_exc C) I.kIn J e (fun z => nomatch z) fun tk => ⟨.bl b, H, I.kept (t' := tk) fun _ _ z => z, rfl, q⟩
/-- of whatever class and dict the suite's exception is; with a class or a tuple of classes -/
def rIsX (K : PySem.W.Frag) (a : Addr) (cls : Value) (d : Option Addr) (D : Addr) : List V → Hp → VK → Prop := fun xs H Q => cls = .ref D ∧ (d = none ∨ ∃ dd fs, d = some dd ∧ H dd = some (.xd fs)) ∧
  ((∃ (c : V) (cv : Value) (b : Bool), xs = [.ref a, c] ∧ ClsV c cv ∧ PySem.W.kitOne K (.ref D) cv = some b ∧ Q (.bl b) H) ∨ ∃ (tp : Addr) (cs : List V) (ws : List Value) (b : Bool), xs = [.ref a, .ref tp] ∧ H tp = some (.tup cs) ∧ Paired ClsV cs ws ∧ PySem.W.kitAny K (.ref D) ws = some b ∧ Q (.bl b) H)
theorem call_isX {X : Cx} {a D : Addr} {cls : Value} {d : Option Addr} {oe : Obj} {pn : List (Addr × Obj)} (C : ExcC X.K D) (hz : Zc cls d oe) (hf : ∃ vs, oe.data = .fields vs) : CallR (X.suite a ((a, oe) :: pn)) (.builtin "isinstance") (rIsX X.K a cls d D) := by
  rintro pins s σ H xs us Q I r ⟨rfl, hd, h⟩
  obtain ⟨hget, _⟩ := I.pin (a, oe) (List.mem_append.mpr (.inl List.mem_cons_self))
  obtain ⟨vs, hv⟩ := hf
  have nc : PySem.W.notCls oe = true := by unfold PySem.W.notCls; rw [hv] <;> rfl
  have J : ∃ od, PySem.W.InstAt s.heap a oe D od := by
    rcases hd with rfl | ⟨dd, fs, rfl, hd⟩
    · exact ⟨none, hget, hz.1, nc, by rw [hz.2]; trivial⟩
    · have hx : ObjOk X.prog X.w H s.heap dd (.xd fs) := I.hok dd _ hd
      obtain ⟨mA, ⟨o, es, ep, ho, _⟩, _⟩ := hx
      exact ⟨some o, hget, hz.1, nc, by rw [hz.2]; exact ho⟩
  rcases h with ⟨c, cv, b, rfl, hcv, e, q⟩ | ⟨tp, cs, ws, b, rfl, hT, hcs, e, q⟩
  · rcases r with _ | ⟨rx, _ | ⟨rt, _ | _⟩⟩
    cases rx
    cases hcv.eq rt
    exact PySem.W.kia_one (kitx_of_exc C) I.kIn J e (fun z => nomatch z) fun tk => ⟨.bl b, H, I.tok tk, rfl, q⟩
  · rcases r with _ | ⟨rx, _ | ⟨rt, _ | _⟩⟩
    cases rx
    cases rt
    obtain ⟨_, its, rv, o, h1, h2, n, h3⟩ := (show ObjOk X.prog X.w H s.heap tp (.tup cs) from I.hok tp _ hT)
    cases ClsV.all hcs rv
    rcases o with ⟨oc, od, dt, sl⟩
    dsimp only at h2 h3
    subst h2 h3
    exact PySem.W.kia_tup (kitx_of_exc C) I.kIn J h1 e (fun z => nomatch z) fun tk => ⟨.bl b, H, I.tok tk, rfl, q⟩
section
variable {K : PySem.W.Frag} {H : Hp} {Q : VK} {a D E : Addr} {d : Option Addr} {b : Bool} {S : String} {cs : List V} {ws : List Value} {tp : Addr}
/-- what is known of the exception's dict -/
class XdC (H : Hp) (d : Option Addr) : Prop where
  ok : d = none ∨ ∃ dd fs, d = some dd ∧ H dd = some (.xd fs)
instance : XdC H none := ⟨.inl rfl⟩
theorem i_excC (hd : d = none ∨ ∃ dd fs, d = some dd ∧ H dd = some (.xd fs)) (c : Kit K (.ref D) (.ref E) b) (q : Q (.bl b) H) : rIsX K a (.ref D) d D [.ref a, .ref E] H Q := ⟨rfl, hd, .inl ⟨_, _, b, rfl, .own E, c.eq, q⟩⟩
theorem i_excT (hd : d = none ∨ ∃ dd fs, d = some dd ∧ H dd = some (.xd fs)) (c : Kit K (.ref D) (.type S) b) (q : Q (.bl b) H) : rIsX K a (.ref D) d D [.ref a, .ty S] H Q := ⟨rfl, hd, .inl ⟨_, _, b, rfl, .ty S, c.eq, q⟩⟩
class PairC (cs : List V) (ws : outParam (List Value)) : Prop where
  eq : Paired ClsV cs ws
instance : PairC [] [] := ⟨.nil⟩
instance {C : Addr} [c : PairC cs ws] : PairC (.ref C :: cs) (.ref C :: ws) := ⟨.cons (.own C) c.eq⟩
class KitA (K : PySem.W.Frag) (t : Value) (ws : List Value) (b : outParam Bool) : Prop where
  eq : PySem.W.kitAny K t ws = some b
instance {t : Value} : KitA K t [] false := ⟨rfl⟩
instance {t c : Value} [k : Kit K t c false] [r : KitA K t ws b] : KitA K t (c :: ws) b := ⟨kitAny_cons k.eq (fun _ => r.eq) (fun z => nomatch z)⟩
theorem i_excA (hd : d = none ∨ ∃ dd fs, d = some dd ∧ H dd = some (.xd fs)) (h : H tp = some (.tup cs)) (p : PairC cs ws) (c : KitA K (.ref D) ws b) (q : Q (.bl b) H) : rIsX K a (.ref D) d D [.ref a, .ref tp] H Q := ⟨rfl, hd, .inr ⟨tp, cs, ws, b, rfl, h, p.eq, c.eq, q⟩⟩
end
def excCB (x : Str) (K : PySem.W.Frag) : Bool := decide (PySem.W.findIn K (.ref (He.ga K x)) "__getattribute__" = some (some (.builtin "BaseException.__getattribute__"))) && (decide (PySem.W.findIn K (.ref (He.ga K x)) "__getattr__" = some none) && (decide (PySem.W.subIn K (.ref (He.ga K x)) (.type "BaseException") = some true) &&
  (PySem.W.hasDictIn K (He.ga K x) && (decide (PySem.W.findIn K (.ref (He.ga K x)) "__class__" = some (some (.builtin "object.__class__"))) && (decide (PySem.W.specialIn K (.builtin "object.__class__") "__get__" = some (some (.builtin "getset_descriptor.__get__"))) && (decide (PySem.W.takesIn K (.builtin "object.__class__") = some true) &&
    decide (PySem.W.mroIn K (He.ga K x) (.type "object") = some true)))))))
theorem excCB_ok {x : Str} {K : PySem.W.Frag} (h : excCB x K = true) : ExcC K (He.ga K x) := by
  obtain ⟨h1, h⟩ := He.ba h
  obtain ⟨h2, h⟩ := He.ba h
  obtain ⟨h3, h⟩ := He.ba h
  obtain ⟨h4, h⟩ := He.ba h
  obtain ⟨h5, h⟩ := He.ba h
  obtain ⟨h6, h⟩ := He.ba h
  obtain ⟨h7, h8⟩ := He.ba h
  exact ⟨of_decide_eq_true h1, of_decide_eq_true h2, of_decide_eq_true h3, h4, of_decide_eq_true h5, of_decide_eq_true h6, of_decide_eq_true h7, of_decide_eq_true h8⟩
end L2.MP

set_option Elab.async false
set_option linter.all false
set_option maxRecDepth 100000
/-! MPCmp: dicts compared in both answers, != by an own __eq__, index of lists and tuples, copies of dicts. -/
namespace L2.MP
open PySem PySem.SeqAt L2 GQ

/-! ### dicts of flat values compared -/
def eqD (ks ls : List (Key × V)) : Bool := ks.length == ls.length && ks.all fun p => match valV ls p.1 with
  | some y => eqV p.2 y
  | none => false
section
variable {κ : Type} [DecidableEq κ]
theorem valV_memP : ∀ {kvs : List (κ × V)} {k : κ} {y : V}, valV kvs k = some y → ∃ p ∈ kvs, p.2 = y
  | [], k, y, h => by cases h
  | q :: r, k, y, h => by
    by_cases e : q.1 = k
    · rw [valV_pos e] at h; exact ⟨q, List.mem_cons_self, Option.some.inj h⟩
    · rw [valV_neg e] at h
      obtain ⟨p, hp, ee⟩ := valV_memP h
      exact ⟨p, List.mem_cons_of_mem _ hp, ee⟩
theorem hits_any {A : Around} {s : Shared} {kvs : List (κ × V)} {vb : List (κ × Value)} (rb : KV kvs vb) (fb : ∀ p ∈ kvs, flatV p.2 = true) {ks : List (κ × V)} {va : List (κ × Value)} (ra : KV ks va) :
    (∀ p ∈ ks, flatV p.2 = true) → PySem.W.KeqHits A s vb va (ks.all fun p => match valV kvs p.1 with
      | some y => eqV p.2 y
      | none => false) := by
  unfold KV at ra
  induction ra with
  | nil => intro _; exact .nil
  | @cons p q ps qs h t ih =>
    intro hp
    obtain ⟨h1, h2⟩ := h
    have f := hp p List.mem_cons_self
    have ih' := ih fun p' hm => hp p' (List.mem_cons_of_mem _ hm)
    obtain ⟨k, v⟩ := q
    have h1' : p.1 = k := h1
    rw [List.all_cons]
    have rr : RelO (valV kvs p.1) (valueAt vb p.1) := rb.val p.1
    rw [h1'] at rr ⊢
    cases e : valV kvs k with
    | none =>
      rw [e] at rr
      exact .miss (by cases e2 : valueAt vb k with
        | none => rfl
        | some y => rw [e2] at rr; exact rr.elim)
    | some y =>
      rw [e] at rr
      obtain ⟨z, hz, rz⟩ := rr.some_of
      have fy : flatV y = true := by
        obtain ⟨pp, hpp, ee⟩ := valV_memP e
        exact ee ▸ fb pp hpp
      exact .hit hz (eqAt_V h2 rz f fy) ih'
end
section
variable {X : Cx}
def rEqDD : R2 := fun x y H Q => ∃ a b ks ls, x = .ref a ∧ y = .ref b ∧ H a = some (.dK ks) ∧ H b = some (.dK ls) ∧ (∀ p ∈ ks, flatV p.2 = true) ∧ (∀ p ∈ ls, flatV p.2 = true) ∧ Q (.bl (eqD ks ls)) H
def rNeDD : R2 := fun x y H Q => ∃ a b ks ls, x = .ref a ∧ y = .ref b ∧ H a = some (.dK ks) ∧ H b = some (.dK ls) ∧ (∀ p ∈ ks, flatV p.2 = true) ∧ (∀ p ∈ ls, flatV p.2 = true) ∧ Q (.bl (!eqD ks ls)) H
theorem op_eqDD (hu : X.A.units < cLine) : OpR X (compareOp .Eq) rEqDD := by
  intro pins s σ H x y v u Q I rx ry h
  obtain ⟨a, b, ks, ls, rfl, rfl, ea, eb, fk, fl, q⟩ := h
  obtain rfl : v = Value.ref a := rx
  obtain rfl : u = Value.ref b := ry
  obtain ⟨_, ya, va, ra, da⟩ := (show ObjOk X.prog X.w H s.heap a (.dK ks) from I.hok a _ ea)
  obtain ⟨_, yb, vb, rb, db⟩ := (show ObjOk X.prog X.w H s.heap b (.dK ls) from I.hok b _ eb)
  refine PySem.W.keq_eq (knd := mixKind X.prog X.w) ya yb da db hu (fun _ => hits_any rb fl ra fk) ?_
  rw [← ra.length, ← rb.length]
  exact fin_bl I q rfl
theorem op_neDD (hu : X.A.units < cLine) : OpR X (compareOp .NotEq) rNeDD := by
  intro pins s σ H x y v u Q I rx ry h
  obtain ⟨a, b, ks, ls, rfl, rfl, ea, eb, fk, fl, q⟩ := h
  obtain rfl : v = Value.ref a := rx
  obtain rfl : u = Value.ref b := ry
  obtain ⟨_, ya, va, ra, da⟩ := (show ObjOk X.prog X.w H s.heap a (.dK ks) from I.hok a _ ea)
  obtain ⟨_, yb, vb, rb, db⟩ := (show ObjOk X.prog X.w H s.heap b (.dK ls) from I.hok b _ eb)
  refine PySem.W.keq_ne (knd := mixKind X.prog X.w) ya yb da db hu (fun _ => hits_any rb fl ra fk) ?_
  rw [← ra.length, ← rb.length]
  exact fin_bl I q rfl

/-! ### copies, index -/
def rDictA : List V → Hp → VK → Prop := fun xs H Q => ∃ (a : Addr) (kvs : List (Key × V)), xs = [.ref a] ∧ H a = some (.dK kvs) ∧ ∀ p, H p = none → Q (.ref p) (upd H p (.dK kvs))
theorem call_dictA : CallR X (.type "dict") rDictA := by
  intro pins s σ H xs us Q I r q
  obtain ⟨a, kvs, e, h, q⟩ := q
  exact call_dictD pins s σ H xs us Q I r ⟨a, kvs, e, .inl h, q⟩
def rTIndex (K : PySem.W.Frag) : V → List V → Hp → VK → Prop := fun x xs H Q => ∃ p, ∃ ys : List Str, ∃ z j, x = .ref p ∧ xs = [.str z] ∧ SqT K H p (ys.map V.str) ∧ ys[j]? = some z ∧ (∀ m, m < j → ys[m]? ≠ some z) ∧ Q (.int (j : Nat)) H
theorem mt_tindex : MtR X "tuple.index" (rTIndex X.K) := mt_tup_index
end

/-! ### != of two instances whose class has an own __eq__ and no __ne__ -/
section
open PySem.W PySem.Spec PySem.Calls PyProof.Rows
variable {prog : Program} {w : World} {A A₀ : Around} {E : Value → Shared → Prop} {s : Shared} {K : PySem.W.Frag} {x C L f : Addr} {h₀ : Heap} {m : Str → Option Value} {ox : Obj} {od : Option Obj} {name : Str} {b tb : Value}
theorem ifBoundB_K {M : Model} {id : String} {args : List Value} {Q : Option Value → Shared → Prop} (X : K.In s.heap) (I : InstAt s.heap x ox C od) (hs : findIn K (.ref C) name = some (some (.builtin id))) (S : Slot "object" name id)
    (h : wpAny M A (call (.builtin id) (.ref x :: args)) (fun v => Q (some v)) E s) : wpAny M A (callSpecialIfBound? (.ref x) name args) Q E s := by
  simp only [callSpecialIfBound?, bindSpecialIfBound?]
  refine wpAny_holding (wpAny_bind (wpAny_bind (wpAny_bind (I.type.here ((looks_findIn X hs).here ?_)))))
  refine wpAny_bind (wpAny_askSetting (wpAny_ite ?_))
  have fin : wpAny M A (call (.builtin id) ([.ref x] ++ args) >>= fun v => pure (some v)) Q E s := wpAny_bind (wpAny_mono h (fun v s' h' => wpAny_pure h') fun _ _ h' => h')
  simp only [S.bind]
  split
  · exact wpAny_bind (wpAny_pure (wpAny_pure fin))
  · exact wpAny_tryCatch (wpAny_bind (wpAny_pure (wpAny_pure fin)))
theorem objNe_K {Q : Fin → Shared → Prop} (hu : A.units < cLine) (X : K.In s.heap) (I : InstAt s.heap x ox C od) (hs : findIn K (.ref C) "__eq__" = some (some (.ref f))) (hf : isFn K (.ref f) = true)
    (hcall : wpAny (model prog w) A (call (.ref f) [.ref x, b]) (fun v s' => ∃ b, v = .bool b ∧ Q (.done (.ret (.bool (!b)))) s') E s) :
    wpAny (model prog w) A (Builtin.«object.__ne__» ⟨[.ref x, b], []⟩) Q E s := by
  obtain ⟨h, g, d, t, os⟩ := s
  unfold Builtin.«object.__ne__»
  repeat (first
    | with_reducible refine wpAny_cRoomFor hu ?_
    | (refine wpAny_bind (m := callSpecialIfBound? (.ref x) (Str.ofString "__eq__") [b])
        (ifBound_K X I hs hf (wpAny_mono hcall (fun r s' hr => by
          obtain ⟨b, rfl, hq⟩ := hr
          repeat (first | exact hq | exact wpAny_pure hq | exact wpAny_truthy_bool hq | (refine wpAny_bind (m := truthy (.bool _)) (wpAny_truthy_bool ?_)) | wp_step)) fun _ _ e => e)))
    | wp_step)
theorem tryNe_K {Q : Option Value → Shared → Prop} (hu : A.units + 1 < cLine) (X : K.In s.heap) (I : InstAt s.heap x ox C od) (hn : findIn K (.ref C) "__ne__" = some (some (.builtin "object.__ne__"))) (hb : subIn K (.ref C) (.type "object") = some true)
    (hs : findIn K (.ref C) "__eq__" = some (some (.ref f))) (hf : isFn K (.ref f) = true)
    (hcall : wpAny (model prog w) A.in1 (call (.ref f) [.ref x, b]) (fun v s' => ∃ b, v = .bool b ∧ Q (some (.bool (!b))) s') E s) :
    wpAny (model prog w) A (tryCompare (.ref x) "__ne__" b) Q E s := by
  unfold tryCompare
  refine wpAny_bind (ifBoundB_K X I hn PySem.F.cmp_object.ne (wpAny_call (codeAny_call_builtin PySem.F.cmp_object.ne.plain PySem.F.cmpEntry_ne
    (check_slot PySem.F.cmpKind_ne PySem.F.cmpSplit_ne (I.type.andThen (looks_subIn X hb)) (PySem.F.cmpArgs_ne _ _)
      (objNe_K (A := A.in1) hu X I hs hf (wpAny_mono hcall (fun v s' hv => ?_) fun _ _ e => e))))))
  · obtain ⟨b, rfl, hq⟩ := hv
    first | exact ⟨b, rfl, wpAny_pure hq⟩ | exact ⟨b, rfl, wpAny_pure (wpAny_pure hq)⟩ | exact ⟨b, rfl, hq⟩
theorem ne_K {Q : Value → Shared → Prop} (hu : A.units + 1 < cLine) (F : Fr h₀ L s.heap m) (X₀ : K.In h₀) (I : InstAt s.heap x ox C od) (hbt : Looks (model prog w) s.heap (typeOf b) tb) (hnf : notFirst K C tb = true)
    (hn : findIn K (.ref C) "__ne__" = some (some (.builtin "object.__ne__"))) (hb : subIn K (.ref C) (.type "object") = some true)
    (hs : findIn K (.ref C) "__eq__" = some (some (.ref f))) (hf : isFn K (.ref f) = true)
    (h : wpAny (model prog w) A.in1 (call (.ref f) [.ref x, b]) (fun v s' => ∃ b, v = .bool b ∧ Q (.bool (!b)) s') E s) : wpAny (model prog w) A (richCompare .NotEq (.ref x) b) Q E s := by
  have X := X₀.keeps F.keep
  have one : wpAny (model prog w) A (tryCompare (.ref x) "__ne__" b) (fun r s' => ∃ v, r = some v ∧ Q v s') E s :=
    tryNe_K hu X I hn hb hs hf (wpAny_mono h (fun v s' ⟨b, e, q⟩ => ⟨b, e, _, rfl, q⟩) fun _ _ e => e)
  unfold richCompare
  simp only [oneThing_ref]
  refine wpAny_holding (wpAny_bind (wpAny_cRoomFor (Nat.lt_of_succ_lt hu) ?_))
  refine wpAny_bind (I.type.here (wpAny_bind (hbt.here ?_)))
  split
  · rename_i q
    have e : subIn K tb (.ref C) = some false := by
      rcases Bool.or_eq_true_iff.mp hnf with e | e
      · rw [beq_iff_eq.mp e] at q; simp at q
      · exact beq_iff_eq.mp e
    refine wpAny_bind ((looks_subIn X e).here ?_)
    simp only [Bool.false_eq_true, if_false]
    refine wpAny_bind (wpAny_mono one (fun r s' z => ?_) fun _ _ e => e)
    obtain ⟨v, rfl, hq⟩ := z
    exact wpAny_pure hq
  · refine wpAny_bind (wpAny_pure ?_)
    simp only [Bool.false_eq_true, if_false]
    refine wpAny_bind (wpAny_mono one (fun r s' z => ?_) fun _ _ e => e)
    obtain ⟨v, rfl, hq⟩ := z
    exact wpAny_pure hq
end
section
variable {X : Cx} {k : Nat} {f C : Addr} {fd : FuncData} {ps : List Str} {sp : Sp}
/-- what != needs of the class at C -/
structure NeOf (K : PySem.W.Frag) (C : Addr) : Prop where
  ne : PySem.W.findIn K (.ref C) "__ne__" = some (some (.builtin "object.__ne__"))
  sub : PySem.W.subIn K (.ref C) (.type "object") = some true
def neB (K : PySem.W.Frag) (C : Addr) : Bool := decide (PySem.W.findIn K (.ref C) "__ne__" = some (some (.builtin "object.__ne__"))) && decide (PySem.W.subIn K (.ref C) (.type "object") = some true)
theorem neOf {K : PySem.W.Frag} {C : Addr} (h : neB K C = true) : NeOf K C := by
  obtain ⟨a, b⟩ := Bool.and_eq_true_iff.mp h
  exact ⟨of_decide_eq_true a, of_decide_eq_true b⟩
def rOwnNe (C : Addr) (sp : Sp) : R2 := fun x y H Q => ∃ a dx fs b dy gs, x = .ref a ∧ y = .ref b ∧ H a = some (.ins C dx fs) ∧ H b = some (.ins C dy gs) ∧ sp [.ref a, .ref b] H (fun v H' => ∃ r, v = .bl r ∧ Q (.bl (!r)) H') E0
theorem rc_ownNe (F : FnOk X.prog X.w X.K X.mg X.base (L2.CX X.prog X.w) k f fd ps sp) (hr : Room (k + 1) X.A) (hb : Binds X.K fd ps []) (hn : PySem.W.notFirst X.K C (.ref C) = true) (hn2 : neB X.K C = true) (hs : Spc X.K C "__eq__" f) : OpR X (compareOp .NotEq) (rOwnNe C sp) := by
  have hne := neOf hn2
  rintro pins s σ H x y v u Q I rx ry ⟨a, dx, fs, b, dy, gs, rfl, rfl, ha, hbb, q⟩
  cases rx
  cases ry
  obtain ⟨od, J⟩ := inst_of I ha
  obtain ⟨od2, J2⟩ := inst_of I hbb
  obtain ⟨m, fr⟩ := I.fr
  have rv : Vals [V.ref a, V.ref b] [Value.ref a, Value.ref b] := .cons rfl (.cons rfl .nil)
  unfold compareOp
  refine ne_K (by have := hr.un; omega) fr I.mod.kin J J2.type hn hne.ne hne.sub hs.at_ hs.fn ?_
  refine wpAny_mono (wpAny_call (codeAny_mono (F.run X.A.in1 X.stack s H ⟨[.ref a, .ref b], []⟩ [.ref a, .ref b] [.ref a, .ref b] _ E0 hr.in1 I.env0.in1 (hb s _ I.kIn ?_) rv q) fun r s' hq => back_of (passL0 (σ := σ)) I hq)) ?_ fun _ _ e => e
  · exact F.len _ _ _ _ q
  · rintro u s1 ⟨w, H1, I1, rw', r, rfl, q1⟩
    cases rw'
    exact ⟨r, rfl, .bl (!r), H1, I1, rfl, q1⟩
end

/-! ### methods of the written tuples of choices -/
section
variable {K : PySem.W.Frag} {H : Hp} {Q : VK} {σ : St} {tr : TA} {e : Str} {ro : V → List V → Hp → VK → Prop}
def chDB (K : PySem.W.Frag) : Bool := ENT.all fun e => match K.lookup (chA K e) with
  | some o => decide (o.cls = .type "tuple") && o.dict.isNone
  | none => false
theorem k_rbmT (h : chDB K = true) (he : e ∈ ENT) (q : tr σ H fun xs H2 => ro (.ref (chA K e)) xs H2 Q) : RBM K "tuple" ro tr σ Q (.ref (chA K e)) H := by
  have h1 := List.all_eq_true.mp h e he
  split at h1
  · rename_i o eo
    obtain ⟨h2, h3⟩ := He.ba h1
    exact ⟨.inr (.inl ⟨rfl, o, eo, of_decide_eq_true h2, Option.isNone_iff_eq_none.mp h3⟩), q⟩
  · cases h1
end
end L2.MP

set_option Elab.async false
set_option linter.all false
set_option maxRecDepth 100000
set_option maxHeartbeats 4000000
/-! A walk over a list, a tuple or a text, whichever it is. -/
namespace L2.MP
open PySem PySem.Spec PyProof.Rows L2
def ISeq (K : PySem.W.Frag) (x : V) (H : Hp) (R : It → Hp → Prop) : Prop :=
  (∃ a, x = .ref a ∧ (∃ xs, SqL K H a xs) ∧ R (Itl K a) H) ∨ (∃ a, x = .ref a ∧ (∃ xs, SqT K H a xs) ∧ R (Itt K a) H) ∨ (∃ z, x = .str z ∧ R (Its z) H)
def iAny (K : PySem.W.Frag) (tl : TE) : TI := fun σ H R => tl σ H fun x H1 => ISeq K x H1 R
theorem pi_any {X : Cx} {tg l : Expr} {tl : TE} (hl : PE X l tl) : PI X tg l (iAny X.K tl) := by
  refine ⟨fun pins s σ H R I h => ?_⟩
  refine thn (hl.run pins s σ H _ I h) fun v s1 ⟨x, H1, I1, r1, q1⟩ => ?_
  rcases q1 with ⟨a, e, ⟨xs, hq⟩, q⟩ | ⟨a, e, ⟨xs, hq⟩, q⟩ | ⟨z, e, q⟩
  · subst e
    cases r1
    obtain ⟨its, rv, p, hz⟩ := I1.list hq
    refine wpAny_pyIter_list p.isList ?_
    refine ⟨s1.heap.objs.size, [s1.heap.objs.size], _, _, H1, rfl, I1.kept (t' := s1.toks) fun b o e => Heap.get?_push_of_some _ e, turn_list a _, ⟨_, Heap.get?_push_size _ rfl, rfl, rfl⟩, fun b hb => ?_, q⟩
    have e : b = s1.heap.objs.size := by simpa using hb
    subst e
    exact I1.fpOk (Nat.le_refl _) (I1.hok.fresh (Nat.le_refl _))
  · subst e
    cases r1
    obtain ⟨its, rv, p, hz⟩ := I1.tuple hq
    refine wpAny_pyIter_tuple (show s1.heap.IsTuple a its.toArray from p) ?_
    refine ⟨s1.heap.objs.size, [s1.heap.objs.size], _, _, H1, rfl, I1.kept (t' := s1.toks) fun b o e => Heap.get?_push_of_some _ e, turn_tuple a _, ⟨_, Heap.get?_push_size _ rfl, rfl, rfl⟩, fun b hb => ?_, q⟩
    have e : b = s1.heap.objs.size := by simpa using hb
    subst e
    exact I1.fpOk (Nat.le_refl _) (I1.hok.fresh (Nat.le_refl _))
  · subst e
    obtain ⟨t, rfl⟩ := r1
    cases ha : z.cps.all (· < 128)
    · exact wpAny_pyIter_wide ha (pi_one (tk := s1.toks) I1 _ (turn_str _ z t "str_iterator" (.inr rfl)) ⟨_, Heap.get?_push_size _ rfl, rfl, rfl⟩ q)
    · exact wpAny_pyIter_ascii ha (pi_one (tk := s1.toks) I1 _ (turn_str _ z t "str_ascii_iterator" (.inl rfl)) ⟨_, Heap.get?_push_size _ rfl, rfl, rfl⟩ q)
section
variable {K : PySem.W.Frag} {σ : L2.St} {H : Hp} {n b c : L2.St → Hp → Prop} {r : VK} {i : Nat} {tb : TS} {te : TE} {a : Addr} {xs : List V} {Q : VK}
def RA (K : PySem.W.Frag) (i : Nat) (tb : TS) (D : Ends) (σ : L2.St) (x : V) (H : Hp) : Prop := ISeq K x H fun J H1 => FW J i tb D σ H1
theorem k_forA (h : te σ H (RA K i tb ⟨n, r, b, c⟩ σ)) : tFor (iAny K te) (gName i) tb ⟨n, r, b, c⟩ σ H := h
theorem k_raL {D : Ends} {x : V} (h : RL K i tb D σ x H) : RA K i tb D σ x H := .inl h
theorem k_raT {D : Ends} {x : V} (h : RT K i tb D σ x H) : RA K i tb D σ x H := .inr (.inl h)
theorem k_rtI (h : SqT K H a xs) (P : Nat → L2.St → Hp → Prop) (h0 : P 0 σ H) (hl : ∀ (m : Nat) σ H, m ≤ xs.length → P m σ H → SqT K H a xs)
    (ht : ∀ (m : Nat) x σ H, xs[m]? = some x → P m σ H → tb ⟨P (m + 1), r, n, P (m + 1)⟩ (σ.set i (some x)) H) (hd : ∀ σ H, P xs.length σ H → n σ H) : RT K i tb ⟨n, r, b, c⟩ σ (.ref a) H :=
  ⟨a, rfl, ⟨xs, h⟩, for_tup (D := ⟨n, r, b, c⟩) P h0 hl (fun m x σ H hm q => ht m x σ H hm q) hd⟩
/-- a list or a tuple by an invariant -/
theorem k_raI (h : SqL K H a xs ∨ SqT K H a xs) (P : Nat → L2.St → Hp → Prop) (h0 : P 0 σ H) (hl : ∀ (m : Nat) σ H', m ≤ xs.length → P m σ H' → Ex H H')
    (ht : ∀ (m : Nat) x σ H, xs[m]? = some x → P m σ H → tb ⟨P (m + 1), r, n, P (m + 1)⟩ (σ.set i (some x)) H) (hd : ∀ σ H, P xs.length σ H → n σ H) : RA K i tb ⟨n, r, b, c⟩ σ (.ref a) H := by
  rcases h with h | h
  · exact k_raL (k_rlI h P h0 (fun m σ H' hm q => (hl m σ H' hm q).sqL h) ht hd)
  · exact k_raT (k_rtI h P h0 (fun m σ H' hm q => (hl m σ H' hm q).sqT h) ht hd)
/-- the same, the thing itself told at each turn -/
theorem k_raI' (h : SqL K H a xs ∨ SqT K H a xs) (P : Nat → L2.St → Hp → Prop) (h0 : P 0 σ H) (hl : ∀ (m : Nat) σ H', m ≤ xs.length → P m σ H' → (SqL K H a xs → SqL K H' a xs) ∧ (SqT K H a xs → SqT K H' a xs))
    (ht : ∀ (m : Nat) x σ H, xs[m]? = some x → P m σ H → tb ⟨P (m + 1), r, n, P (m + 1)⟩ (σ.set i (some x)) H) (hd : ∀ σ H, P xs.length σ H → n σ H) : RA K i tb ⟨n, r, b, c⟩ σ (.ref a) H := by
  rcases h with h | h
  · exact k_raL (k_rlI h P h0 (fun m σ H' hm q => (hl m σ H' hm q).1 h) ht hd)
  · exact k_raT (k_rtI h P h0 (fun m σ H' hm q => (hl m σ H' hm q).2 h) ht hd)
/-- a comprehension over a list or a tuple: what its turns ask -/
def RLc (J : It) (g : TG) (tt : TT) (te : TE) (vs : List Nat) (σ : L2.St) (Q : VK) (H1 : Hp) : Prop := ∀ D, H1 D = none → ∃ W : Nat → Nat → Hp → Prop, (∃ m, W 0 m (upd H1 D (.lst []))) ∧ ∀ i m H, W i m H →
  (J.stop i H ∧ Q (.ref D) H) ∨ (J.go i H ∧ ∃ Nx : Hp → Prop, (∀ H', Nx H' → ∃ m', m' < m ∧ W (i + 1) m' H') ∧ ∀ x H', J.yld i H x H' → g x (wipe σ vs) H' fun σ2 H2 => wipe σ2 vs = wipe σ vs ∧ tt σ2 H2 fun b H3 =>
    if b = true then te σ2 H3 fun y H4 => ∃ acc, H4 D = some (.lst acc) ∧ acc.length < sizeLine ∧ Nx (upd H4 D (.lst (acc ++ [y]))) else Nx H3)
def RLA (K : PySem.W.Frag) (g : TG) (tt : TT) (te : TE) (vs : List Nat) (σ : L2.St) (Q : VK) (x : V) (H : Hp) : Prop := ISeq K x H fun J H1 => RLc J g tt te vs σ Q H1
theorem k_lcA {tl : TE} {g : TG} {tt : TT} {vs : List Nat} (h : tl σ H (RLA K g tt te vs σ Q)) : tLc (iAny K tl) g tt te vs σ H Q := h
/-- one turn behind another; D the list that is made -/
theorem k_lcI {j : Nat} {g : TG} {tt : TT} {vs : List Nat} (h : SqL K H a xs ∨ SqT K H a xs) (P : Addr → Nat → Hp → Prop) (h0 : ∀ D, H D = none → P D 0 (upd H D (.lst [])))
    (hl : ∀ D m H', H D = none → m ≤ xs.length → P D m H' → (SqL K H a xs → SqL K H' a xs) ∧ (SqT K H a xs → SqT K H' a xs))
    (hs : ∀ D m x H', H D = none → xs[m]? = some x → P D m H' → g x (wipe σ vs) H' fun σ2 H2 => wipe σ2 vs = wipe σ vs ∧ tt σ2 H2 fun b H3 =>
      if b = true then te σ2 H3 fun y H4 => ∃ acc, H4 D = some (.lst acc) ∧ acc.length < sizeLine ∧ P D (m + 1) (upd H4 D (.lst (acc ++ [y]))) else P D (m + 1) H3)
    (hd : ∀ D H', H D = none → P D xs.length H' → Q (.ref D) H') : RLA K g tt te vs σ Q (.ref a) H := by
  rcases h with h | h
  · exact .inl ⟨a, rfl, ⟨xs, h⟩, fun D hD => lc_list (P D) (h0 D hD) (fun m H' hm q => (hl D m H' hD hm q).1 h) (fun m x H' hm q => hs D m x H' hD hm q) fun H' q => hd D H' hD q⟩
  · exact .inr (.inl ⟨a, rfl, ⟨xs, h⟩, fun D hD => lc_tup (P D) (h0 D hD) (fun m H' hm q => (hl D m H' hD hm q).2 h) (fun m x H' hm q => hs D m x H' hD hm q) fun H' q => hd D H' hD q⟩)
end
end L2.MP
namespace L2.MP
open PySem PySem.Spec PyProof.Rows L2
/-! ### one sign in a text; a text's sign; texts joined -/
def rInSg (neg : Bool) : R2 := fun x y H Q => ∃ (c : Nat) (z : Str), x = .str ⟨#[c]⟩ ∧ y = .str z ∧ Q (.bl (if neg = true then !decide (c ∈ z.cps.toList) else decide (c ∈ z.cps.toList))) H
section
variable {X : Cx} {K : PySem.W.Frag} {H : Hp} {Q : VK}
theorem op_inSg : OpR X (compareOp .In) (rInSg false) := op_in_sign
theorem op_notInSg : OpR X (compareOp .NotIn) (rInSg true) := op_notIn_sign
theorem o_inSg {c : Nat} {z : Str} {neg : Bool} (q : Q (.bl (if neg = true then !decide (c ∈ z.cps.toList) else decide (c ∈ z.cps.toList))) H) : rInSg neg (.str ⟨#[c]⟩) (.str z) H Q := ⟨c, z, rfl, rfl, q⟩
theorem o_ixS {z : Str} {p : Int} {c : Nat} (hz : z.length ≤ 100000) (h0 : 0 ≤ p) (e : z.cps[p.toNat]? = some c) (q : Q (.str ⟨#[c]⟩) H) : rIx K (.str z) (.int p) H Q :=
  .inr (.inr ⟨z, p, c, rfl, rfl, sz_of hz, atI_toNat h0 (by rw [Array.getElem?_toList]; exact e), q⟩)
theorem o_mulS {z : Str} {n : Int} (h : MulOk z n) (q : Q (.str (Txt.mul z n)) H) : rMulA (.str z) (.int n) H Q := ⟨h, q⟩
theorem o_lenS {y : Str} (h : y.length ≤ 100000) (q : Q (.int y.length) H) : rLenA K [.str y] H Q := ⟨_, _, rfl, ⟨sz_of h, rfl⟩, q⟩
end
end L2.MP
namespace L2.MP
open PySem PySem.Spec PyProof.Rows L2
section
variable {K : PySem.W.Frag} {σ : L2.St} {H : Hp} {n b c : L2.St → Hp → Prop} {r : VK} {i : Nat} {tb : TS}
/-- a text, sign by sign, by an invariant -/
theorem k_raS {z : Str} (P : Nat → L2.St → Hp → Prop) (h0 : P 0 σ H) (ht : ∀ (m : Nat) x σ H, z.cps[m]? = some x → P m σ H → tb ⟨P (m + 1), r, n, P (m + 1)⟩ (σ.set i (some (.str ⟨#[x]⟩))) H)
    (hd : ∀ σ H, P z.cps.size σ H → n σ H) : RA K i tb ⟨n, r, b, c⟩ σ (.str z) H := by
  refine .inr (.inr ⟨z, rfl, fun i m σ H => m = z.cps.size - i ∧ i ≤ z.cps.size ∧ P i σ H, ⟨z.cps.size, by simp, Nat.zero_le _, h0⟩, ?_⟩)
  rintro j m σ H ⟨rfl, hj, p⟩
  by_cases hlt : j < z.cps.size
  · refine .inr ⟨hlt, P (j + 1), fun σ' H' p' => ⟨z.cps.size - (j + 1), by omega, rfl, hlt, p'⟩, fun x H' y => ?_⟩
    obtain ⟨rfl, cc, e, rfl⟩ := y
    exact ht j cc σ _ e p
  · have e : j = z.cps.size := by omega
    subst e
    exact .inl ⟨Nat.le_refl _, hd σ H p⟩
end
end L2.MP
namespace L2.MP
open PySem PySem.Spec PyProof.Rows L2
section
variable {K : PySem.W.Frag} {H : Hp} {Q : VK} {a : Addr} {ys : List V}
theorem o_tupL (h : SqL K H a ys) (q : ∀ p H', H p = none → Ex H H' → H' p = some (.tup ys) → Q (.ref p) H') : rTupleA K [.ref a] H Q := ⟨a, ys, rfl, .inl ⟨h, fun l hl => q l _ hl (Ex.new hl) upd_same⟩⟩
theorem o_tupT (h : SqT K H a ys) (q : Q (.ref a) H) : rTupleA K [.ref a] H Q := ⟨a, ys, rfl, .inr ⟨h, q⟩⟩
theorem o_lisL (h : SqL K H a ys) (q : ∀ p H', H p = none → Ex H H' → H' p = some (.lst ys) → Q (.ref p) H') : rListA K [.ref a] H Q := ⟨a, ys, rfl, .inl h, fun l hl => q l _ hl (Ex.new hl) upd_same⟩
theorem o_lisT (h : SqT K H a ys) (q : ∀ p H', H p = none → Ex H H' → H' p = some (.lst ys) → Q (.ref p) H') : rListA K [.ref a] H Q := ⟨a, ys, rfl, .inr h, fun l hl => q l _ hl (Ex.new hl) upd_same⟩
end
end L2.MP
namespace L2.MP
open PySem PySem.Spec PyProof.Rows L2
section
variable {K : PySem.W.Frag} {H : Hp} {Q : VK} {a b : Addr} {ls : List Int}
theorem flat_ints (ls : List Int) : flatOk (ls.map V.int) = true := by
  induction ls with
  | nil => rfl
  | cons x l ih => simpa [flatOk, flat1] using ih
theorem o_neInil (h1 : SqL K H a (ls.map V.int)) (h2 : SqL K H b []) (q : Q (.bl (!decide (ls = []))) H) : rNeA K (.ref a) (.ref b) H Q :=
  o_neLL h1 h2 (flat_ints ls) rfl (by
    cases ls with
    | nil => exact q
    | cons x l => exact q)
end
end L2.MP
namespace L2.MP
open PySem PySem.Spec PyProof.Rows L2
theorem o_addT {K : PySem.W.Frag} {H : Hp} {Q : VK} {a b : Addr} {xs ys : List V} (h1 : H a = some (.tup xs)) (h2 : H b = some (.tup ys)) (h : xs.length + ys.length ≤ 100000) (q : ∀ p H', Ex H H' → H' p = some (.tup (xs ++ ys)) → Q (.ref p) H') : rAddA K (.ref a) (.ref b) H Q :=
  .inr ⟨a, b, xs, ys, rfl, rfl, sqT_of h1, sqT_of h2, sz_of h, fun e => q b H (Ex.refl H) (by rw [e]; exact h2), fun _ e => q a H (Ex.refl H) (by rw [e, List.append_nil]; exact h1), fun _ _ p hp => q p _ (Ex.new hp) upd_same⟩
/-- all but one thing stays -/
def ExB (a : Addr) (H H' : Hp) : Prop := ∀ b o, b ≠ a → H b = some o → H' b = some o
theorem ExB.refl {a : Addr} (H : Hp) : ExB a H H := fun _ _ _ h => h
theorem ExB.trans {a : Addr} {H H1 H2 : Hp} (x : ExB a H H1) (y : ExB a H1 H2) : ExB a H H2 := fun b o n h => y b o n (x b o n h)
theorem ExB.of {a : Addr} {H H' : Hp} (x : Ex H H') : ExB a H H' := fun b o _ h => x b o h
theorem ExB.set {a : Addr} {H : Hp} {o : HO} : ExB a H (upd H a o) := fun b u n h => by rw [upd_ne n]; exact h
end L2.MP

set_option Elab.async false
set_option linter.all false
set_option maxRecDepth 100000
set_option maxHeartbeats 4000000
/-! Texts: startswith, upper, replace of constants, slices of lists and texts. -/
namespace L2.MP
open PySem PySem.Spec PyProof.Rows
section
variable {X : Cx} {o e : Expr} {es : List Expr} {to te : TE} {ta : TA} {apos pos : Pos}
def rStartsA : V → List V → Hp → VK → Prop := fun x xs H Q => ∃ a b, x = .str a ∧ xs = [.str b] ∧ Q (.bl (Txt.startswith a b)) H
theorem pe_startsA (ho : PE X o to) (he : PE X e te) (h1 : starEach [e] X.env = [(false, eval e X.env)] := by rfl) (h2 : attributeBase o "startswith" X.env (eval o X.env) = eval o X.env := by rfl)
    (h3 : (apos.endLine == pos.line) = true := by rfl) : PE X (.Call (.Attribute o "startswith" apos) [e] [] pos) (tM1 rStartsA to te) := pe_m1 F.slot_str_startswith F.type_str_startswith mt_startswith ho he h1 h2 h3
def rUpperA : V → List V → Hp → VK → Prop := fun x xs H Q => ∃ a, x = .str a ∧ xs = [] ∧ a.length ≤ 5592405 ∧ Q (.str (Txt.upper a)) H
theorem pe_upperA (ho : PE X o to) (h2 : attributeBase o "upper" X.env (eval o X.env) = eval o X.env := by rfl) (h3 : (apos.endLine == pos.line) = true := by rfl) : PE X (.Call (.Attribute o "upper" apos) [] [] pos) (tM0 rUpperA to) := pe_upper ho h2 h3
/-- an expression behind which tokens have been drawn -/
def PEP (X : Cx) (e : Expr) (te : TE) : Prop := ∀ (pins : List (Addr × Obj)) (s : Shared) (σ : L2.St) (H : Hp) (Q : VK), Inv X pins σ H s → te σ H Q → wpAny (model X.prog X.w) X.A (eval e X.env) (fun v s' => 1 ≤ s'.toks ∧ EP X pins σ Q v s') X.xe s
theorem pep_addS {op : Operator} {r : R2} {z : Str} {j : Nat} {c : Pos} (ho : OpR X (binaryOp op) r) (hp : PE X o to) : PEP X (.BinOp o op (.Constant (.str z) j c) pos) (tOp r to (tC (.str z))) := by
  intro pins s σ H Q I h
  refine wpAny_BinOp (thn (hp.run pins s σ H _ I h) fun v s1 q => ?_)
  obtain ⟨x, H1, I1, r1, q1⟩ := q
  refine Calls.Constant_str ?_
  exact wpAny_mono (wpAny_toks_of (n := 1) (Nat.succ_le_succ (Nat.zero_le _)) (ho pins { s1 with toks := s1.toks + 1 } σ H1 x (.str z) v _ Q (I1.tok _) r1 ⟨_, rfl⟩ q1)) (fun _ _ z => z) fun _ _ z => z.2
theorem pa_first (he : PEP X e te) (hr : PAT X es ta) (hs : starEach (e :: es) X.env = (false, eval e X.env) :: starEach es X.env := by rfl) : PA X (e :: es) (tCons te ta) := by
  refine ⟨fun pos pins s σ H Q I h => ?_⟩
  rw [hs]
  refine Calls.spliced_cons (wpAny_mono (he pins s σ H _ I h) (fun v s1 q => ?_) fun _ _ z => z)
  obtain ⟨hk, x, H1, I1, r1, q1⟩ := q
  exact thn (hr pos pins s1 σ H1 _ hk I1 q1) fun us s2 ⟨vs, H2, I2, rs, q2⟩ => ⟨x :: vs, H2, I2, .cons r1 rs, q2⟩
end
end L2.MP

set_option Elab.async false
set_option linter.all false
set_option maxRecDepth 100000
set_option maxHeartbeats 4000000
namespace L2.MP
open PySem PySem.Spec PyProof.Rows
/-! ### the text -/
abbrev prog : Program := PySem.Challenge.pw_stickymarks_k08_book_text
def top (i : Nat) : Stmt := prog.main.body.getD i (.Pass ⟨0, 0, 0, 0⟩)
inductive Fn where
  | Book_init | Book_getitem | Book_setitem | Book_eq | Book_text | read_book | law_cell | law_draws | law_entries | law_choices | law_picks | law_book | law_refused | law_spoilt | law
abbrev Gm := Fn → Sp
abbrev st_Book_init : Stmt := inClass (top 7) 0
abbrev N_Book_init : List Str := [("self" : Str), ("work" : Str), ("write" : Str), ("meet" : Str), ("test" : Str), ("partly" : Str), ("value" : Str), ("path" : Str), ("loop" : Str), ("guard" : Str), ("call" : Str), ("told" : Str), ("at" : Str)]
abbrev st_Book_getitem : Stmt := inClass (top 7) 2
abbrev N_Book_getitem : List Str := [("self" : Str), ("entry" : Str)]
abbrev st_Book_setitem : Stmt := inClass (top 7) 3
abbrev N_Book_setitem : List Str := [("self" : Str), ("entry" : Str), ("choice" : Str)]
abbrev st_Book_eq : Stmt := inClass (top 7) 4
abbrev N_Book_eq : List Str := [("self" : Str), ("other" : Str)]
abbrev st_Book_text : Stmt := inClass (top 7) 11
abbrev N_Book_text : List Str := [("self" : Str), ("entry" : Str)]
abbrev st_read_book : Stmt := top 9
abbrev N_read_book : List Str := [("text" : Str), ("book" : Str), ("parts" : Str), ("at" : Str), ("entry" : Str)]
abbrev st_law_cell : Stmt := top 11
abbrev N_law_cell : List Str := [("_law_script" : Str), ("_law_k" : Str)]
abbrev st_law_draws : Stmt := top 12
abbrev N_law_draws : List Str := [("_law_cell_here" : Str), ("_law_many" : Str), ("_law_salt" : Str), ("_law_size" : Str), ("_law_rest" : Str), ("_law_draws_here" : Str), ("_law_k" : Str), ("_law_mixed" : Str)]
abbrev st_law_entries : Stmt := top 13
abbrev N_law_entries : List Str := []
abbrev st_law_choices : Stmt := top 14
abbrev N_law_choices : List Str := [("_law_entry" : Str), ("_law_told" : Str)]
abbrev st_law_picks : Stmt := top 15
abbrev N_law_picks : List Str := [("_law_draws_here" : Str), ("_law_bases" : Str), ("_law_base" : Str), ("_law_names" : Str), ("_law_picks_here" : Str), ("_law_k" : Str), ("_law_told" : Str), ("_law_name" : Str)]
abbrev st_law_book : Stmt := top 16
abbrev N_law_book : List Str := [("_law_picks_here" : Str), ("_law_book_here" : Str), ("_law_name" : Str)]
abbrev st_law_refused : Stmt := top 17
abbrev N_law_refused : List Str := [("_law_text" : Str), ("e" : Str)]
abbrev st_law_spoilt : Stmt := top 18
abbrev N_law_spoilt : List Str := [("_law_parts" : Str), ("_law_way" : Str), ("_law_at" : Str), ("_law_text" : Str), ("_law_other" : Str), ("_law_bent" : Str), ("_law_signs" : Str), ("_law_ends" : Str), ("_law_name" : Str)]
abbrev st_law : Stmt := top 19
abbrev N_law : List Str := [("_law_script" : Str), ("_law_picks_here" : Str), ("_law_parts" : Str), ("_law_name" : Str), ("_law_text" : Str), ("_law_book_here" : Str), ("_law_back" : Str)]
def ps : Fn → List Str
  | .Book_init => [("self" : Str), ("work" : Str), ("write" : Str), ("meet" : Str), ("test" : Str), ("partly" : Str), ("value" : Str), ("path" : Str), ("loop" : Str), ("guard" : Str), ("call" : Str)]
  | .Book_getitem => [("self" : Str), ("entry" : Str)]
  | .Book_setitem => [("self" : Str), ("entry" : Str), ("choice" : Str)]
  | .Book_eq => [("self" : Str), ("other" : Str)]
  | .Book_text => [("self" : Str)]
  | .read_book => [("text" : Str)]
  | .law_cell => [("_law_script" : Str), ("_law_k" : Str)]
  | .law_draws => [("_law_cell_here" : Str), ("_law_many" : Str), ("_law_salt" : Str)]
  | .law_entries => []
  | .law_choices => [("_law_entry" : Str)]
  | .law_picks => [("_law_draws_here" : Str)]
  | .law_book => [("_law_picks_here" : Str)]
  | .law_refused => [("_law_text" : Str)]
  | .law_spoilt => [("_law_parts" : Str), ("_law_way" : Str), ("_law_at" : Str)]
  | .law => [("_law_script" : Str)]
def dm : Fn → DefM
  | .Book_init => ⟨fun K => He.ma K (He.ga K ("Book" : Str)) ("__init__" : Str), ("__init__" : Str), ("Book.__init__" : Str), st_Book_init, [], [(("work" : Str), He.Dv.str ("join" : Str)), (("write" : Str), He.Dv.str ("stop" : Str)), (("meet" : Str), He.Dv.str ("raise" : Str)), (("test" : Str), He.Dv.str ("stop" : Str)), (("partly" : Str), He.Dv.str ("stop" : Str)), (("value" : Str), He.Dv.str ("stop" : Str)), (("path" : Str), He.Dv.str ("stop" : Str)), (("loop" : Str), He.Dv.str ("stop" : Str)), (("guard" : Str), He.Dv.str ("stop" : Str)), (("call" : Str), He.Dv.str ("stop" : Str))], []⟩
  | .Book_getitem => ⟨fun K => He.ma K (He.ga K ("Book" : Str)) ("__getitem__" : Str), ("__getitem__" : Str), ("Book.__getitem__" : Str), st_Book_getitem, [], [], []⟩
  | .Book_setitem => ⟨fun K => He.ma K (He.ga K ("Book" : Str)) ("__setitem__" : Str), ("__setitem__" : Str), ("Book.__setitem__" : Str), st_Book_setitem, [], [], []⟩
  | .Book_eq => ⟨fun K => He.ma K (He.ga K ("Book" : Str)) ("__eq__" : Str), ("__eq__" : Str), ("Book.__eq__" : Str), st_Book_eq, [], [], []⟩
  | .Book_text => ⟨fun K => He.ma K (He.ga K ("Book" : Str)) ("text" : Str), ("text" : Str), ("Book.text" : Str), st_Book_text, [], [], []⟩
  | .read_book => ⟨fun K => He.ga K ("read_book" : Str), ("read_book" : Str), ("read_book" : Str), st_read_book, [], [], []⟩
  | .law_cell => ⟨fun K => He.ga K ("_law_cell" : Str), ("_law_cell" : Str), ("_law_cell" : Str), st_law_cell, [], [], []⟩
  | .law_draws => ⟨fun K => He.ga K ("_law_draws" : Str), ("_law_draws" : Str), ("_law_draws" : Str), st_law_draws, [], [], []⟩
  | .law_entries => ⟨fun K => He.ga K ("_law_entries" : Str), ("_law_entries" : Str), ("_law_entries" : Str), st_law_entries, [], [], []⟩
  | .law_choices => ⟨fun K => He.ga K ("_law_choices" : Str), ("_law_choices" : Str), ("_law_choices" : Str), st_law_choices, [], [], []⟩
  | .law_picks => ⟨fun K => He.ga K ("_law_picks" : Str), ("_law_picks" : Str), ("_law_picks" : Str), st_law_picks, [], [], []⟩
  | .law_book => ⟨fun K => He.ga K ("_law_book" : Str), ("_law_book" : Str), ("_law_book" : Str), st_law_book, [], [], []⟩
  | .law_refused => ⟨fun K => He.ga K ("_law_refused" : Str), ("_law_refused" : Str), ("_law_refused" : Str), st_law_refused, [], [], []⟩
  | .law_spoilt => ⟨fun K => He.ga K ("_law_spoilt" : Str), ("_law_spoilt" : Str), ("_law_spoilt" : Str), st_law_spoilt, [], [], []⟩
  | .law => ⟨fun K => He.ga K ("law" : Str), ("law" : Str), ("law" : Str), st_law, [], [], []⟩
/-! ### the readings -/
section
variable (K : PySem.W.Frag) (W : World) (G : Gm) (E : XK)
def rd_Book_init : TS := (tSeq (tAsg (tTup (tCons (tVar 1) (tCons (tVar 2) (tCons (tVar 3) (tCons (tVar 4) (tCons (tVar 5) (tCons (tVar 6) (tCons (tVar 7) (tCons (tVar 8) (tCons (tVar 9) (tCons (tVar 10) tNil))))))))))) (gName 11)) (tSeq (sFld K (tVar 0) tDNewK ("held" : Str)) (tFor (iRng1 (tCons (tCB (rLenA K) (tCons (tC (.ref (He.ga K ("ENTRIES" : Str)))) tNil)) tNil)) (gName 12) (tSeq (tIfS (tTest (tOp (rInA K true) (tOp (rIx K) (tVar 11) (tVar 12)) (tOp (rIxW K W) (tC (.ref (He.ga K ("CHOICES" : Str)))) (tOp (rIx K) (tC (.ref (He.ga K ("ENTRIES" : Str)))) (tVar 12))))) (tRaiseE E (.ref (He.ga K "InvalidBook"))) tNext) (sDPut (tFld K (tVar 0) ("held" : Str)) (tOp (rIx K) (tC (.ref (He.ga K ("ENTRIES" : Str)))) (tVar 12)) (tOp (rIx K) (tVar 11) (tVar 12)))))))
def rd_Book_getitem : TS := (tSeq (tIfS (tTest (tOp (rInA K true) (tVar 1) (tC (.ref (He.ga K ("ENTRIES" : Str)))))) (tRaiseE E (.ref (He.ga K "InvalidBook"))) tNext) (tRet (tDGet (tFld K (tVar 0) ("held" : Str)) (tVar 1))))
def rd_Book_setitem : TS := (tSeq (tIfS (tOr (tTest (tOp (rInA K true) (tVar 1) (tC (.ref (He.ga K ("ENTRIES" : Str)))))) (tTest (tOp (rInA K true) (tVar 2) (tOp (rIxW K W) (tC (.ref (He.ga K ("CHOICES" : Str)))) (tVar 1))))) (tRaiseE E (.ref (He.ga K "InvalidBook"))) tNext) (sDPut (tFld K (tVar 0) ("held" : Str)) (tVar 1) (tVar 2)))
def rd_Book_eq : TS := (tSeq (tIfS (tNot (tB (tCB (rIsi K) (tCons (tVar 1) (tCons (tC (.ref (He.ga K ("Book" : Str)))) tNil))))) tNever tNext) (tRet (tOp rEqDD (tFld K (tVar 0) ("held" : Str)) (tFld K (tVar 1) ("held" : Str)))))
def rd_Book_text : TS := (tRet (tM1 (rJoinA K) (tC (.str (" " : Str))) (tLc (iTup K (tC (.ref (He.ga K ("ENTRIES" : Str))))) (gName 1) tYes (tOp (rAddA K) (tOp (rAddA K) (tVar 1) (tC (.str ("=" : Str)))) (tDGet (tFld K (tVar 0) ("held" : Str)) (tVar 1))) [1])))
def rd_read_book : TS := (tSeq (tAsg (tMakeS (He.ga K "Book") (G .Book_init) [V.str ("join" : Str), V.str ("stop" : Str), V.str ("raise" : Str), V.str ("stop" : Str), V.str ("stop" : Str), V.str ("stop" : Str), V.str ("stop" : Str), V.str ("stop" : Str), V.str ("stop" : Str), V.str ("stop" : Str)] (fun _ => E) tNil) (gName 1)) (tSeq (tAsg (tM1 rSplitA (tVar 0) (tC (.str (" " : Str)))) (gName 2)) (tSeq (tIfS (tTest (tOp (rNeA K) (tCB (rLenA K) (tCons (tVar 2) tNil)) (tCB (rLenA K) (tCons (tC (.ref (He.ga K ("ENTRIES" : Str)))) tNil)))) (tRaiseE E (.ref (He.ga K "InvalidBook"))) tNext) (tSeq (tFor (iRng1 (tCons (tCB (rLenA K) (tCons (tC (.ref (He.ga K ("ENTRIES" : Str)))) tNil)) tNil)) (gName 3) (tSeq (tAsg (tOp (rIx K) (tC (.ref (He.ga K ("ENTRIES" : Str)))) (tVar 3)) (gName 4)) (tSeq (tIfS (tNot (tB (tM1 rStartsA (tOp (rIx K) (tVar 2) (tVar 3)) (tOp (rAddA K) (tVar 4) (tC (.str ("=" : Str))))))) (tRaiseE E (.ref (He.ga K "InvalidBook"))) tNext) (sOwnPut (He.ga K "Book") (G .Book_setitem) (fun _ => E) (tVar 1) (tVar 4) (tSl (rSlAny K) (tOp (rIx K) (tVar 2) (tVar 3)) (tPart (tOp (rAddA K) (tCB (rLenA K) (tCons (tVar 4) tNil)) (tC (.int 1)))) tNoPart))))) (tRet (tVar 1))))))
def rd_law_cell : TS := (tSeq (tIfS (tTest (tOp rLtI (tVar 1) (tCB (rLenA K) (tCons (tVar 0) tNil)))) (tRet (tOp (rIx K) (tVar 0) (tVar 1))) tNext) (tRet (tC (.int 0))))
def rd_law_draws : TS := (tSeq (tAsg (tCB rAbsI (tCons (tVar 0) tNil)) (gName 3)) (tSeq (tAsg (tVar 3) (gName 4)) (tSeq (tAsg (tLst tNil) (gName 5)) (tSeq (tFor (iRng1 (tCons (tVar 1) tNil)) (gName 6) (tIfS (tAnd (tTest (tOp rGeI (tVar 3) (tOp rPowI (tC (.int 10)) (tC (.int 18))))) (tTest (tOp rGeI (tVar 4) (tC (.int 60))))) (tSeq (tDrop (tBM K "list" rAppend (tVar 5) (tCons (tOp rModI (tVar 4) (tC (.int 60))) tNil))) (tAsg (tOp rFdivI (tVar 4) (tC (.int 60))) (gName 4))) (tSeq (tAsg (tOp rModI (tOp (rAddA K) (tOp (rAddA K) (tOp (rAddA K) (tOp rMulA (tOp rModI (tVar 3) (tC (.int 1000003))) (tC (.int 48271))) (tOp rMulA (tVar 6) (tC (.int 69621)))) (tOp rMulA (tVar 2) (tC (.int 7919)))) (tC (.int 12345))) (tC (.int 2147483647))) (gName 7)) (tSeq (tAsg (tOp rModI (tOp (rAddA K) (tOp (rAddA K) (tOp rMulA (tVar 7) (tC (.int 16807))) (tOp rMulA (tVar 6) (tC (.int 40692)))) (tVar 2)) (tC (.int 2147483399))) (gName 7)) (tDrop (tBM K "list" rAppend (tVar 5) (tCons (tOp rModI (tOp rFdivI (tVar 7) (tC (.int 1009))) (tC (.int 60))) tNil))))))) (tRet (tVar 5))))))
def rd_law_entries : TS := (tRet (tLst (tCons (tC (.str ("work" : Str))) (tCons (tC (.str ("write" : Str))) (tCons (tC (.str ("meet" : Str))) (tCons (tC (.str ("test" : Str))) (tCons (tC (.str ("partly" : Str))) (tCons (tC (.str ("value" : Str))) (tCons (tC (.str ("path" : Str))) (tCons (tC (.str ("loop" : Str))) (tCons (tC (.str ("guard" : Str))) (tCons (tC (.str ("call" : Str))) tNil))))))))))))
def rd_law_choices : TS := (tSeq (tAsg (tDisp (((tC (.str ("work" : Str))), (tC (.str ("drop left short join" : Str)))) :: (((tC (.str ("write" : Str))), (tC (.str ("raise partly skip stop" : Str)))) :: (((tC (.str ("meet" : Str))), (tC (.str ("leave raise" : Str)))) :: (((tC (.str ("test" : Str))), (tC (.str ("ignore raise stop" : Str)))) :: (((tC (.str ("partly" : Str))), (tC (.str ("pass stop" : Str)))) :: (((tC (.str ("value" : Str))), (tC (.str ("show blank skip stop" : Str)))) :: (((tC (.str ("path" : Str))), (tC (.str ("show blank skip stop" : Str)))) :: [])))))))) (gName 1)) (tRet (tM1 rSplitA (tDGet2 (tVar 1) (tVar 0) (tC (.str ("forget stick stop" : Str)))) (tC (.str (" " : Str))))))
def rd_law_picks : TS := (tSeq (tAsg (tLst (tCons (tC (.str ("join stop leave raise stop skip skip stick stick stick" : Str))) (tCons (tC (.str ("join partly leave raise stop stop stop stick stop stick" : Str))) (tCons (tC (.str ("join raise raise raise pass blank skip stick stick stick" : Str))) (tCons (tC (.str ("short skip leave raise pass skip skip stick stick stop" : Str))) (tCons (tC (.str ("short raise leave stop pass blank show forget forget forget" : Str))) (tCons (tC (.str ("short partly raise raise stop stop skip stop stick stick" : Str))) (tCons (tC (.str ("join raise leave raise pass stop stop stick stick stick" : Str))) (tCons (tC (.str ("join partly leave raise pass stop stop stop stick stick" : Str))) (tCons (tC (.str ("short partly leave raise stop skip skip stick stick stick" : Str))) (tCons (tC (.str ("join stop leave raise stop skip skip stick forget stick" : Str))) tNil))))))))))) (gName 1)) (tSeq (tAsg (tM1 rSplitA (tOp (rIx K) (tVar 1) (tOp rModI (tOp (rIx K) (tVar 0) (tC (.int 1))) (tC (.int 10)))) (tC (.str (" " : Str)))) (gName 2)) (tSeq (tAsg (tCallSD (G .law_entries) [] (fun _ => E) tNil) (gName 3)) (tSeq (tAsg tDNewK (gName 4)) (tSeq (tFor (iRng1 (tCons (tC (.int 10)) tNil)) (gName 5) (tSeq (tAsg (tCallSD (G .law_choices) [] (fun _ => E) (tCons (tOp (rIx K) (tVar 3) (tVar 5)) tNil)) (gName 6)) (sDPut (tVar 4) (tOp (rIx K) (tVar 3) (tVar 5)) (tOp (rIx K) (tLst (tCons (tOp (rIx K) (tVar 2) (tVar 5)) (tCons (tOp (rIx K) (tVar 6) (tOp rModI (tOp (rIx K) (tVar 0) (tOp (rAddA K) (tC (.int 2)) (tVar 5))) (tCB (rLenA K) (tCons (tVar 6) tNil)))) tNil))) (tCB rIntA (tCons (tOp (rEqA K) (tOp rModI (tOp (rIx K) (tVar 0) (tC (.int 0))) (tC (.int 3))) (tC (.int 0))) tNil)))))) (tSeq (tFor (iRng1 (tCons (tOp rMulA (tCB rIntA (tCons (tOp (rEqA K) (tOp rModI (tOp (rIx K) (tVar 0) (tC (.int 0))) (tC (.int 3))) (tC (.int 1))) tNil)) (tOp (rAddA K) (tC (.int 1)) (tOp rModI (tOp (rIx K) (tVar 0) (tC (.int 12))) (tC (.int 2))))) tNil)) (gName 5) (tSeq (tAsg (tOp (rIx K) (tVar 3) (tOp rModI (tOp (rIx K) (tVar 0) (tOp (rAddA K) (tC (.int 13)) (tOp rMulA (tC (.int 2)) (tVar 5)))) (tC (.int 10)))) (gName 7)) (tSeq (tAsg (tCallSD (G .law_choices) [] (fun _ => E) (tCons (tVar 7) tNil)) (gName 6)) (sDPut (tVar 4) (tVar 7) (tOp (rIx K) (tVar 6) (tOp rModI (tOp (rIx K) (tVar 0) (tOp (rAddA K) (tC (.int 14)) (tOp rMulA (tC (.int 2)) (tVar 5)))) (tCB (rLenA K) (tCons (tVar 6) tNil)))))))) (tRet (tVar 4))))))))
def rd_law_book : TS := (tSeq (tAsg (tMakeS (He.ga K "Book") (G .Book_init) [V.str ("join" : Str), V.str ("stop" : Str), V.str ("raise" : Str), V.str ("stop" : Str), V.str ("stop" : Str), V.str ("stop" : Str), V.str ("stop" : Str), V.str ("stop" : Str), V.str ("stop" : Str), V.str ("stop" : Str)] (fun _ => E) tNil) (gName 1)) (tSeq (tFor (iList K (tCallSD (G .law_entries) [] (fun _ => E) tNil)) (gName 2) (sOwnPut (He.ga K "Book") (G .Book_setitem) (fun _ => E) (tVar 1) (tVar 2) (tDGet (tVar 0) (tVar 2)))) (tRet (tVar 1))))
def rd_law_refused : TS := (tSeq (fun D σ H => (fun W => (tDrop (tCallSD (G .read_book) [] (WE W) (tCons (tVar 0) tNil)))) (wAs K (.ref (He.ga K "InvalidBook")) 1 (fun a cls d => (tRet (tCB (rIsX K a cls d (He.ga K ("InvalidBook" : Str))) (tCons (tVar 1) (tCons (tC (.ty "ValueError")) tNil))))) (fun cls d _ H => E cls d H) D) D σ H) (tRet (tC (.bl false))))
def rd_law_spoilt : TS := (tSeq (tAsg (tM1 (rJoinA K) (tC (.str (" " : Str))) (tVar 0)) (gName 3)) (tSeq (tAsg (tOp rModI (tOp (rAddA K) (tVar 2) (tC (.int 1))) (tC (.int 10))) (gName 4)) (tSeq (tAsg (tCB (rListA K) (tCons (tVar 0) tNil)) (gName 5)) (tSeq (tIfS (tTest (tOp (rEqA K) (tVar 1) (tC (.int 0)))) (tSeq (tAsg (tOp (rIx K) (tVar 0) (tVar 4)) (gSub (tVar 5) (tVar 2) rSetL)) (tSeq (tAsg (tOp (rIx K) (tVar 0) (tVar 2)) (gSub (tVar 5) (tVar 4) rSetL)) (tRet (tM1 (rJoinA K) (tC (.str (" " : Str))) (tVar 5))))) tNext) (tSeq (tIfS (tTest (tOp (rEqA K) (tVar 1) (tC (.int 1)))) (tRet (tM1 (rJoinA K) (tC (.str (" " : Str))) (tOp (rAddA K) (tSl (rSlAny K) (tVar 0) tNoPart (tPart (tVar 2))) (tSl (rSlAny K) (tVar 0) (tPart (tOp (rAddA K) (tVar 2) (tC (.int 1)))) tNoPart)))) tNext) (tSeq (tIfS (tTest (tOp (rEqA K) (tVar 1) (tC (.int 2)))) (tRet (tM1 (rJoinA K) (tC (.str (" " : Str))) (tOp (rAddA K) (tOp (rAddA K) (tSl (rSlAny K) (tVar 0) tNoPart (tPart (tVar 2))) (tLst (tCons (tOp (rIx K) (tVar 0) (tVar 2)) tNil))) (tSl (rSlAny K) (tVar 0) (tPart (tVar 2)) tNoPart)))) tNext) (tSeq (tIfS (tTest (tOp rLtI (tVar 1) (tC (.int 9)))) (tSeq (tAsg (tLst (tCons (tC (.str ("" : Str))) (tCons (tC (.str ("=" : Str))) (tCons (tC (.str (" =" : Str))) (tCons (tC (.str ("= " : Str))) (tCons (tC (.str (":" : Str))) (tCons (tC (.str ("=x" : Str))) (tCons (tC (.str ("==" : Str))) tNil)))))))) (gName 6)) (tSeq (tAsg (tLst (tCons (tC (.str ("" : Str))) (tCons (tC (.str ("stop" : Str))) (tCons (tC (.str ("stop" : Str))) (tCons (tC (.str ("stop" : Str))) (tCons (tC (.str ("stop" : Str))) (tCons (tC (.str ("" : Str))) (tCons (tC (.str ("stop" : Str))) tNil)))))))) (gName 7)) (tSeq (tAsg (tOp (rIx K) (tM1 rSplitA (tOp (rIx K) (tVar 0) (tVar 2)) (tC (.str ("=" : Str)))) (tC (.int 0))) (gName 8)) (tSeq (tAsg (tOp (rAddA K) (tOp (rAddA K) (tOp (rAddA K) (tVar 8) (tOp (rIx K) (tVar 6) (tOp rSubI (tVar 1) (tC (.int 2))))) (tOp (rIx K) (tVar 7) (tOp rSubI (tVar 1) (tC (.int 2))))) (tOp rMulA (tC (.str ("X" : Str))) (tCB rIntA (tCons (tOp (rEqA K) (tVar 1) (tC (.int 3))) tNil)))) (gSub (tVar 5) (tVar 2) rSetL)) (tRet (tM1 (rJoinA K) (tC (.str (" " : Str))) (tVar 5))))))) tNext) (tRet (tOp (rIx K) (tLst (tCons (tOp (rAddA K) (tVar 3) (tC (.str (" " : Str)))) (tCons (tOp (rAddA K) (tC (.str (" " : Str))) (tVar 3)) (tCons (tOp (rAddA K) (tVar 3) (tC (.str ("\n" : Str)))) (tCons (tM0 rUpperA (tVar 3)) (tCons (CwR.tReplC (tVar 3) (" " : Str) ("  " : Str)) tNil)))))) (tOp rSubI (tVar 1) (tC (.int 9))))))))))))
def rd_law : TS := (tSeq (tAsg (tCallSD (G .law_picks) [] (fun _ => E) (tCons (tCallSD (G .law_draws) [] (fun _ => E) (tCons (tCallSD (G .law_cell) [] (fun _ => E) (tCons (tVar 0) (tCons (tC (.int 0)) tNil))) (tCons (tC (.int 20)) (tCons (tC (.int 3)) tNil)))) tNil)) (gName 1)) (tSeq (tAsg (tLc (iList K (tCallSD (G .law_entries) [] (fun _ => E) tNil)) (gName 3) tYes (tOp (rAddA K) (tOp (rAddA K) (tVar 3) (tC (.str ("=" : Str)))) (tDGet (tVar 1) (tVar 3))) [3]) (gName 2)) (tSeq (tAsg (tM1 (rJoinA K) (tC (.str (" " : Str))) (tVar 2)) (gName 4)) (tSeq (tAsg (tCallSD (G .law_book) [] (fun _ => E) (tCons (tVar 1) tNil)) (gName 5)) (tSeq (tIfS (tOr (tTest (tOp (rNeA K) (tMethS (He.ga K "Book") ("text" : Str) (G .Book_text) [] (fun _ => E) (tVar 5) tNil) (tVar 4))) (tNot (tB (tCB (rIsi K) (tCons (tMethS (He.ga K "Book") ("text" : Str) (G .Book_text) [] (fun _ => E) (tVar 5) tNil) (tCons (tC (.ty "str")) tNil)))))) (tRet (tC (.bl false))) tNext) (tSeq (tAsg (tCallSD (G .read_book) [] (fun _ => E) (tCons (tVar 4) tNil)) (gName 6)) (tSeq (tFor (iList K (tCallSD (G .law_entries) [] (fun _ => E) tNil)) (gName 3) (tIfS (tTest (tOp (rNeA K) (tOwnIx (He.ga K "Book") (G .Book_getitem) (fun _ => E) (tVar 6) (tVar 3)) (tDGet (tVar 1) (tVar 3)))) (tRet (tC (.bl false))) tNext)) (tSeq (tIfS (tNot (tB (tCallSD (G .law_refused) [] (fun _ => E) (tCons (tCallSD (G .law_spoilt) [] (fun _ => E) (tCons (tVar 2) (tCons (tOp rModI (tCallSD (G .law_cell) [] (fun _ => E) (tCons (tVar 0) (tCons (tC (.int 1)) tNil))) (tC (.int 14))) (tCons (tOp rModI (tCallSD (G .law_cell) [] (fun _ => E) (tCons (tVar 0) (tCons (tC (.int 2)) tNil))) (tC (.int 10))) tNil)))) tNil)))) (tRet (tC (.bl false))) tNext) (tRet (tAndV (tCallSD (G .law_refused) [] (fun _ => E) (tCons (tC (.str ("" : Str))) tNil)) (tAndV (tOp (rOwn (He.ga K "Book") (G .Book_eq)) (tCallSD (G .read_book) [] (fun _ => E) (tCons (tVar 4) tNil)) (tVar 5)) (tOp (rOwn (He.ga K "Book") (G .Book_eq)) (tVar 6) (tVar 5)))))))))))))
end
def Gam (K : PySem.W.Frag) (W : World) : Nat → Gm
  | 0 => fun _ _ _ _ _ => False
  | k + 1 => fun f => match f with
    | .Book_init => fun vs H Q E => vs.length = 11 ∧ rd_Book_init K W E { nx := fun _ H' => Q .non H', rt := Q } (start N_Book_init vs) H
    | .Book_getitem => fun vs H Q E => vs.length = 2 ∧ rd_Book_getitem K E { nx := fun _ H' => Q .non H', rt := Q } (start N_Book_getitem vs) H
    | .Book_setitem => fun vs H Q E => vs.length = 3 ∧ rd_Book_setitem K W E { nx := fun _ H' => Q .non H', rt := Q } (start N_Book_setitem vs) H
    | .Book_eq => fun vs H Q E => vs.length = 2 ∧ rd_Book_eq K { nx := fun _ H' => Q .non H', rt := Q } (start N_Book_eq vs) H
    | .Book_text => fun vs H Q E => vs.length = 1 ∧ rd_Book_text K { nx := fun _ H' => Q .non H', rt := Q } (start N_Book_text vs) H
    | .read_book => fun vs H Q E => vs.length = 1 ∧ rd_read_book K (Gam K W k) E { nx := fun _ H' => Q .non H', rt := Q } (start N_read_book vs) H
    | .law_cell => fun vs H Q E => vs.length = 2 ∧ rd_law_cell K { nx := fun _ H' => Q .non H', rt := Q } (start N_law_cell vs) H
    | .law_draws => fun vs H Q E => vs.length = 3 ∧ rd_law_draws K { nx := fun _ H' => Q .non H', rt := Q } (start N_law_draws vs) H
    | .law_entries => fun vs H Q E => vs.length = 0 ∧ rd_law_entries  { nx := fun _ H' => Q .non H', rt := Q } (start N_law_entries vs) H
    | .law_choices => fun vs H Q E => vs.length = 1 ∧ rd_law_choices  { nx := fun _ H' => Q .non H', rt := Q } (start N_law_choices vs) H
    | .law_picks => fun vs H Q E => vs.length = 1 ∧ rd_law_picks K (Gam K W k) E { nx := fun _ H' => Q .non H', rt := Q } (start N_law_picks vs) H
    | .law_book => fun vs H Q E => vs.length = 1 ∧ rd_law_book K (Gam K W k) E { nx := fun _ H' => Q .non H', rt := Q } (start N_law_book vs) H
    | .law_refused => fun vs H Q E => vs.length = 1 ∧ rd_law_refused K (Gam K W k) E { nx := fun _ H' => Q .non H', rt := Q } (start N_law_refused vs) H
    | .law_spoilt => fun vs H Q E => vs.length = 3 ∧ rd_law_spoilt K { nx := fun _ H' => Q .non H', rt := Q } (start N_law_spoilt vs) H
    | .law => fun vs H Q E => vs.length = 1 ∧ rd_law K (Gam K W k) E { nx := fun _ H' => Q .non H', rt := Q } (start N_law vs) H
def lev (k : Nat) : Nat := 2 * k
abbrev AllOk (P : Program) (w : World) (K : PySem.W.Frag) (mg : Str → Option Value) (base : Heap) (k : Nat) : Prop := ∀ f, FnOk P w K mg base (L2.CX P w) (lev k) ((dm f).adr K) (fdAt K ((dm f).adr K)) (ps f) (Gam K w k f)
/-! ### the facts -/
class TxtK (K : PySem.W.Frag) : Prop where
  f_Book_init : FunM K (dm .Book_init)
  f_Book_getitem : FunM K (dm .Book_getitem)
  f_Book_setitem : FunM K (dm .Book_setitem)
  f_Book_eq : FunM K (dm .Book_eq)
  f_Book_text : FunM K (dm .Book_text)
  f_read_book : FunM K (dm .read_book)
  f_law_cell : FunM K (dm .law_cell)
  f_law_draws : FunM K (dm .law_draws)
  f_law_entries : FunM K (dm .law_entries)
  f_law_choices : FunM K (dm .law_choices)
  f_law_picks : FunM K (dm .law_picks)
  f_law_book : FunM K (dm .law_book)
  f_law_refused : FunM K (dm .law_refused)
  f_law_spoilt : FunM K (dm .law_spoilt)
  f_law : FunM K (dm .law)
  b_Book_eq_2 : Binds K (fdAt K ((dm .Book_eq).adr K)) (ps .Book_eq) []
  b_Book_getitem_2 : Binds K (fdAt K ((dm .Book_getitem).adr K)) (ps .Book_getitem) []
  b_Book_init_1 : ∃ ds, Vals [V.str ("join" : Str), V.str ("stop" : Str), V.str ("raise" : Str), V.str ("stop" : Str), V.str ("stop" : Str), V.str ("stop" : Str), V.str ("stop" : Str), V.str ("stop" : Str), V.str ("stop" : Str), V.str ("stop" : Str)] ds ∧ Binds K (fdAt K ((dm .Book_init).adr K)) (ps .Book_init) ds
  b_Book_setitem_3 : Binds K (fdAt K ((dm .Book_setitem).adr K)) (ps .Book_setitem) []
  b_Book_text_1 : Binds K (fdAt K ((dm .Book_text).adr K)) (ps .Book_text) []
  b_law_book_1 : Binds K (fdAt K ((dm .law_book).adr K)) (ps .law_book) []
  b_law_cell_2 : Binds K (fdAt K ((dm .law_cell).adr K)) (ps .law_cell) []
  b_law_choices_1 : Binds K (fdAt K ((dm .law_choices).adr K)) (ps .law_choices) []
  b_law_draws_3 : Binds K (fdAt K ((dm .law_draws).adr K)) (ps .law_draws) []
  b_law_entries_0 : Binds K (fdAt K ((dm .law_entries).adr K)) (ps .law_entries) []
  b_law_picks_1 : Binds K (fdAt K ((dm .law_picks).adr K)) (ps .law_picks) []
  b_law_refused_1 : Binds K (fdAt K ((dm .law_refused).adr K)) (ps .law_refused) []
  b_law_spoilt_3 : Binds K (fdAt K ((dm .law_spoilt).adr K)) (ps .law_spoilt) []
  b_read_book_1 : Binds K (fdAt K ((dm .read_book).adr K)) (ps .read_book) []
  c_Book : Cls K (He.ga K ("Book" : Str))
  me_Book_text : Meth K (He.ga K ("Book" : Str)) ("text" : Str) (He.ma K (He.ga K ("Book" : Str)) ("text" : Str))
  sp_Book_getitem : Spc K (He.ga K ("Book" : Str)) ("__getitem__" : Str) (He.ma K (He.ga K ("Book" : Str)) ("__getitem__" : Str))
  fi_Book_getitem : PySem.W.fnIn K (He.ma K (He.ga K "Book") "__getitem__") = true
  nf_Book : PySem.W.notFirst K (He.ga K "Book") (.ref (He.ga K "Book")) = true
  sp_Book_eq : Spc K (He.ga K ("Book" : Str)) ("__eq__" : Str) (He.ma K (He.ga K ("Book" : Str)) ("__eq__" : Str))
  x_InvalidBook : PySem.W.excIn K (He.ga K ("InvalidBook" : Str)) He.veBase "ValueError.__new__" = true ∧ PySem.W.keepIn K (.ref (He.ga K ("InvalidBook" : Str))) = true ∧ PySem.W.subIn K (.ref (He.ga K ("InvalidBook" : Str))) (.type "BaseException") = some true ∧ PySem.W.typeIn K (.ref (He.ga K ("InvalidBook" : Str))) = some (.type "type")
  mk_Book : Mk K (He.ga K ("Book" : Str)) (He.ma K (He.ga K ("Book" : Str)) "__init__")
  ns_Book : PySem.W.noSeq K (He.ga K "Book") = true
  sp_Book_setitem : Spc K (He.ga K ("Book" : Str)) ("__setitem__" : Str) (He.ma K (He.ga K ("Book" : Str)) ("__setitem__" : Str))
  ec_InvalidBook : ExcC K (He.ga K ("InvalidBook" : Str))
  xm_InvalidBook_InvalidBook : PySem.W.exmOne K (.ref (He.ga K ("InvalidBook" : Str))) (.ref (He.ga K ("InvalidBook" : Str))) = some true
  bk_ent : entB K = true
  bk_ch : chB K = true
  na_Book_held : NoAttr K (He.ga K ("Book" : Str)) ("held" : Str)
  is_Book : IsiC K (He.ga K ("Book" : Str))
  kit_Book_Book : PySem.W.kitOne K (.ref (He.ga K ("Book" : Str))) (.ref (He.ga K ("Book" : Str))) = some true
  kit_InvalidBook_ValueError : PySem.W.kitOne K (.ref (He.ga K ("InvalidBook" : Str))) (.type "ValueError") = some true
  kit_NoneType_Book : PySem.W.kitOne K (.type "NoneType") (.ref (He.ga K ("Book" : Str))) = some false
  kit_int_Book : PySem.W.kitOne K (.type "int") (.ref (He.ga K ("Book" : Str))) = some false
structure Txt (K : PySem.W.Frag) (w : World) (mg : Str → Option Value) : Prop where
  k : TxtK K
  kd : BookW K w
  g_law : mg ("law" : Str) = some (.ref (He.ga K ("law" : Str)))
  g_law_picks : mg ("_law_picks" : Str) = some (.ref (He.ga K ("_law_picks" : Str)))
  g_law_draws : mg ("_law_draws" : Str) = some (.ref (He.ga K ("_law_draws" : Str)))
  g_law_cell : mg ("_law_cell" : Str) = some (.ref (He.ga K ("_law_cell" : Str)))
  g_law_entries : mg ("_law_entries" : Str) = some (.ref (He.ga K ("_law_entries" : Str)))
  g_law_book : mg ("_law_book" : Str) = some (.ref (He.ga K ("_law_book" : Str)))
  z_str : mg ("str" : Str) = none
  z_isinstance : mg ("isinstance" : Str) = none
  g_read_book : mg ("read_book" : Str) = some (.ref (He.ga K ("read_book" : Str)))
  g_law_refused : mg ("_law_refused" : Str) = some (.ref (He.ga K ("_law_refused" : Str)))
  g_law_spoilt : mg ("_law_spoilt" : Str) = some (.ref (He.ga K ("_law_spoilt" : Str)))
  g_ENTRIES : mg ("ENTRIES" : Str) = some (.ref (He.ga K ("ENTRIES" : Str)))
  g_InvalidBook : mg ("InvalidBook" : Str) = some (.ref (He.ga K ("InvalidBook" : Str)))
  g_Book : mg ("Book" : Str) = some (.ref (He.ga K ("Book" : Str)))
  z_len : mg ("len" : Str) = none
  z_range : mg ("range" : Str) = none
  z_abs : mg ("abs" : Str) = none
  g_law_choices : mg ("_law_choices" : Str) = some (.ref (He.ga K ("_law_choices" : Str)))
  z_int : mg ("int" : Str) = none
  z_ValueError : mg ("ValueError" : Str) = none
  z_list : mg ("list" : Str) = none
  g_CHOICES : mg ("CHOICES" : Str) = some (.ref (He.ga K ("CHOICES" : Str)))
def exl : List (PySem.W.Frag → Bool) := [(fun K => He.Fa.ok K (.glo ("law" : Str))),
  (fun K => He.Fa.ok K (.glo ("_law_picks" : Str))),
  (fun K => He.Fa.ok K (.glo ("_law_draws" : Str))),
  (fun K => He.Fa.ok K (.glo ("_law_cell" : Str))),
  (fun K => He.Fa.ok K (.glo ("_law_entries" : Str))),
  (fun K => He.Fa.ok K (.glo ("_law_book" : Str))),
  (fun K => He.Fa.ok K (.cls ("Book" : Str))),
  (fun K => He.Fa.ok K (.meth ("Book" : Str) ("text" : Str))),
  (fun K => He.Fa.ok K (.free ("str" : Str))),
  (fun K => He.Fa.ok K (.free ("isinstance" : Str))),
  (fun K => He.Fa.ok K (.glo ("read_book" : Str))),
  spcB ("Book" : Str) ("__getitem__" : Str),
  (fun K => PySem.W.fnIn K (He.ma K (He.ga K "Book") "__getitem__")),
  (fun K => He.Fa.ok K (.glo ("_law_refused" : Str))),
  (fun K => He.Fa.ok K (.glo ("_law_spoilt" : Str))),
  (fun K => PySem.W.notFirst K (He.ga K "Book") (.ref (He.ga K "Book"))),
  spcB ("Book" : Str) ("__eq__" : Str),
  (fun K => He.Fa.ok K (.glo ("ENTRIES" : Str))),
  excM ("InvalidBook" : Str),
  (fun K => He.Fa.ok K (.glo ("InvalidBook" : Str))),
  (fun K => He.Fa.ok K (.glo ("Book" : Str))),
  (fun K => He.Fa.ok K (.mkr ("Book" : Str))),
  (fun K => He.Fa.ok K (.free ("len" : Str))),
  (fun K => He.Fa.ok K (.free ("range" : Str))),
  (fun K => PySem.W.noSeq K (He.ga K "Book")),
  spcB ("Book" : Str) ("__setitem__" : Str),
  (fun K => He.Fa.ok K (.free ("abs" : Str))),
  (fun K => He.Fa.ok K (.glo ("_law_choices" : Str))),
  (fun K => He.Fa.ok K (.free ("int" : Str))),
  excCB ("InvalidBook" : Str),
  (fun K => He.Fa.ok K (.free ("ValueError" : Str))),
  (fun K => He.Fa.ok K (.free ("list" : Str))),
  (fun K => He.Fa.ok K (.glo ("CHOICES" : Str))),
  (fun K => He.Fa.ok K (.exm ("InvalidBook" : Str) ("InvalidBook" : Str) true)),
  entB,
  chB,
  (fun K => He.Fa.ok K (.noat ("Book" : Str) ("held" : Str))),
  isiB ("Book" : Str),
  (fun K => decide (PySem.W.kitOne K (.ref (He.ga K ("Book" : Str))) (.ref (He.ga K ("Book" : Str))) = some true)),
  (fun K => decide (PySem.W.kitOne K (.ref (He.ga K ("InvalidBook" : Str))) (.type "ValueError") = some true)),
  (fun K => decide (PySem.W.kitOne K (.type "NoneType") (.ref (He.ga K ("Book" : Str))) = some false)),
  (fun K => decide (PySem.W.kitOne K (.type "int") (.ref (He.ga K ("Book" : Str))) = some false))]
def fnl : List DefM := [dm .Book_init, dm .Book_getitem, dm .Book_setitem, dm .Book_eq, dm .Book_text, dm .read_book, dm .law_cell, dm .law_draws, dm .law_entries, dm .law_choices, dm .law_picks, dm .law_book, dm .law_refused, dm .law_spoilt, dm .law]
def tbs : List He.Tab := [(fun K => He.ga K ("CHOICES" : Str), [("work" : Str), ("write" : Str), ("meet" : Str), ("test" : Str), ("partly" : Str), ("value" : Str), ("path" : Str), ("loop" : Str), ("guard" : Str), ("call" : Str)])]
abbrev exb (K : PySem.W.Frag) : Bool := exl.all fun f => f K
def loose0 : List PySem.Str := ["_wall", "MarkError", "InvalidBook", "ENTRIES", "CHOICES", "Book", "below", "read_book", "_law_cell", "_law_draws", "_law_entries", "_law_choices", "_law_picks", "_law_book", "_law_refused", "_law_spoilt"]
abbrev looseN : List PySem.Str := loose0
abbrev RR : PySem.W.OpenRow := PySem.W.OpenLaw.row PySem.Challenge.rw_stickymarks_k08_book_text
abbrev hkM : PySem.W.Hook := hookM 6 fnl exb tbs
set_option maxHeartbeats 0 in
theorem run_bF (w : World) : HandSHeadRun.RunEq RR (PySem.W.view RR.prog [19]) hkM (obsMG 6 fnl exb tbs) 20000 looseN (wB w false) := by
  intro os
  kernel_rfl
set_option maxHeartbeats 0 in
theorem run_bT (w : World) : HandSHeadRun.RunEq RR (PySem.W.view RR.prog [19]) hkM (obsMG 6 fnl exb tbs) 20000 looseN (wB w true) := by
  intro os
  kernel_rfl
theorem run_b (w : World) (b : Bool) : HandSHeadRun.RunEq RR (PySem.W.view RR.prog [19]) hkM (obsMG 6 fnl exb tbs) 20000 looseN (wB w b) := by
  cases b
  · exact run_bF w
  · exact run_bT w
theorem run_top (w : World) : HandSHeadRun.RunEq RR (PySem.W.view RR.prog [19]) hkM (obsMG 6 fnl exb tbs) 20000 looseN w := by
  rw [← wB_eq w]
  exact run_b w _
def ixOf : Fn → Nat
  | .Book_init => 0
  | .Book_getitem => 1
  | .Book_setitem => 2
  | .Book_eq => 3
  | .Book_text => 4
  | .read_book => 5
  | .law_cell => 6
  | .law_draws => 7
  | .law_entries => 8
  | .law_choices => 9
  | .law_picks => 10
  | .law_book => 11
  | .law_refused => 12
  | .law_spoilt => 13
  | .law => 14
theorem fun_of {w : World} {K : PySem.W.Frag} (c : SaysM fnl exb tbs w K) (f : Fn) (hfr : (dm f).fr = []) : FunM K (dm f) := c.fun (ixOf f) hfr (by cases f <;> rfl)
theorem fun_ofC {w : World} {K : PySem.W.Frag} (c : SaysM fnl exb tbs w K) (f : Fn) (hfr : (dm f).fr = [("__class__" : Str)]) (hdf : (dm f).dfl = []) : FunMC K (dm f) := c.funC (ixOf f) hfr hdf (by cases f <;> rfl)
theorem txtK_of {w : World} {K : PySem.W.Frag} (c : SaysM fnl exb tbs w K) : TxtK K := by
  have F := fun_of c
  have FC := fun_ofC c
  have m := c.more
  exact {
    f_Book_init := F .Book_init rfl,
    f_Book_getitem := F .Book_getitem rfl,
    f_Book_setitem := F .Book_setitem rfl,
    f_Book_eq := F .Book_eq rfl,
    f_Book_text := F .Book_text rfl,
    f_read_book := F .read_book rfl,
    f_law_cell := F .law_cell rfl,
    f_law_draws := F .law_draws rfl,
    f_law_entries := F .law_entries rfl,
    f_law_choices := F .law_choices rfl,
    f_law_picks := F .law_picks rfl,
    f_law_book := F .law_book rfl,
    f_law_refused := F .law_refused rfl,
    f_law_spoilt := F .law_spoilt rfl,
    f_law := F .law rfl,
    b_Book_eq_2 := FunD.bindsN (F .Book_eq rfl) fun _ _ _ _ _ _ us hl => match us, hl with | [_, _], _ => rfl,
    b_Book_getitem_2 := FunD.bindsN (F .Book_getitem rfl) fun _ _ _ _ _ _ us hl => match us, hl with | [_, _], _ => rfl,
    b_Book_init_1 := FunD.binds0 (F .Book_init rfl) 1 (fun z => by cases z) rfl (fun _ _ _ _ _ _ us ks hl hl2 => match us, ks, hl, hl2 with | [_], [_, _, _, _, _, _, _, _, _, _], _, _ => ⟨_, _, _, _, _, _, rfl, rfl, ⟨_, _, _, _, _, _, rfl, rfl, ⟨_, _, _, _, _, _, rfl, rfl, ⟨_, _, _, _, _, _, rfl, rfl, ⟨_, _, _, _, _, _, rfl, rfl, ⟨_, _, _, _, _, _, rfl, rfl, ⟨_, _, _, _, _, _, rfl, rfl, ⟨_, _, _, _, _, _, rfl, rfl, ⟨_, _, _, _, _, _, rfl, rfl, ⟨_, _, _, _, _, _, rfl, rfl, rfl⟩⟩⟩⟩⟩⟩⟩⟩⟩⟩),
    b_Book_setitem_3 := FunD.bindsN (F .Book_setitem rfl) fun _ _ _ _ _ _ us hl => match us, hl with | [_, _, _], _ => rfl,
    b_Book_text_1 := FunD.bindsN (F .Book_text rfl) fun _ _ _ _ _ _ us hl => match us, hl with | [_], _ => rfl,
    b_law_book_1 := FunD.bindsN (F .law_book rfl) fun _ _ _ _ _ _ us hl => match us, hl with | [_], _ => rfl,
    b_law_cell_2 := FunD.bindsN (F .law_cell rfl) fun _ _ _ _ _ _ us hl => match us, hl with | [_, _], _ => rfl,
    b_law_choices_1 := FunD.bindsN (F .law_choices rfl) fun _ _ _ _ _ _ us hl => match us, hl with | [_], _ => rfl,
    b_law_draws_3 := FunD.bindsN (F .law_draws rfl) fun _ _ _ _ _ _ us hl => match us, hl with | [_, _, _], _ => rfl,
    b_law_entries_0 := FunD.bindsN (F .law_entries rfl) fun _ _ _ _ _ _ us hl => match us, hl with | [], _ => rfl,
    b_law_picks_1 := FunD.bindsN (F .law_picks rfl) fun _ _ _ _ _ _ us hl => match us, hl with | [_], _ => rfl,
    b_law_refused_1 := FunD.bindsN (F .law_refused rfl) fun _ _ _ _ _ _ us hl => match us, hl with | [_], _ => rfl,
    b_law_spoilt_3 := FunD.bindsN (F .law_spoilt rfl) fun _ _ _ _ _ _ us hl => match us, hl with | [_, _, _], _ => rfl,
    b_read_book_1 := FunD.bindsN (F .read_book rfl) fun _ _ _ _ _ _ us hl => match us, hl with | [_], _ => rfl,
    c_Book := He.cls_ok (fact_of m 6),
    me_Book_text := He.meth_ok (fact_of m 7),
    sp_Book_getitem := spcB_ok (fact_of m 11),
    fi_Book_getitem := (fact_of m 12),
    nf_Book := (fact_of m 15),
    sp_Book_eq := spcB_ok (fact_of m 16),
    x_InvalidBook := excM_ok (fact_of m 18),
    mk_Book := He.mkr_ok (fact_of m 21),
    ns_Book := (fact_of m 24),
    sp_Book_setitem := spcB_ok (fact_of m 25),
    ec_InvalidBook := excCB_ok (fact_of m 29),
    xm_InvalidBook_InvalidBook := He.exm_ok (fact_of m 33),
    bk_ent := (fact_of m 34),
    bk_ch := (fact_of m 35),
    na_Book_held := He.noat_ok (fact_of m 36),
    is_Book := isiB_ok (He.cls_ok (fact_of m 6)) (fact_of m 37),
    kit_Book_Book := of_decide_eq_true (fact_of m 38),
    kit_InvalidBook_ValueError := of_decide_eq_true (fact_of m 39),
    kit_NoneType_Book := of_decide_eq_true (fact_of m 40),
    kit_int_Book := of_decide_eq_true (fact_of m 41)
  }
theorem txt_of {w : World} {K : PySem.W.Frag} {h : Heap} {mg : Str → Option Value} (X : K.In h) (Gn : h.Ns mainGlobals mg) (c : SaysM fnl exb tbs w K) : Txt K w mg := by
  have m := c.more
  exact {
    k := txtK_of c,
    kd := ⟨c.tab 0⟩,
    g_law := He.glo_ok X Gn (fact_of m 0),
    g_law_picks := He.glo_ok X Gn (fact_of m 1),
    g_law_draws := He.glo_ok X Gn (fact_of m 2),
    g_law_cell := He.glo_ok X Gn (fact_of m 3),
    g_law_entries := He.glo_ok X Gn (fact_of m 4),
    g_law_book := He.glo_ok X Gn (fact_of m 5),
    z_str := He.free_ok X Gn (fact_of m 8),
    z_isinstance := He.free_ok X Gn (fact_of m 9),
    g_read_book := He.glo_ok X Gn (fact_of m 10),
    g_law_refused := He.glo_ok X Gn (fact_of m 13),
    g_law_spoilt := He.glo_ok X Gn (fact_of m 14),
    g_ENTRIES := He.glo_ok X Gn (fact_of m 17),
    g_InvalidBook := He.glo_ok X Gn (fact_of m 19),
    g_Book := He.glo_ok X Gn (fact_of m 20),
    z_len := He.free_ok X Gn (fact_of m 22),
    z_range := He.free_ok X Gn (fact_of m 23),
    z_abs := He.free_ok X Gn (fact_of m 26),
    g_law_choices := He.glo_ok X Gn (fact_of m 27),
    z_int := He.free_ok X Gn (fact_of m 28),
    z_ValueError := He.free_ok X Gn (fact_of m 30),
    z_list := He.free_ok X Gn (fact_of m 31),
    g_CHOICES := He.glo_ok X Gn (fact_of m 32)
  }
/-! ### instances: attributes, isinstance -/
section
variable {K : PySem.W.Frag} [TxtK K]
instance : BookK K := ⟨TxtK.bk_ent, TxtK.bk_ch⟩
instance : HasF K (He.ga K ("Book" : Str)) ("held" : Str) := ⟨TxtK.c_Book, TxtK.na_Book_held⟩
instance : IsiC K (He.ga K ("Book" : Str)) := TxtK.is_Book
instance : LkN [] ("text" : Str) := ⟨lkN0⟩
def fs_Book (v0 : V) : List (Str × V) := [(("held" : Str), v0)]
instance {v0 : V} : Lk (fs_Book v0) ("held" : Str) v0 := ⟨lk0⟩
instance {v0 : V} : LkN (fs_Book v0) ("text" : Str) := ⟨(lkNS (by decide +kernel) lkN0)⟩
instance {u : V} {v0 : V} : Pf ("held" : Str) u (fs_Book v0) (fs_Book u) := ⟨pfE, by show 1 < 1000; decide⟩
instance {u : V}  : Pf ("held" : Str) u [] (fs_Book u) := ⟨pf0, by show 0 < 1000; decide⟩
instance : Kit K (.ref (He.ga K ("Book" : Str))) (.ref (He.ga K ("Book" : Str))) true := ⟨TxtK.kit_Book_Book⟩
instance : Kit K (.ref (He.ga K ("InvalidBook" : Str))) (.type "ValueError") true := ⟨TxtK.kit_InvalidBook_ValueError⟩
instance : Kit K (.type "NoneType") (.ref (He.ga K ("Book" : Str))) false := ⟨TxtK.kit_NoneType_Book⟩
instance : Kit K (.type "int") (.ref (He.ga K ("Book" : Str))) false := ⟨TxtK.kit_int_Book⟩
end
/-! ### each def keeps its reading -/
section
variable {w : World} {K : PySem.W.Frag} {mg : Str → Option Value} {base : Heap} {k : Nat}
theorem ok_Book_init (T : Txt K w mg) (G : AllOk prog w K mg base k) : FnOk prog w K mg base (L2.CX prog w) (lev (k + 1)) ((dm .Book_init).adr K) (fdAt K ((dm .Book_init).adr K)) (ps .Book_init) (Gam K w (k + 1) .Book_init) := by
  have S : FnScope N_Book_init (ps .Book_init) (defScope st_Book_init) := ⟨rfl, rfl, rfl, by decide +kernel, rfl, by decide +kernel, by decide +kernel⟩
  have nd := S.nd
  refine FunD.ok (k := 2 * k + 1) T.k.f_Book_init S (fun vs H Q E h => h.1) (fun cdv A outer s H vs Q E hr h => ⟨rd_Book_init K w E, ?_, h.2⟩)
  have hr0 : Room (lev k) _ := hr.mono (Nat.le_succ _)
  have tk : Takes (cxOf (L2.CX prog w) prog w K mg base N_Book_init ("Book.__init__" : Str) (defScope st_Book_init) ((dm .Book_init).adr K) cdv A outer s H E) (fun cls d _ H => E cls d H) := takes_of rfl rfl rfl rfl
  have hx : ∀ σ, PassesAt (L2.CX prog w) (cxOf (L2.CX prog w) prog w K mg base N_Book_init ("Book.__init__" : Str) (defScope st_Book_init) ((dm .Book_init).adr K) cdv A outer s H E) σ E := fun σ => passAt tk σ
  have hpo : PassesOwn (model prog w) _ _ (cxOf (L2.CX prog w) prog w K mg base N_Book_init ("Book.__init__" : Str) (defScope st_Book_init) ((dm .Book_init).adr K) cdv A outer s H E).xe := passes_of rfl
  exact (pss_cons (ps_set (i := 11) nd rfl (by first | exact Or.inl rfl | exact Or.inr rfl) (pe_tup (pa_cons (pv 1) (pa_cons (pv 2) (pa_cons (pv 3) (pa_cons (pv 4) (pa_cons (pv 5) (pa_cons (pv 6) (pa_cons (pv 7) (pa_cons (pv 8) (pa_cons (pv 9) (pa_cons (pv 10) pa_nil)))))))))))) (pss_cons (ps_fld (pv 0) pe_dnewK rfl) (pss_one (ps_for hpo rfl (pi_range1 (by rfl) T.z_range (pa_cons (pe_callB call_lenA rfl T.z_len (by decide +kernel) (pa_cons (pe_glob rfl T.g_ENTRIES rfl) pa_nil)) pa_nil)) (pg_name (i := 12) nd rfl (by first | exact Or.inl rfl | exact Or.inr rfl)) (pss_cons (ps_if (pt_cmpR (op_notInA (hu_of hr)) (pe_ix ix_seq (pv 11) (pv 12) (fun _ _ => rfl)) (pe_ixW (pe_glob rfl T.g_CHOICES rfl) (pe_ix ix_seq (pe_glob rfl T.g_ENTRIES rfl) (pv 12) (fun _ _ => rfl)) (fun _ _ => rfl)) (by rfl)) (pss_one (ps_raise rfl tk (pmk_own PySem.F.excBase_ValueError T.k.x_InvalidBook.1 T.g_InvalidBook T.k.x_InvalidBook.2.1 (raises_own T.k.x_InvalidBook.2.2.1 T.k.x_InvalidBook.2.2.2) rfl))) pss_nil) (pss_one (ps_dput (hu_of hr) (pe_fld (pv 0) rfl) (pe_ix ix_seq (pe_glob rfl T.g_ENTRIES rfl) (pv 12) (fun _ _ => rfl)) (pe_ix ix_seq (pv 11) (pv 12) (fun _ _ => rfl)) rfl)))))))
theorem ok_Book_getitem (T : Txt K w mg) (G : AllOk prog w K mg base k) : FnOk prog w K mg base (L2.CX prog w) (lev (k + 1)) ((dm .Book_getitem).adr K) (fdAt K ((dm .Book_getitem).adr K)) (ps .Book_getitem) (Gam K w (k + 1) .Book_getitem) := by
  have S : FnScope N_Book_getitem (ps .Book_getitem) (defScope st_Book_getitem) := ⟨rfl, rfl, rfl, by decide +kernel, rfl, by decide +kernel, by decide +kernel⟩
  have nd := S.nd
  refine FunD.ok (k := 2 * k + 1) T.k.f_Book_getitem S (fun vs H Q E h => h.1) (fun cdv A outer s H vs Q E hr h => ⟨rd_Book_getitem K E, ?_, h.2⟩)
  have hr0 : Room (lev k) _ := hr.mono (Nat.le_succ _)
  have tk : Takes (cxOf (L2.CX prog w) prog w K mg base N_Book_getitem ("Book.__getitem__" : Str) (defScope st_Book_getitem) ((dm .Book_getitem).adr K) cdv A outer s H E) (fun cls d _ H => E cls d H) := takes_of rfl rfl rfl rfl
  have hx : ∀ σ, PassesAt (L2.CX prog w) (cxOf (L2.CX prog w) prog w K mg base N_Book_getitem ("Book.__getitem__" : Str) (defScope st_Book_getitem) ((dm .Book_getitem).adr K) cdv A outer s H E) σ E := fun σ => passAt tk σ
  have hpo : PassesOwn (model prog w) _ _ (cxOf (L2.CX prog w) prog w K mg base N_Book_getitem ("Book.__getitem__" : Str) (defScope st_Book_getitem) ((dm .Book_getitem).adr K) cdv A outer s H E).xe := passes_of rfl
  exact (pss_cons (ps_if (pt_cmpR (op_notInA (hu_of hr)) (pv 1) (pe_glob rfl T.g_ENTRIES rfl) (by rfl)) (pss_one (ps_raise rfl tk (pmk_own PySem.F.excBase_ValueError T.k.x_InvalidBook.1 T.g_InvalidBook T.k.x_InvalidBook.2.1 (raises_own T.k.x_InvalidBook.2.2.1 T.k.x_InvalidBook.2.2.2) rfl))) pss_nil) (pss_one (ps_ret (pe_dget (hu_of hr) (pe_fld (pv 0) rfl) (pv 1) (fun _ _ => rfl)))))
theorem ok_Book_setitem (T : Txt K w mg) (G : AllOk prog w K mg base k) : FnOk prog w K mg base (L2.CX prog w) (lev (k + 1)) ((dm .Book_setitem).adr K) (fdAt K ((dm .Book_setitem).adr K)) (ps .Book_setitem) (Gam K w (k + 1) .Book_setitem) := by
  have S : FnScope N_Book_setitem (ps .Book_setitem) (defScope st_Book_setitem) := ⟨rfl, rfl, rfl, by decide +kernel, rfl, by decide +kernel, by decide +kernel⟩
  have nd := S.nd
  refine FunD.ok (k := 2 * k + 1) T.k.f_Book_setitem S (fun vs H Q E h => h.1) (fun cdv A outer s H vs Q E hr h => ⟨rd_Book_setitem K w E, ?_, h.2⟩)
  have hr0 : Room (lev k) _ := hr.mono (Nat.le_succ _)
  have tk : Takes (cxOf (L2.CX prog w) prog w K mg base N_Book_setitem ("Book.__setitem__" : Str) (defScope st_Book_setitem) ((dm .Book_setitem).adr K) cdv A outer s H E) (fun cls d _ H => E cls d H) := takes_of rfl rfl rfl rfl
  have hx : ∀ σ, PassesAt (L2.CX prog w) (cxOf (L2.CX prog w) prog w K mg base N_Book_setitem ("Book.__setitem__" : Str) (defScope st_Book_setitem) ((dm .Book_setitem).adr K) cdv A outer s H E) σ E := fun σ => passAt tk σ
  have hpo : PassesOwn (model prog w) _ _ (cxOf (L2.CX prog w) prog w K mg base N_Book_setitem ("Book.__setitem__" : Str) (defScope st_Book_setitem) ((dm .Book_setitem).adr K) cdv A outer s H E).xe := passes_of rfl
  exact (pss_cons (ps_if (PW.pt (pw_or (pt_cmpR (op_notInA (hu_of hr)) (pv 1) (pe_glob rfl T.g_ENTRIES rfl) (by rfl)) (pw_or1 (pt_cmpR (op_notInA (hu_of hr)) (pv 2) (pe_ixW (pe_glob rfl T.g_CHOICES rfl) (pv 1) (fun _ _ => rfl)) (by rfl))))) (pss_one (ps_raise rfl tk (pmk_own PySem.F.excBase_ValueError T.k.x_InvalidBook.1 T.g_InvalidBook T.k.x_InvalidBook.2.1 (raises_own T.k.x_InvalidBook.2.2.1 T.k.x_InvalidBook.2.2.2) rfl))) pss_nil) (pss_one (ps_dput (hu_of hr) (pe_fld (pv 0) rfl) (pv 1) (pv 2) rfl)))
theorem ok_Book_eq (T : Txt K w mg) (G : AllOk prog w K mg base k) : FnOk prog w K mg base (L2.CX prog w) (lev (k + 1)) ((dm .Book_eq).adr K) (fdAt K ((dm .Book_eq).adr K)) (ps .Book_eq) (Gam K w (k + 1) .Book_eq) := by
  have S : FnScope N_Book_eq (ps .Book_eq) (defScope st_Book_eq) := ⟨rfl, rfl, rfl, by decide +kernel, rfl, by decide +kernel, by decide +kernel⟩
  have nd := S.nd
  refine FunD.ok (k := 2 * k + 1) T.k.f_Book_eq S (fun vs H Q E h => h.1) (fun cdv A outer s H vs Q E hr h => ⟨rd_Book_eq K, ?_, h.2⟩)
  have hr0 : Room (lev k) _ := hr.mono (Nat.le_succ _)
  have tk : Takes (cxOf (L2.CX prog w) prog w K mg base N_Book_eq ("Book.__eq__" : Str) (defScope st_Book_eq) ((dm .Book_eq).adr K) cdv A outer s H E) (fun cls d _ H => E cls d H) := takes_of rfl rfl rfl rfl
  have hx : ∀ σ, PassesAt (L2.CX prog w) (cxOf (L2.CX prog w) prog w K mg base N_Book_eq ("Book.__eq__" : Str) (defScope st_Book_eq) ((dm .Book_eq).adr K) cdv A outer s H E) σ E := fun σ => passAt tk σ
  have hpo : PassesOwn (model prog w) _ _ (cxOf (L2.CX prog w) prog w K mg base N_Book_eq ("Book.__eq__" : Str) (defScope st_Book_eq) ((dm .Book_eq).adr K) cdv A outer s H E).xe := passes_of rfl
  exact (pss_cons (ps_if (pt_not (pt_val (pe_callB call_isi rfl T.z_isinstance (by decide +kernel) (pa_cons (pv 1) (pa_cons (pe_glob rfl T.g_Book rfl) pa_nil))))) (pss_one ps_never) pss_nil) (pss_one (ps_ret (pe_cmpR (op_eqDD hr.units0) (pe_fld (pv 0) rfl) (pe_fld (pv 1) rfl) (nomark _)))))
theorem ok_Book_text (T : Txt K w mg) (G : AllOk prog w K mg base k) : FnOk prog w K mg base (L2.CX prog w) (lev (k + 1)) ((dm .Book_text).adr K) (fdAt K ((dm .Book_text).adr K)) (ps .Book_text) (Gam K w (k + 1) .Book_text) := by
  have S : FnScope N_Book_text (ps .Book_text) (defScope st_Book_text) := ⟨rfl, rfl, rfl, by decide +kernel, rfl, by decide +kernel, by decide +kernel⟩
  have nd := S.nd
  refine FunD.ok (k := 2 * k + 1) T.k.f_Book_text S (fun vs H Q E h => h.1) (fun cdv A outer s H vs Q E hr h => ⟨rd_Book_text K, ?_, h.2⟩)
  have hr0 : Room (lev k) _ := hr.mono (Nat.le_succ _)
  have tk : Takes (cxOf (L2.CX prog w) prog w K mg base N_Book_text ("Book.text" : Str) (defScope st_Book_text) ((dm .Book_text).adr K) cdv A outer s H E) (fun cls d _ H => E cls d H) := takes_of rfl rfl rfl rfl
  have hx : ∀ σ, PassesAt (L2.CX prog w) (cxOf (L2.CX prog w) prog w K mg base N_Book_text ("Book.text" : Str) (defScope st_Book_text) ((dm .Book_text).adr K) cdv A outer s H E) σ E := fun σ => passAt tk σ
  have hpo : PassesOwn (model prog w) _ _ (cxOf (L2.CX prog w) prog w K mg base N_Book_text ("Book.text" : Str) (defScope st_Book_text) ((dm .Book_text).adr K) cdv A outer s H E).xe := passes_of rfl
  exact (pss_one (ps_ret (pe_joinA pe_str (pe_lc (own := [(("entry" : Str), 1)]) (by rfl) nd (pi_tup (pe_glob rfl T.g_ENTRIES rfl)) (blkOk_by (own := [(("entry" : Str), 1)]) (N := N_Book_text) (sc := defScope st_Book_text) (by decide +kernel)) (fun _ _ _ _ _ => pg_name (i := 1) nd rfl (Or.inl rfl)) (fun _ _ _ _ _ => pts_nil) (fun _ _ _ _ _ => (pe_op op_addA (pe_op op_addA (pv 1) pe_str) (pe_dget (hu_of hr) (pe_fld (pv 0) rfl) (pv 1) (fun _ _ => rfl))))))))
theorem ok_read_book (T : Txt K w mg) (G : AllOk prog w K mg base k) : FnOk prog w K mg base (L2.CX prog w) (lev (k + 1)) ((dm .read_book).adr K) (fdAt K ((dm .read_book).adr K)) (ps .read_book) (Gam K w (k + 1) .read_book) := by
  have S : FnScope N_read_book (ps .read_book) (defScope st_read_book) := ⟨rfl, rfl, rfl, by decide +kernel, rfl, by decide +kernel, by decide +kernel⟩
  have nd := S.nd
  obtain ⟨_, hv_Book_init_1, hb_Book_init_1⟩ := T.k.b_Book_init_1
  refine FunD.ok (k := 2 * k + 1) T.k.f_read_book S (fun vs H Q E h => h.1) (fun cdv A outer s H vs Q E hr h => ⟨rd_read_book K (Gam K w k) E, ?_, h.2⟩)
  have hr0 : Room (lev k) _ := hr.mono (Nat.le_succ _)
  have tk : Takes (cxOf (L2.CX prog w) prog w K mg base N_read_book ("read_book" : Str) (defScope st_read_book) ((dm .read_book).adr K) cdv A outer s H E) (fun cls d _ H => E cls d H) := takes_of rfl rfl rfl rfl
  have hx : ∀ σ, PassesAt (L2.CX prog w) (cxOf (L2.CX prog w) prog w K mg base N_read_book ("read_book" : Str) (defScope st_read_book) ((dm .read_book).adr K) cdv A outer s H E) σ E := fun σ => passAt tk σ
  have hpo : PassesOwn (model prog w) _ _ (cxOf (L2.CX prog w) prog w K mg base N_read_book ("read_book" : Str) (defScope st_read_book) ((dm .read_book).adr K) cdv A outer s H E).xe := passes_of rfl
  exact (pss_cons (ps_set (i := 1) nd rfl (by first | exact Or.inl rfl | exact Or.inr rfl) (pe_make0S T.k.mk_Book (G .Book_init) hr rfl T.g_Book hb_Book_init_1 hv_Book_init_1 hx)) (pss_cons (ps_set (i := 2) nd rfl (by first | exact Or.inl rfl | exact Or.inr rfl) (pe_splitA (pv 0) pe_str)) (pss_cons (ps_if (pt_cmpR (op_neA hr.units) (pe_callB call_lenA rfl T.z_len (by decide +kernel) (pa_cons (pv 2) pa_nil)) (pe_callB call_lenA rfl T.z_len (by decide +kernel) (pa_cons (pe_glob rfl T.g_ENTRIES rfl) pa_nil)) (nomark _)) (pss_one (ps_raise rfl tk (pmk_own PySem.F.excBase_ValueError T.k.x_InvalidBook.1 T.g_InvalidBook T.k.x_InvalidBook.2.1 (raises_own T.k.x_InvalidBook.2.2.1 T.k.x_InvalidBook.2.2.2) rfl))) pss_nil) (pss_cons (ps_for hpo rfl (pi_range1 (by rfl) T.z_range (pa_cons (pe_callB call_lenA rfl T.z_len (by decide +kernel) (pa_cons (pe_glob rfl T.g_ENTRIES rfl) pa_nil)) pa_nil)) (pg_name (i := 3) nd rfl (by first | exact Or.inl rfl | exact Or.inr rfl)) (pss_cons (ps_set (i := 4) nd rfl (by first | exact Or.inl rfl | exact Or.inr rfl) (pe_ix ix_seq (pe_glob rfl T.g_ENTRIES rfl) (pv 3) (fun _ _ => rfl))) (pss_cons (ps_if (pt_not (pt_val (pe_startsA (pe_ix ix_seq (pv 2) (pv 3) (fun _ _ => rfl)) (pe_op op_addA (pv 4) pe_str)))) (pss_one (ps_raise rfl tk (pmk_own PySem.F.excBase_ValueError T.k.x_InvalidBook.1 T.g_InvalidBook T.k.x_InvalidBook.2.1 (raises_own T.k.x_InvalidBook.2.2.1 T.k.x_InvalidBook.2.2.2) rfl))) pss_nil) (pss_one (ps_ownPut (G .Book_setitem) hr0 T.k.b_Book_setitem_3 hx T.k.sp_Book_setitem T.k.ns_Book (pv 1) (pv 4) (pe_slice sl_Any (pe_ix ix_seq (pv 2) (pv 3) (fun _ _ => rfl)) (po_some (pe_op op_addA (pe_callB call_lenA rfl T.z_len (by decide +kernel) (pa_cons (pv 4) pa_nil)) pe_int)) po_none) rfl))))) (pss_one (ps_ret (pv 1)))))))
theorem ok_law_cell (T : Txt K w mg) (G : AllOk prog w K mg base k) : FnOk prog w K mg base (L2.CX prog w) (lev (k + 1)) ((dm .law_cell).adr K) (fdAt K ((dm .law_cell).adr K)) (ps .law_cell) (Gam K w (k + 1) .law_cell) := by
  have S : FnScope N_law_cell (ps .law_cell) (defScope st_law_cell) := ⟨rfl, rfl, rfl, by decide +kernel, rfl, by decide +kernel, by decide +kernel⟩
  have nd := S.nd
  refine FunD.ok (k := 2 * k + 1) T.k.f_law_cell S (fun vs H Q E h => h.1) (fun cdv A outer s H vs Q E hr h => ⟨rd_law_cell K, ?_, h.2⟩)
  have hr0 : Room (lev k) _ := hr.mono (Nat.le_succ _)
  have tk : Takes (cxOf (L2.CX prog w) prog w K mg base N_law_cell ("_law_cell" : Str) (defScope st_law_cell) ((dm .law_cell).adr K) cdv A outer s H E) (fun cls d _ H => E cls d H) := takes_of rfl rfl rfl rfl
  have hx : ∀ σ, PassesAt (L2.CX prog w) (cxOf (L2.CX prog w) prog w K mg base N_law_cell ("_law_cell" : Str) (defScope st_law_cell) ((dm .law_cell).adr K) cdv A outer s H E) σ E := fun σ => passAt tk σ
  have hpo : PassesOwn (model prog w) _ _ (cxOf (L2.CX prog w) prog w K mg base N_law_cell ("_law_cell" : Str) (defScope st_law_cell) ((dm .law_cell).adr K) cdv A outer s H E).xe := passes_of rfl
  exact (pss_cons (ps_if (pt_cmpR op_ltI (pv 1) (pe_callB call_lenA rfl T.z_len (by decide +kernel) (pa_cons (pv 0) pa_nil)) (nomark _)) (pss_one (ps_ret (pe_ix ix_seq (pv 0) (pv 1) (fun _ _ => rfl)))) pss_nil) (pss_one (ps_ret pe_int)))
theorem ok_law_draws (T : Txt K w mg) (G : AllOk prog w K mg base k) : FnOk prog w K mg base (L2.CX prog w) (lev (k + 1)) ((dm .law_draws).adr K) (fdAt K ((dm .law_draws).adr K)) (ps .law_draws) (Gam K w (k + 1) .law_draws) := by
  have S : FnScope N_law_draws (ps .law_draws) (defScope st_law_draws) := ⟨rfl, rfl, rfl, by decide +kernel, rfl, by decide +kernel, by decide +kernel⟩
  have nd := S.nd
  refine FunD.ok (k := 2 * k + 1) T.k.f_law_draws S (fun vs H Q E h => h.1) (fun cdv A outer s H vs Q E hr h => ⟨rd_law_draws K, ?_, h.2⟩)
  have hr0 : Room (lev k) _ := hr.mono (Nat.le_succ _)
  have tk : Takes (cxOf (L2.CX prog w) prog w K mg base N_law_draws ("_law_draws" : Str) (defScope st_law_draws) ((dm .law_draws).adr K) cdv A outer s H E) (fun cls d _ H => E cls d H) := takes_of rfl rfl rfl rfl
  have hx : ∀ σ, PassesAt (L2.CX prog w) (cxOf (L2.CX prog w) prog w K mg base N_law_draws ("_law_draws" : Str) (defScope st_law_draws) ((dm .law_draws).adr K) cdv A outer s H E) σ E := fun σ => passAt tk σ
  have hpo : PassesOwn (model prog w) _ _ (cxOf (L2.CX prog w) prog w K mg base N_law_draws ("_law_draws" : Str) (defScope st_law_draws) ((dm .law_draws).adr K) cdv A outer s H E).xe := passes_of rfl
  exact (pss_cons (ps_set (i := 3) nd rfl (by first | exact Or.inl rfl | exact Or.inr rfl) (pe_callB call_absI rfl T.z_abs (by decide +kernel) (pa_cons (pv 0) pa_nil))) (pss_cons (ps_set (i := 4) nd rfl (by first | exact Or.inl rfl | exact Or.inr rfl) (pv 3)) (pss_cons (ps_set (i := 5) nd rfl (by first | exact Or.inl rfl | exact Or.inr rfl) (pe_lst pa_nil)) (pss_cons (ps_for hpo rfl (pi_range1 (by rfl) T.z_range (pa_cons (pv 1) pa_nil)) (pg_name (i := 6) nd rfl (by first | exact Or.inl rfl | exact Or.inr rfl)) (pss_one (ps_if (PW.pt (pw_and (pt_cmpR op_geI (pv 3) (pe_op op_powI pe_int pe_int) (nomark _)) (pw_and1 (pt_cmpR op_geI (pv 4) pe_int (nomark _))))) (pss_cons (ps_expr (pe_bm PySem.F.plainAttrs_list PySem.F.slot_list_append PySem.F.type_list_append mt_append (pv 5) (pa_cons (pe_op op_modI (pv 4) pe_int) pa_nil))) (pss_one (ps_set (i := 4) nd rfl (by first | exact Or.inl rfl | exact Or.inr rfl) (pe_op op_fdivI (pv 4) pe_int)))) (pss_cons (ps_set (i := 7) nd rfl (by first | exact Or.inl rfl | exact Or.inr rfl) (pe_op op_modI (pe_op op_addA (pe_op op_addA (pe_op op_addA (pe_op op_mulA (pe_op op_modI (pv 3) pe_int) pe_int) (pe_op op_mulA (pv 6) pe_int)) (pe_op op_mulA (pv 2) pe_int)) pe_int) pe_int)) (pss_cons (ps_set (i := 7) nd rfl (by first | exact Or.inl rfl | exact Or.inr rfl) (pe_op op_modI (pe_op op_addA (pe_op op_addA (pe_op op_mulA (pv 7) pe_int) (pe_op op_mulA (pv 6) pe_int)) (pv 2)) pe_int)) (pss_one (ps_expr (pe_bm PySem.F.plainAttrs_list PySem.F.slot_list_append PySem.F.type_list_append mt_append (pv 5) (pa_cons (pe_op op_modI (pe_op op_fdivI (pv 7) pe_int) pe_int) pa_nil))))))))) (pss_one (ps_ret (pv 5)))))))
theorem ok_law_entries (T : Txt K w mg) (G : AllOk prog w K mg base k) : FnOk prog w K mg base (L2.CX prog w) (lev (k + 1)) ((dm .law_entries).adr K) (fdAt K ((dm .law_entries).adr K)) (ps .law_entries) (Gam K w (k + 1) .law_entries) := by
  have S : FnScope N_law_entries (ps .law_entries) (defScope st_law_entries) := ⟨rfl, rfl, rfl, by decide +kernel, rfl, by decide +kernel, by decide +kernel⟩
  have nd := S.nd
  refine FunD.ok (k := 2 * k + 1) T.k.f_law_entries S (fun vs H Q E h => h.1) (fun cdv A outer s H vs Q E hr h => ⟨rd_law_entries , ?_, h.2⟩)
  have hr0 : Room (lev k) _ := hr.mono (Nat.le_succ _)
  have tk : Takes (cxOf (L2.CX prog w) prog w K mg base N_law_entries ("_law_entries" : Str) (defScope st_law_entries) ((dm .law_entries).adr K) cdv A outer s H E) (fun cls d _ H => E cls d H) := takes_of rfl rfl rfl rfl
  have hx : ∀ σ, PassesAt (L2.CX prog w) (cxOf (L2.CX prog w) prog w K mg base N_law_entries ("_law_entries" : Str) (defScope st_law_entries) ((dm .law_entries).adr K) cdv A outer s H E) σ E := fun σ => passAt tk σ
  have hpo : PassesOwn (model prog w) _ _ (cxOf (L2.CX prog w) prog w K mg base N_law_entries ("_law_entries" : Str) (defScope st_law_entries) ((dm .law_entries).adr K) cdv A outer s H E).xe := passes_of rfl
  exact (pss_one (ps_ret (pe_lst (pa_cons pe_str (pa_cons pe_str (pa_cons pe_str (pa_cons pe_str (pa_cons pe_str (pa_cons pe_str (pa_cons pe_str (pa_cons pe_str (pa_cons pe_str (pa_cons pe_str pa_nil)))))))))))))
theorem ok_law_choices (T : Txt K w mg) (G : AllOk prog w K mg base k) : FnOk prog w K mg base (L2.CX prog w) (lev (k + 1)) ((dm .law_choices).adr K) (fdAt K ((dm .law_choices).adr K)) (ps .law_choices) (Gam K w (k + 1) .law_choices) := by
  have S : FnScope N_law_choices (ps .law_choices) (defScope st_law_choices) := ⟨rfl, rfl, rfl, by decide +kernel, rfl, by decide +kernel, by decide +kernel⟩
  have nd := S.nd
  refine FunD.ok (k := 2 * k + 1) T.k.f_law_choices S (fun vs H Q E h => h.1) (fun cdv A outer s H vs Q E hr h => ⟨rd_law_choices , ?_, h.2⟩)
  have hr0 : Room (lev k) _ := hr.mono (Nat.le_succ _)
  have tk : Takes (cxOf (L2.CX prog w) prog w K mg base N_law_choices ("_law_choices" : Str) (defScope st_law_choices) ((dm .law_choices).adr K) cdv A outer s H E) (fun cls d _ H => E cls d H) := takes_of rfl rfl rfl rfl
  have hx : ∀ σ, PassesAt (L2.CX prog w) (cxOf (L2.CX prog w) prog w K mg base N_law_choices ("_law_choices" : Str) (defScope st_law_choices) ((dm .law_choices).adr K) cdv A outer s H E) σ E := fun σ => passAt tk σ
  have hpo : PassesOwn (model prog w) _ _ (cxOf (L2.CX prog w) prog w K mg base N_law_choices ("_law_choices" : Str) (defScope st_law_choices) ((dm .law_choices).adr K) cdv A outer s H E).xe := passes_of rfl
  exact (pss_cons (ps_set (i := 1) nd rfl (by first | exact Or.inl rfl | exact Or.inr rfl) (pe_disp (pps_cons pe_str pe_str (pps_cons pe_str pe_str (pps_cons pe_str pe_str (pps_cons pe_str pe_str (pps_cons pe_str pe_str (pps_cons pe_str pe_str (pps_cons pe_str pe_str pps_nil))))))) (by rfl) (by rfl) (fun z => by cases z) (by decide))) (pss_one (ps_ret (pe_splitA (pe_dget2 (hu_of hr) (pv 1) (pv 0) pe_str ⟨by rfl, by rfl, by rfl, by rfl⟩) pe_str))))
theorem ok_law_picks (T : Txt K w mg) (G : AllOk prog w K mg base k) : FnOk prog w K mg base (L2.CX prog w) (lev (k + 1)) ((dm .law_picks).adr K) (fdAt K ((dm .law_picks).adr K)) (ps .law_picks) (Gam K w (k + 1) .law_picks) := by
  have S : FnScope N_law_picks (ps .law_picks) (defScope st_law_picks) := ⟨rfl, rfl, rfl, by decide +kernel, rfl, by decide +kernel, by decide +kernel⟩
  have nd := S.nd
  refine FunD.ok (k := 2 * k + 1) T.k.f_law_picks S (fun vs H Q E h => h.1) (fun cdv A outer s H vs Q E hr h => ⟨rd_law_picks K (Gam K w k) E, ?_, h.2⟩)
  have hr0 : Room (lev k) _ := hr.mono (Nat.le_succ _)
  have tk : Takes (cxOf (L2.CX prog w) prog w K mg base N_law_picks ("_law_picks" : Str) (defScope st_law_picks) ((dm .law_picks).adr K) cdv A outer s H E) (fun cls d _ H => E cls d H) := takes_of rfl rfl rfl rfl
  have hx : ∀ σ, PassesAt (L2.CX prog w) (cxOf (L2.CX prog w) prog w K mg base N_law_picks ("_law_picks" : Str) (defScope st_law_picks) ((dm .law_picks).adr K) cdv A outer s H E) σ E := fun σ => passAt tk σ
  have hpo : PassesOwn (model prog w) _ _ (cxOf (L2.CX prog w) prog w K mg base N_law_picks ("_law_picks" : Str) (defScope st_law_picks) ((dm .law_picks).adr K) cdv A outer s H E).xe := passes_of rfl
  exact (pss_cons (ps_set (i := 1) nd rfl (by first | exact Or.inl rfl | exact Or.inr rfl) (pe_lst (pa_cons pe_str (pa_cons pe_str (pa_cons pe_str (pa_cons pe_str (pa_cons pe_str (pa_cons pe_str (pa_cons pe_str (pa_cons pe_str (pa_cons pe_str (pa_cons pe_str pa_nil)))))))))))) (pss_cons (ps_set (i := 2) nd rfl (by first | exact Or.inl rfl | exact Or.inr rfl) (pe_splitA (pe_ix ix_seq (pv 1) (pe_op op_modI (pe_ix ix_seq (pv 0) pe_int (fun _ _ => rfl)) pe_int) (fun _ _ => rfl)) pe_str)) (pss_cons (ps_set (i := 3) nd rfl (by first | exact Or.inl rfl | exact Or.inr rfl) (pe_call0S (G .law_entries) hr0 rfl T.g_law_entries (T.k.f_law_entries).kp T.k.b_law_entries_0 .nil hx)) (pss_cons (ps_set (i := 4) nd rfl (by first | exact Or.inl rfl | exact Or.inr rfl) pe_dnewK) (pss_cons (ps_for hpo rfl (pi_range1 (by rfl) T.z_range (pa_cons pe_int pa_nil)) (pg_name (i := 5) nd rfl (by first | exact Or.inl rfl | exact Or.inr rfl)) (pss_cons (ps_set (i := 6) nd rfl (by first | exact Or.inl rfl | exact Or.inr rfl) (pe_callSD (G .law_choices) hr0 rfl T.g_law_choices (T.k.f_law_choices).kp T.k.b_law_choices_1 .nil hx (pa_cons (pe_ix ix_seq (pv 3) (pv 5) (fun _ _ => rfl)) pa_nil))) (pss_one (ps_dput (hu_of hr) (pv 4) (pe_ix ix_seq (pv 3) (pv 5) (fun _ _ => rfl)) (pe_ix ix_seq (pe_lst (pa_cons (pe_ix ix_seq (pv 2) (pv 5) (fun _ _ => rfl)) (pa_cons (pe_ix ix_seq (pv 6) (pe_op op_modI (pe_ix ix_seq (pv 0) (pe_op op_addA pe_int (pv 5)) (fun _ _ => rfl)) (pe_callB call_lenA rfl T.z_len (by decide +kernel) (pa_cons (pv 6) pa_nil))) (fun _ _ => rfl)) pa_nil))) (pe_callTy call_intA rfl T.z_int (by decide +kernel) (pa_cons (pe_cmpR (op_eqA hr.units) (pe_op op_modI (pe_ix ix_seq (pv 0) pe_int (fun _ _ => rfl)) pe_int) pe_int (nomark _)) pa_nil)) (fun _ _ => rfl)) rfl)))) (pss_cons (ps_for hpo rfl (pi_range1 (by rfl) T.z_range (pa_cons (pe_op op_mulA (pe_callTy call_intA rfl T.z_int (by decide +kernel) (pa_cons (pe_cmpR (op_eqA hr.units) (pe_op op_modI (pe_ix ix_seq (pv 0) pe_int (fun _ _ => rfl)) pe_int) pe_int (nomark _)) pa_nil)) (pe_op op_addA pe_int (pe_op op_modI (pe_ix ix_seq (pv 0) pe_int (fun _ _ => rfl)) pe_int))) pa_nil)) (pg_name (i := 5) nd rfl (by first | exact Or.inl rfl | exact Or.inr rfl)) (pss_cons (ps_set (i := 7) nd rfl (by first | exact Or.inl rfl | exact Or.inr rfl) (pe_ix ix_seq (pv 3) (pe_op op_modI (pe_ix ix_seq (pv 0) (pe_op op_addA pe_int (pe_op op_mulA pe_int (pv 5))) (fun _ _ => rfl)) pe_int) (fun _ _ => rfl))) (pss_cons (ps_set (i := 6) nd rfl (by first | exact Or.inl rfl | exact Or.inr rfl) (pe_callSD (G .law_choices) hr0 rfl T.g_law_choices (T.k.f_law_choices).kp T.k.b_law_choices_1 .nil hx (pa_cons (pv 7) pa_nil))) (pss_one (ps_dput (hu_of hr) (pv 4) (pv 7) (pe_ix ix_seq (pv 6) (pe_op op_modI (pe_ix ix_seq (pv 0) (pe_op op_addA pe_int (pe_op op_mulA pe_int (pv 5))) (fun _ _ => rfl)) (pe_callB call_lenA rfl T.z_len (by decide +kernel) (pa_cons (pv 6) pa_nil))) (fun _ _ => rfl)) rfl))))) (pss_one (ps_ret (pv 4)))))))))
theorem ok_law_book (T : Txt K w mg) (G : AllOk prog w K mg base k) : FnOk prog w K mg base (L2.CX prog w) (lev (k + 1)) ((dm .law_book).adr K) (fdAt K ((dm .law_book).adr K)) (ps .law_book) (Gam K w (k + 1) .law_book) := by
  have S : FnScope N_law_book (ps .law_book) (defScope st_law_book) := ⟨rfl, rfl, rfl, by decide +kernel, rfl, by decide +kernel, by decide +kernel⟩
  have nd := S.nd
  obtain ⟨_, hv_Book_init_1, hb_Book_init_1⟩ := T.k.b_Book_init_1
  refine FunD.ok (k := 2 * k + 1) T.k.f_law_book S (fun vs H Q E h => h.1) (fun cdv A outer s H vs Q E hr h => ⟨rd_law_book K (Gam K w k) E, ?_, h.2⟩)
  have hr0 : Room (lev k) _ := hr.mono (Nat.le_succ _)
  have tk : Takes (cxOf (L2.CX prog w) prog w K mg base N_law_book ("_law_book" : Str) (defScope st_law_book) ((dm .law_book).adr K) cdv A outer s H E) (fun cls d _ H => E cls d H) := takes_of rfl rfl rfl rfl
  have hx : ∀ σ, PassesAt (L2.CX prog w) (cxOf (L2.CX prog w) prog w K mg base N_law_book ("_law_book" : Str) (defScope st_law_book) ((dm .law_book).adr K) cdv A outer s H E) σ E := fun σ => passAt tk σ
  have hpo : PassesOwn (model prog w) _ _ (cxOf (L2.CX prog w) prog w K mg base N_law_book ("_law_book" : Str) (defScope st_law_book) ((dm .law_book).adr K) cdv A outer s H E).xe := passes_of rfl
  exact (pss_cons (ps_set (i := 1) nd rfl (by first | exact Or.inl rfl | exact Or.inr rfl) (pe_make0S T.k.mk_Book (G .Book_init) hr rfl T.g_Book hb_Book_init_1 hv_Book_init_1 hx)) (pss_cons (ps_for hpo rfl (pi_list (pe_call0S (G .law_entries) hr0 rfl T.g_law_entries (T.k.f_law_entries).kp T.k.b_law_entries_0 .nil hx)) (pg_name (i := 2) nd rfl (by first | exact Or.inl rfl | exact Or.inr rfl)) (pss_one (ps_ownPut (G .Book_setitem) hr0 T.k.b_Book_setitem_3 hx T.k.sp_Book_setitem T.k.ns_Book (pv 1) (pv 2) (pe_dget (hu_of hr) (pv 0) (pv 2) (fun _ _ => rfl)) rfl))) (pss_one (ps_ret (pv 1)))))
theorem ok_law_refused (T : Txt K w mg) (G : AllOk prog w K mg base k) : FnOk prog w K mg base (L2.CX prog w) (lev (k + 1)) ((dm .law_refused).adr K) (fdAt K ((dm .law_refused).adr K)) (ps .law_refused) (Gam K w (k + 1) .law_refused) := by
  have S : FnScope N_law_refused (ps .law_refused) (defScope st_law_refused) := ⟨rfl, rfl, rfl, by decide +kernel, rfl, by decide +kernel, by decide +kernel⟩
  have nd := S.nd
  refine FunD.ok (k := 2 * k + 1) T.k.f_law_refused S (fun vs H Q E h => h.1) (fun cdv A outer s H vs Q E hr h => ⟨rd_law_refused K (Gam K w k) E, ?_, h.2⟩)
  have hr0 : Room (lev k) _ := hr.mono (Nat.le_succ _)
  have tk : Takes (cxOf (L2.CX prog w) prog w K mg base N_law_refused ("_law_refused" : Str) (defScope st_law_refused) ((dm .law_refused).adr K) cdv A outer s H E) (fun cls d _ H => E cls d H) := takes_of rfl rfl rfl rfl
  have hx : ∀ σ, PassesAt (L2.CX prog w) (cxOf (L2.CX prog w) prog w K mg base N_law_refused ("_law_refused" : Str) (defScope st_law_refused) ((dm .law_refused).adr K) cdv A outer s H E) σ E := fun σ => passAt tk σ
  have hpo : PassesOwn (model prog w) _ _ (cxOf (L2.CX prog w) prog w K mg base N_law_refused ("_law_refused" : Str) (defScope st_law_refused) ((dm .law_refused).adr K) cdv A outer s H E).xe := passes_of rfl
  exact (pss_cons (ps_try_as (i := 1) rfl rfl nd rfl rfl (by exact ⟨rfl, by decide, .inl T.g_InvalidBook⟩) tk (fun W pn xe tk hpo => (pss_one (ps_expr (pe_callSD (G .read_book) hr0 (by rfl) T.g_read_book (T.k.f_read_book).kp T.k.b_read_book_1 .nil (fun σ => passAt tk σ) (pa_cons (pv 0) pa_nil))))) (fun a oe cls d pn hz hf => (pss_one (ps_ret (pe_callB (call_isX T.k.ec_InvalidBook hz hf) (by rfl) T.z_isinstance (by decide +kernel) (pa_cons (pv 1) (pa_cons (pe_bltn (by rfl) T.z_ValueError (by decide +kernel) rfl) pa_nil))))))) (pss_one (ps_ret pe_bl)))
theorem ok_law_spoilt (T : Txt K w mg) (G : AllOk prog w K mg base k) : FnOk prog w K mg base (L2.CX prog w) (lev (k + 1)) ((dm .law_spoilt).adr K) (fdAt K ((dm .law_spoilt).adr K)) (ps .law_spoilt) (Gam K w (k + 1) .law_spoilt) := by
  have S : FnScope N_law_spoilt (ps .law_spoilt) (defScope st_law_spoilt) := ⟨rfl, rfl, rfl, by decide +kernel, rfl, by decide +kernel, by decide +kernel⟩
  have nd := S.nd
  refine FunD.ok (k := 2 * k + 1) T.k.f_law_spoilt S (fun vs H Q E h => h.1) (fun cdv A outer s H vs Q E hr h => ⟨rd_law_spoilt K, ?_, h.2⟩)
  have hr0 : Room (lev k) _ := hr.mono (Nat.le_succ _)
  have tk : Takes (cxOf (L2.CX prog w) prog w K mg base N_law_spoilt ("_law_spoilt" : Str) (defScope st_law_spoilt) ((dm .law_spoilt).adr K) cdv A outer s H E) (fun cls d _ H => E cls d H) := takes_of rfl rfl rfl rfl
  have hx : ∀ σ, PassesAt (L2.CX prog w) (cxOf (L2.CX prog w) prog w K mg base N_law_spoilt ("_law_spoilt" : Str) (defScope st_law_spoilt) ((dm .law_spoilt).adr K) cdv A outer s H E) σ E := fun σ => passAt tk σ
  have hpo : PassesOwn (model prog w) _ _ (cxOf (L2.CX prog w) prog w K mg base N_law_spoilt ("_law_spoilt" : Str) (defScope st_law_spoilt) ((dm .law_spoilt).adr K) cdv A outer s H E).xe := passes_of rfl
  exact (pss_cons (ps_set (i := 3) nd rfl (by first | exact Or.inl rfl | exact Or.inr rfl) (pe_joinA pe_str (pv 0))) (pss_cons (ps_set (i := 4) nd rfl (by first | exact Or.inl rfl | exact Or.inr rfl) (pe_op op_modI (pe_op op_addA (pv 2) pe_int) pe_int)) (pss_cons (ps_set (i := 5) nd rfl (by first | exact Or.inl rfl | exact Or.inr rfl) (pe_callTy call_listA rfl T.z_list (by decide +kernel) (pa_cons (pv 0) pa_nil))) (pss_cons (ps_if (pt_cmpR (op_eqA hr.units) (pv 1) pe_int (nomark _)) (pss_cons (ps_asg (pe_ix ix_seq (pv 0) (pv 4) (fun _ _ => rfl)) (pg_sub (pv 5) (pv 2) set_list)) (pss_cons (ps_asg (pe_ix ix_seq (pv 0) (pv 2) (fun _ _ => rfl)) (pg_sub (pv 5) (pv 4) set_list)) (pss_one (ps_ret (pe_joinA pe_str (pv 5)))))) pss_nil) (pss_cons (ps_if (pt_cmpR (op_eqA hr.units) (pv 1) pe_int (nomark _)) (pss_one (ps_ret (pe_joinA pe_str (pe_op op_addA (pe_slice sl_Any (pv 0) po_none (po_some (pv 2))) (pe_slice sl_Any (pv 0) (po_some (pe_op op_addA (pv 2) pe_int)) po_none))))) pss_nil) (pss_cons (ps_if (pt_cmpR (op_eqA hr.units) (pv 1) pe_int (nomark _)) (pss_one (ps_ret (pe_joinA pe_str (pe_op op_addA (pe_op op_addA (pe_slice sl_Any (pv 0) po_none (po_some (pv 2))) (pe_lst (pa_cons (pe_ix ix_seq (pv 0) (pv 2) (fun _ _ => rfl)) pa_nil))) (pe_slice sl_Any (pv 0) (po_some (pv 2)) po_none))))) pss_nil) (pss_cons (ps_if (pt_cmpR op_ltI (pv 1) pe_int (nomark _)) (pss_cons (ps_set (i := 6) nd rfl (by first | exact Or.inl rfl | exact Or.inr rfl) (pe_lst (pa_cons pe_str (pa_cons pe_str (pa_cons pe_str (pa_cons pe_str (pa_cons pe_str (pa_cons pe_str (pa_cons pe_str pa_nil))))))))) (pss_cons (ps_set (i := 7) nd rfl (by first | exact Or.inl rfl | exact Or.inr rfl) (pe_lst (pa_cons pe_str (pa_cons pe_str (pa_cons pe_str (pa_cons pe_str (pa_cons pe_str (pa_cons pe_str (pa_cons pe_str pa_nil))))))))) (pss_cons (ps_set (i := 8) nd rfl (by first | exact Or.inl rfl | exact Or.inr rfl) (pe_ix ix_seq (pe_splitA (pe_ix ix_seq (pv 0) (pv 2) (fun _ _ => rfl)) pe_str) pe_int (fun _ _ => rfl))) (pss_cons (ps_asg (pe_op op_addA (pe_op op_addA (pe_op op_addA (pv 8) (pe_ix ix_seq (pv 6) (pe_op op_subI (pv 1) pe_int) (fun _ _ => rfl))) (pe_ix ix_seq (pv 7) (pe_op op_subI (pv 1) pe_int) (fun _ _ => rfl))) (pe_op op_mulA pe_str (pe_callTy call_intA rfl T.z_int (by decide +kernel) (pa_cons (pe_cmpR (op_eqA hr.units) (pv 1) pe_int (nomark _)) pa_nil)))) (pg_sub (pv 5) (pv 2) set_list)) (pss_one (ps_ret (pe_joinA pe_str (pv 5)))))))) pss_nil) (pss_one (ps_ret (pe_ix ix_seq (pe_lst (pa_first (pep_addS op_addA (pv 3)) (pat_cons (CwR.PET.of (pe_op op_addA pe_str (pv 3))) (pat_cons (CwR.PET.of (pe_op op_addA (pv 3) pe_str)) (pat_cons (CwR.PET.of (pe_upperA (pv 3))) (pat_cons (CwR.pet_replC (pv 3)) pat_nil)))))) (pe_op op_subI (pv 1) pe_int) (fun _ _ => rfl)))))))))))
theorem ok_law (T : Txt K w mg) (G : AllOk prog w K mg base k) : FnOk prog w K mg base (L2.CX prog w) (lev (k + 1)) ((dm .law).adr K) (fdAt K ((dm .law).adr K)) (ps .law) (Gam K w (k + 1) .law) := by
  have S : FnScope N_law (ps .law) (defScope st_law) := ⟨rfl, rfl, rfl, by decide +kernel, rfl, by decide +kernel, by decide +kernel⟩
  have nd := S.nd
  refine FunD.ok (k := 2 * k + 1) T.k.f_law S (fun vs H Q E h => h.1) (fun cdv A outer s H vs Q E hr h => ⟨rd_law K (Gam K w k) E, ?_, h.2⟩)
  have hr0 : Room (lev k) _ := hr.mono (Nat.le_succ _)
  have tk : Takes (cxOf (L2.CX prog w) prog w K mg base N_law ("law" : Str) (defScope st_law) ((dm .law).adr K) cdv A outer s H E) (fun cls d _ H => E cls d H) := takes_of rfl rfl rfl rfl
  have hx : ∀ σ, PassesAt (L2.CX prog w) (cxOf (L2.CX prog w) prog w K mg base N_law ("law" : Str) (defScope st_law) ((dm .law).adr K) cdv A outer s H E) σ E := fun σ => passAt tk σ
  have hpo : PassesOwn (model prog w) _ _ (cxOf (L2.CX prog w) prog w K mg base N_law ("law" : Str) (defScope st_law) ((dm .law).adr K) cdv A outer s H E).xe := passes_of rfl
  exact (pss_cons (ps_set (i := 1) nd rfl (by first | exact Or.inl rfl | exact Or.inr rfl) (pe_callSD (G .law_picks) hr0 rfl T.g_law_picks (T.k.f_law_picks).kp T.k.b_law_picks_1 .nil hx (pa_cons (pe_callSD (G .law_draws) hr0 rfl T.g_law_draws (T.k.f_law_draws).kp T.k.b_law_draws_3 .nil hx (pa_cons (pe_callSD (G .law_cell) hr0 rfl T.g_law_cell (T.k.f_law_cell).kp T.k.b_law_cell_2 .nil hx (pa_cons (pv 0) (pa_cons pe_int pa_nil))) (pa_cons pe_int (pa_cons pe_int pa_nil)))) pa_nil))) (pss_cons (ps_setLc (i := 2) (own := [(("_law_name" : Str), 3)]) (by rfl) nd rfl rfl (sw_true rfl rfl rfl (by decide +kernel)) (pi_list (pe_call0S (G .law_entries) hr0 rfl T.g_law_entries (T.k.f_law_entries).kp T.k.b_law_entries_0 .nil hx)) (blkOk_by (own := [(("_law_name" : Str), 3)]) (N := N_law) (sc := defScope st_law) (by decide +kernel)) (fun _ _ _ _ _ => pg_name (i := 3) nd rfl (Or.inl rfl)) (fun _ _ _ _ _ => pts_nil) (fun _ _ _ _ _ => (pe_op op_addA (pe_op op_addA (pv 3) pe_str) (pe_dget (hu_of hr) (pv 1) (pv 3) (fun _ _ => rfl))))) (pss_cons (ps_set (i := 4) nd rfl (by first | exact Or.inl rfl | exact Or.inr rfl) (pe_joinA pe_str (pv 2))) (pss_cons (ps_set (i := 5) nd rfl (by first | exact Or.inl rfl | exact Or.inr rfl) (pe_callSD (G .law_book) hr0 rfl T.g_law_book (T.k.f_law_book).kp T.k.b_law_book_1 .nil hx (pa_cons (pv 1) pa_nil))) (pss_cons (ps_if (PW.pt (pw_or (pt_cmpR (op_neA hr.units) (pe_meth0S (pv 5) T.k.c_Book T.k.me_Book_text (G .Book_text) hr0 T.k.b_Book_text_1 .nil hx) (pv 4) (nomark _)) (pw_or1 (pt_not (pt_val (pe_callB call_isi rfl T.z_isinstance (by decide +kernel) (pa_cons (pe_meth0S (pv 5) T.k.c_Book T.k.me_Book_text (G .Book_text) hr0 T.k.b_Book_text_1 .nil hx) (pa_cons (pe_bltn rfl T.z_str (by decide +kernel) rfl) pa_nil)))))))) (pss_one (ps_ret pe_bl)) pss_nil) (pss_cons (ps_set (i := 6) nd rfl (by first | exact Or.inl rfl | exact Or.inr rfl) (pe_callSD (G .read_book) hr0 rfl T.g_read_book (T.k.f_read_book).kp T.k.b_read_book_1 .nil hx (pa_cons (pv 4) pa_nil))) (pss_cons (ps_for hpo rfl (pi_list (pe_call0S (G .law_entries) hr0 rfl T.g_law_entries (T.k.f_law_entries).kp T.k.b_law_entries_0 .nil hx)) (pg_name (i := 3) nd rfl (by first | exact Or.inl rfl | exact Or.inr rfl)) (pss_one (ps_if (pt_cmpR (op_neA hr.units) (pe_ownIx (G .Book_getitem) hr T.k.b_Book_getitem_2 hx T.k.sp_Book_getitem T.k.fi_Book_getitem (pv 6) (pv 3)) (pe_dget (hu_of hr) (pv 1) (pv 3) (fun _ _ => rfl)) (nomark _)) (pss_one (ps_ret pe_bl)) pss_nil))) (pss_cons (ps_if (pt_not (pt_val (pe_callSD (G .law_refused) hr0 rfl T.g_law_refused (T.k.f_law_refused).kp T.k.b_law_refused_1 .nil hx (pa_cons (pe_callSD (G .law_spoilt) hr0 rfl T.g_law_spoilt (T.k.f_law_spoilt).kp T.k.b_law_spoilt_3 .nil hx (pa_cons (pv 2) (pa_cons (pe_op op_modI (pe_callSD (G .law_cell) hr0 rfl T.g_law_cell (T.k.f_law_cell).kp T.k.b_law_cell_2 .nil hx (pa_cons (pv 0) (pa_cons pe_int pa_nil))) pe_int) (pa_cons (pe_op op_modI (pe_callSD (G .law_cell) hr0 rfl T.g_law_cell (T.k.f_law_cell).kp T.k.b_law_cell_2 .nil hx (pa_cons (pv 0) (pa_cons pe_int pa_nil))) pe_int) pa_nil)))) pa_nil)))) (pss_one (ps_ret pe_bl)) pss_nil) (pss_one (ps_ret (pe_and (pe_callSD (G .law_refused) hr0 rfl T.g_law_refused (T.k.f_law_refused).kp T.k.b_law_refused_1 .nil hx (pa_cons pe_str pa_nil)) (pe_and (pe_cmpR (rc_own (op := .Eq) (G .Book_eq) hr0 T.k.b_Book_eq_2 T.k.nf_Book T.k.sp_Book_eq) (pe_callSD (G .read_book) hr0 rfl T.g_read_book (T.k.f_read_book).kp T.k.b_read_book_1 .nil hx (pa_cons (pv 4) pa_nil)) (pv 5) (nomark _)) (pe_one (pe_cmpR (rc_own (op := .Eq) (G .Book_eq) hr0 T.k.b_Book_eq_2 T.k.nf_Book T.k.sp_Book_eq) (pv 6) (pv 5) (nomark _)))))))))))))))
end
theorem ok_zero {w : World} {K : PySem.W.Frag} {mg : Str → Option Value} {base : Heap} : AllOk prog w K mg base 0 := fun f => ⟨fun _ _ _ _ h => h.elim, fun _ _ _ _ _ _ _ _ _ _ _ _ _ h => h.elim⟩
theorem ok_all {w : World} {K : PySem.W.Frag} {mg : Str → Option Value} {base : Heap} (T : Txt K w mg) : ∀ k, AllOk prog w K mg base k
  | 0 => ok_zero
  | k + 1 => fun f => match f with
    | .Book_init => ok_Book_init T (ok_all T k)
    | .Book_getitem => ok_Book_getitem T (ok_all T k)
    | .Book_setitem => ok_Book_setitem T (ok_all T k)
    | .Book_eq => ok_Book_eq T (ok_all T k)
    | .Book_text => ok_Book_text T (ok_all T k)
    | .read_book => ok_read_book T (ok_all T k)
    | .law_cell => ok_law_cell T (ok_all T k)
    | .law_draws => ok_law_draws T (ok_all T k)
    | .law_entries => ok_law_entries T (ok_all T k)
    | .law_choices => ok_law_choices T (ok_all T k)
    | .law_picks => ok_law_picks T (ok_all T k)
    | .law_book => ok_law_book T (ok_all T k)
    | .law_refused => ok_law_refused T (ok_all T k)
    | .law_spoilt => ok_law_spoilt T (ok_all T k)
    | .law => ok_law T (ok_all T k)
end L2.MP

set_option Elab.async false
set_option linter.all false
set_option maxRecDepth 100000
set_option maxHeartbeats 4000000
namespace L2.MP
open PySem PySem.Spec PyProof.Rows TL
/-! ### the plain law: spoilt texts are no books -/
def EC (f : Str → Str) (e : Str) : Str := e ++ ("=" : Str) ++ f e
def PLs (f : Str → Str) : List Str := ENT.map (EC f)
def tx (P : List Str) : Str := Txt.join (" " : Str) P
def svN (l : List Str) (j : Nat) : Str := l.getD j ("" : Str)
def cutOf (P : List Str) (j : Nat) : Str := cutS (svN P j) (some (((svN ENT j).length : Int) + 1)) none
def okAt (P : List Str) (j : Nat) : Bool := Txt.startswith (svN P j) (svN ENT j ++ ("=" : Str)) && decide (cutOf P j ∈ chs (svN ENT j))
def rbOk (P : List Str) : Bool := decide (P.length = 10) && (List.range 10).all (okAt P)
theorem tl_sp : tl (" " : Str) = [32] := by decide +kernel
theorem spl_len : ∀ (L acc : List Nat), (spl [32] 0 acc L).length = L.count 32 + 1
  | [], acc => by rw [spl_nil]; rfl
  | c :: r, acc => by
    by_cases h : c = 32
    · subst h
      rw [spl_hit rfl, List.length_cons, List.count_cons_self]
      show (spl [32] 0 [] r).length + 1 = _
      rw [spl_len r []]
    · have hp : pre [32] (c :: r) = false := by simp [pre, h]
      rw [spl_miss hp, spl_len r, List.count_cons_of_ne h]
theorem split_len (x : Str) : (Txt.split x (" " : Str)).length = (tl x).count 32 + 1 := by
  have h := split_spl x (" " : Str) (by rw [tl_sp]; simp) (kind_ok (by decide +kernel))
  rw [← List.length_map (f := tl), h, tl_sp, spl_len]
theorem tl_tx (P : List Str) : tl (tx P) = joinL [32] (P.map tl) := by
  unfold tx
  rw [join_eq, tl_join, tl_sp]
theorem count_join : ∀ ls : List (List Nat), ls ≠ [] → (joinL [32] ls).count 32 + 1 = ls.length + (ls.map (List.count 32)).sum
  | [], h => (h rfl).elim
  | [p], _ => by simp [joinL]; omega
  | p :: q :: r, _ => by
    have ih := count_join (q :: r) (by simp)
    show (p ++ ([32] ++ joinL [32] (q :: r))).count 32 + 1 = _
    rw [List.count_append, List.count_append]
    simp only [List.map_cons, List.sum_cons, List.length_cons] at ih ⊢
    have : List.count 32 [32] = 1 := rfl
    omega
theorem ec_ok : ∀ e ∈ ENT, ∀ c ∈ chs e, (tl (e ++ ("=" : Str) ++ c)).count 32 = 0 ∧ (tl (e ++ ("=" : Str) ++ c)).all (· < 128) = true := by decide +kernel
theorem ec_at : ∀ j < 10, ∀ c ∈ chs (svN ENT j), (Txt.startswith (svN ENT j ++ ("=" : Str) ++ c) (svN ENT j ++ ("=" : Str)) && decide (cutS (svN ENT j ++ ("=" : Str) ++ c) (some (((svN ENT j).length : Int) + 1)) none = c)) = true := by decide +kernel
theorem svN_mem : ∀ j < 10, svN ENT j ∈ ENT := by decide +kernel
theorem ent10 : ENT.length = 10 := by decide +kernel
theorem PLs_len {f : Str → Str} : (PLs f).length = 10 := by unfold PLs; rw [List.length_map, ent10]
theorem PLs_at {f : Str → Str} {j : Nat} (h : j < 10) : (PLs f)[j]? = some (EC f (svN ENT j)) := by
  unfold PLs svN
  rw [List.getElem?_map, List.getElem?_eq_getElem (by rw [ent10]; exact h), List.getD_eq_getElem?_getD, List.getElem?_eq_getElem (by rw [ent10]; exact h)]
  rfl
theorem PLs_sv {f : Str → Str} {j : Nat} (h : j < 10) : svN (PLs f) j = EC f (svN ENT j) := by
  unfold svN
  rw [List.getD_eq_getElem?_getD, PLs_at h]
  rfl
def nosp (x : Str) : Prop := (tl x).count 32 = 0
theorem nosp_PLs {f : Str → Str} (g : Good f) : ∀ x ∈ PLs f, nosp x := by
  intro x hx
  obtain ⟨e, he, rfl⟩ := List.mem_map.mp hx
  exact (ec_ok e he (f e) (g e he)).1
theorem split_tx {P : List Str} (hne : P ≠ []) (h : ∀ x ∈ P, nosp x) : Txt.split (tx P) (" " : Str) = P :=
  split_join (s := 32) (S := []) tl_sp (by decide +kernel) hne fun p hp => List.count_eq_zero.mp (h p hp)
theorem sum_zero {P : List Str} (h : ∀ x ∈ P, nosp x) : ((P.map tl).map (List.count 32)).sum = 0 := by
  induction P with
  | nil => rfl
  | cons x r ih =>
    simp only [List.map_cons, List.sum_cons]
    rw [show (tl x).count 32 = 0 from h x List.mem_cons_self, ih fun y hy => h y (List.mem_cons_of_mem _ hy)]
theorem count_tx {P : List Str} (hne : P ≠ []) : (tl (tx P)).count 32 + 1 = P.length + ((P.map tl).map (List.count 32)).sum := by
  rw [tl_tx]
  have := count_join (P.map tl) (by simpa using hne)
  rw [List.length_map] at this
  exact this
theorem bad_len {P : List Str} (h : P.length ≠ 10) : rbOk P = false := by unfold rbOk; rw [decide_eq_false h]; rfl
theorem bad_at {P : List Str} {j : Nat} (hj : j < 10) (h : okAt P j = false) : rbOk P = false := by
  unfold rbOk
  rw [Bool.and_eq_false_iff]
  right
  rw [List.all_eq_false]
  exact ⟨j, List.mem_range.mpr hj, by rw [h]; simp⟩
theorem good_ok {f : Str → Str} (g : Good f) : rbOk (PLs f) = true ∧ ∀ j < 10, okAt (PLs f) j = true ∧ cutOf (PLs f) j = f (svN ENT j) := by
  have h : ∀ j < 10, okAt (PLs f) j = true ∧ cutOf (PLs f) j = f (svN ENT j) := fun j hj => by
    have q := ec_at j hj (f (svN ENT j)) (g _ (svN_mem j hj))
    rw [Bool.and_eq_true, decide_eq_true_eq] at q
    unfold okAt cutOf
    rw [PLs_sv hj]
    refine ⟨?_, q.2⟩
    rw [show EC f (svN ENT j) = svN ENT j ++ ("=" : Str) ++ f (svN ENT j) from rfl, q.1, q.2, decide_eq_true (g _ (svN_mem j hj))]
    rfl
  refine ⟨?_, h⟩
  unfold rbOk
  rw [decide_eq_true PLs_len, Bool.true_and, List.all_eq_true]
  intro j hj
  exact (h j (List.mem_range.mp hj)).1
theorem split_PLs {f : Str → Str} (g : Good f) : Txt.split (tx (PLs f)) (" " : Str) = PLs f := split_tx (fun z => by have := PLs_len (f := f); rw [z] at this; cases this) (nosp_PLs g)
/-- a text with another number of spaces -/
theorem bad_sp {x : Str} (h : (tl x).count 32 ≠ 9) : rbOk (Txt.split x (" " : Str)) = false := bad_len (by rw [split_len]; omega)
theorem cnt_PLs {f : Str → Str} (g : Good f) : (tl (tx (PLs f))).count 32 = 9 := by
  have := count_tx (P := PLs f) (fun z => by have := PLs_len (f := f); rw [z] at this; cases this)
  rw [sum_zero (nosp_PLs g), PLs_len] at this
  omega
/-- an element put in the place of another one -/
theorem bad_set {f : Str → Str} (g : Good f) {at_ : Nat} (h : at_ < 10) {x : Str} (hx : nosp x) (hb : (Txt.startswith x (svN ENT at_ ++ ("=" : Str)) && decide (cutS x (some (((svN ENT at_).length : Int) + 1)) none ∈ chs (svN ENT at_))) = false) :
    rbOk (Txt.split (tx ((PLs f).set at_ x)) (" " : Str)) = false := by
  have hl : ((PLs f).set at_ x).length = 10 := by rw [List.length_set, PLs_len]
  rw [split_tx (fun z => by rw [z] at hl; cases hl) fun y hy => (List.mem_or_eq_of_mem_set hy).elim (nosp_PLs g y) fun e => e ▸ hx]
  refine bad_at h ?_
  have e : svN ((PLs f).set at_ x) at_ = x := by
    unfold svN
    rw [List.getD_eq_getElem?_getD, List.getElem?_set_self (by rw [PLs_len]; exact h)]
    rfl
  unfold okAt cutOf
  rw [e]
  exact hb
def SIG : List Str := [("" : Str), ("=" : Str), (" =" : Str), ("= " : Str), (":" : Str), ("=x" : Str), ("==" : Str)]
def FIN : List Str := [("" : Str), ("stop" : Str), ("stop" : Str), ("stop" : Str), ("stop" : Str), ("" : Str), ("stop" : Str)]
def bentW (j way : Nat) : Str := svN ENT j ++ svN SIG (way - 2) ++ svN FIN (way - 2) ++ Txt.mul ("X" : Str) (if way = 3 then 1 else 0)
theorem bent_ok : ∀ j < 10, ∀ way ∈ [3, 6, 7, 8], (tl (bentW j way)).count 32 = 0 ∧ (Txt.startswith (bentW j way) (svN ENT j ++ ("=" : Str)) && decide (cutS (bentW j way) (some (((svN ENT j).length : Int) + 1)) none ∈ chs (svN ENT j))) = false := by decide +kernel
theorem bent_sp : ∀ j < 10, ∀ way ∈ [4, 5], (tl (bentW j way)).count 32 = 1 := by decide +kernel
theorem swap_ok : ∀ j < 10, ∀ c ∈ chs (svN ENT ((j + 1) % 10)), (Txt.startswith (svN ENT ((j + 1) % 10) ++ ("=" : Str) ++ c) (svN ENT j ++ ("=" : Str))) = false := by decide +kernel
def spo (P : List Str) (way at_ : Nat) : Str :=
  if way = 0 then tx ((P.set at_ (svN P ((at_ + 1) % 10))).set ((at_ + 1) % 10) (svN P at_))
  else if way = 1 then tx (P.take at_ ++ P.drop (at_ + 1))
  else if way = 2 then tx (P.take at_ ++ [svN P at_] ++ P.drop at_)
  else if way < 9 then tx (P.set at_ (bentW at_ way))
  else svN [tx P ++ (" " : Str), (" " : Str) ++ tx P, tx P ++ ("\n" : Str), Txt.upper (tx P), Txt.replace (tx P) (" " : Str) ("  " : Str)] (way - 9)
theorem tx_sp {P : List Str} (h : P.length ≠ 10) (hne : P ≠ []) (hn : ∀ x ∈ P, nosp x) : rbOk (Txt.split (tx P) (" " : Str)) = false := by rw [split_tx hne hn]; exact bad_len h
theorem nosp_sv {f : Str → Str} (g : Good f) {j : Nat} (h : j < 10) : nosp (svN (PLs f) j) := by
  rw [PLs_sv h]; exact (ec_ok _ (svN_mem j h) _ (g _ (svN_mem j h))).1
theorem bad0 {f : Str → Str} (g : Good f) {j : Nat} (h : j < 10) : rbOk (Txt.split (spo (PLs f) 0 j) (" " : Str)) = false := by
  have h2 : (j + 1) % 10 < 10 := Nat.mod_lt _ (by decide)
  show rbOk (Txt.split (tx (((PLs f).set j (svN (PLs f) ((j + 1) % 10))).set ((j + 1) % 10) (svN (PLs f) j))) (" " : Str)) = false
  have hl : (((PLs f).set j (svN (PLs f) ((j + 1) % 10))).set ((j + 1) % 10) (svN (PLs f) j)).length = 10 := by rw [List.length_set, List.length_set, PLs_len]
  rw [split_tx (fun z => by rw [z] at hl; cases hl) fun y hy => (List.mem_or_eq_of_mem_set hy).elim (fun hy => (List.mem_or_eq_of_mem_set hy).elim (nosp_PLs g y) fun e => e ▸ nosp_sv g h2) fun e => e ▸ nosp_sv g h]
  refine bad_at h ?_
  have e : svN (((PLs f).set j (svN (PLs f) ((j + 1) % 10))).set ((j + 1) % 10) (svN (PLs f) j)) j = EC f (svN ENT ((j + 1) % 10)) := by
    unfold svN
    rw [List.getD_eq_getElem?_getD, List.getElem?_set_ne (by omega), List.getElem?_set_self (by rw [PLs_len]; exact h)]
    exact PLs_sv h2
  unfold okAt
  rw [e, show EC f (svN ENT ((j + 1) % 10)) = svN ENT ((j + 1) % 10) ++ ("=" : Str) ++ f (svN ENT ((j + 1) % 10)) from rfl, swap_ok j h _ (g _ (svN_mem _ h2))]
  rfl
theorem bad1 {f : Str → Str} (g : Good f) {j : Nat} (h : j < 10) : rbOk (Txt.split (spo (PLs f) 1 j) (" " : Str)) = false := by
  have hl : ((PLs f).take j ++ (PLs f).drop (j + 1)).length = 9 := by rw [List.length_append, List.length_take, List.length_drop, PLs_len]; omega
  exact tx_sp (by rw [hl]; decide) (fun z => by rw [z] at hl; cases hl) fun y hy => nosp_PLs g y ((List.mem_append.mp hy).elim List.mem_of_mem_take List.mem_of_mem_drop)
theorem bad2 {f : Str → Str} (g : Good f) {j : Nat} (h : j < 10) : rbOk (Txt.split (spo (PLs f) 2 j) (" " : Str)) = false := by
  have hl : ((PLs f).take j ++ [svN (PLs f) j] ++ (PLs f).drop j).length = 11 := by rw [List.length_append, List.length_append, List.length_take, List.length_drop, PLs_len]; simp; omega
  refine tx_sp (P := (PLs f).take j ++ [svN (PLs f) j] ++ (PLs f).drop j) (by rw [hl]; decide) (fun z => by rw [z] at hl; cases hl) fun y hy => ?_
  rcases List.mem_append.mp hy with hy | hy
  · rcases List.mem_append.mp hy with hy | hy
    · exact nosp_PLs g y (List.mem_of_mem_take hy)
    · rw [List.mem_singleton.mp hy]; exact nosp_sv g h
  · exact nosp_PLs g y (List.mem_of_mem_drop hy)
theorem badB {f : Str → Str} (g : Good f) {j way : Nat} (h : j < 10) (h1 : 3 ≤ way) (h2 : way < 9) : rbOk (Txt.split (spo (PLs f) way j) (" " : Str)) = false := by
  have e : spo (PLs f) way j = tx ((PLs f).set j (bentW j way)) := by
    unfold spo
    rw [if_neg (by omega), if_neg (by omega), if_neg (by omega), if_pos h2]
  rw [e]
  by_cases hw : way = 4 ∨ way = 5
  · refine bad_sp fun hc => ?_
    have hb := bent_sp j h way (by simpa using hw)
    have hl : ((PLs f).set j (bentW j way)).length = 10 := by rw [List.length_set, PLs_len]
    have q := count_tx (P := (PLs f).set j (bentW j way)) (fun z => by rw [z] at hl; cases hl)
    rw [hl, hc, List.set_eq_take_append_cons_drop, if_pos (by rw [PLs_len]; exact h), List.map_append, List.map_append, List.sum_append, List.map_cons, List.map_cons, List.sum_cons, hb,
      sum_zero fun x hx => nosp_PLs g x (List.mem_of_mem_take hx), sum_zero fun x hx => nosp_PLs g x (List.mem_of_mem_drop hx)] at q
    omega
  · have hm : way ∈ [3, 6, 7, 8] := by simp; omega
    obtain ⟨b1, b2⟩ := bent_ok j h way hm
    exact bad_set g h b1 b2
theorem bad9 {f : Str → Str} (g : Good f) (j : Nat) : rbOk (Txt.split (spo (PLs f) 9 j) (" " : Str)) = false := by
  refine bad_sp (x := tx (PLs f) ++ (" " : Str)) ?_
  rw [tl_append, List.count_append, cnt_PLs g, tl_sp]
  decide
theorem bad10 {f : Str → Str} (g : Good f) (j : Nat) : rbOk (Txt.split (spo (PLs f) 10 j) (" " : Str)) = false := by
  refine bad_sp (x := (" " : Str) ++ tx (PLs f)) ?_
  rw [tl_append, List.count_append, cnt_PLs g, tl_sp]
  decide
theorem PLs_eq {f : Str → Str} : PLs f = [EC f "work", EC f "write", EC f "meet", EC f "test", EC f "partly", EC f "value", EC f "path", EC f "loop", EC f "guard", EC f "call"] := rfl
theorem nl_ok : ∀ c ∈ chs ("call" : Str), (tl (("call" : Str) ++ ("=" : Str) ++ c ++ ("\n" : Str))).count 32 = 0 ∧ (Txt.startswith (("call" : Str) ++ ("=" : Str) ++ c ++ ("\n" : Str)) (svN ENT 9 ++ ("=" : Str)) && decide (cutS (("call" : Str) ++ ("=" : Str) ++ c ++ ("\n" : Str)) (some (((svN ENT 9).length : Int) + 1)) none ∈ chs (svN ENT 9))) = false := by decide +kernel
theorem bad11 {f : Str → Str} (g : Good f) (j : Nat) : rbOk (Txt.split (spo (PLs f) 11 j) (" " : Str)) = false := by
  have e : spo (PLs f) 11 j = tx ((PLs f).set 9 (EC f "call" ++ ("\n" : Str))) := by
    show tx (PLs f) ++ ("\n" : Str) = _
    refine ext_tl ?_
    rw [tl_append, tl_tx, tl_tx, PLs_eq]
    simp only [List.set_cons_succ, List.set_cons_zero, List.map_cons, List.map_nil, joinL, tl_append, List.append_assoc]
  rw [e]
  obtain ⟨b1, b2⟩ := nl_ok (f "call") (g _ (by decide +kernel))
  exact bad_set g (by decide) b1 b2
theorem spl_head : ∀ (L acc : List Nat), ∃ t rest, spl [32] 0 acc L = (acc ++ t) :: rest
  | [], acc => ⟨[], [], by rw [spl_nil, List.append_nil]⟩
  | c :: r, acc => by
    by_cases h : c = 32
    · subst h
      rw [spl_hit rfl]
      exact ⟨[], _, by rw [List.append_nil]⟩
    · have hp : pre [32] (c :: r) = false := by simp [pre, h]
      rw [spl_miss hp]
      obtain ⟨t, rest, e⟩ := spl_head r (acc ++ [c])
      exact ⟨c :: t, rest, by rw [e]; simp⟩
theorem ascii_tx {f : Str → Str} (g : Good f) : (tl (tx (PLs f))).all (· < 128) = true := by
  have h : ∀ x ∈ PLs f, (tl x).all (· < 128) = true := fun x hx => by
    obtain ⟨e, he, rfl⟩ := List.mem_map.mp hx
    exact (ec_ok e he (f e) (g e he)).2
  rw [tl_tx]
  have all : ∀ P : List Str, (∀ x ∈ P, (tl x).all (· < 128) = true) → (joinL [32] (P.map tl)).all (· < 128) = true := by
    intro P
    induction P with
    | nil => intro _; rfl
    | cons x r ih =>
      intro h
      cases r with
      | nil => exact h x List.mem_cons_self
      | cons y r =>
        show (tl x ++ ([32] ++ joinL [32] ((y :: r).map tl))).all (· < 128) = true
        rw [List.all_append, List.all_append, h x List.mem_cons_self, ih fun z hz => h z (List.mem_cons_of_mem _ hz)]
        rfl
  exact all _ h
theorem bad12 {f : Str → Str} (g : Good f) (j : Nat) : rbOk (Txt.split (spo (PLs f) 12 j) (" " : Str)) = false := by
  show rbOk (Txt.split (Txt.upper (tx (PLs f))) (" " : Str)) = false
  have e1 : tx (PLs f) = SX.S (tl (tx (PLs f))) := (mk_tl _).symm
  have e2 : Txt.upper (tx (PLs f)) = SX.S ((tl (tx (PLs f))).map up1) := by
    rw [e1]
    exact SX.upper_S (ascii_tx g)
  have e3 : ∃ r, tl (tx (PLs f)) = 119 :: r := by
    have a : tl (EC f "work") = [119, 111, 114, 107] ++ tl (("=" : Str) ++ f "work") := by
      show tl (("work" : Str) ++ ("=" : Str) ++ f "work") = _
      rw [tl_append, tl_append, tl_append, show tl ("work" : Str) = [119, 111, 114, 107] by decide +kernel, List.append_assoc]
    rw [tl_tx, PLs_eq, List.map_cons, List.map_cons]
    show ∃ r, tl (EC f "work") ++ ([32] ++ joinL [32] _) = _
    rw [a]
    exact ⟨_, rfl⟩
  obtain ⟨r, e3⟩ := e3
  have hs := split_spl (Txt.upper (tx (PLs f))) (" " : Str) (by rw [tl_sp]; simp) (kind_ok (by decide +kernel))
  rw [tl_sp, e2, show tl (SX.S ((tl (tx (PLs f))).map up1)) = (tl (tx (PLs f))).map up1 from rfl, e3, List.map_cons] at hs
  rw [show up1 119 = 87 by decide, spl_miss (by simp [pre])] at hs
  obtain ⟨t, rest, e4⟩ := spl_head (r.map up1) ([] ++ [87])
  rw [e4] at hs
  rw [e2, e3, List.map_cons, show up1 119 = 87 by decide]
  generalize Txt.split (SX.S (87 :: r.map up1)) (" " : Str) = P at hs ⊢
  cases P with
  | nil => cases hs
  | cons x P =>
    have hx : tl x = 87 :: t := by
      have := List.head_eq_of_cons_eq hs
      simpa using this
    refine bad_at (j := 0) (by decide) ?_
    have : Txt.startswith x (svN ENT 0 ++ ("=" : Str)) = false := by
      have e5 : svN ENT 0 ++ ("=" : Str) = ("work=" : Str) := by decide +kernel
      rw [e5]
      unfold Txt.startswith
      rw [Bool.and_eq_false_iff]
      right
      rw [StrLaws.subAt_eq, show x.cps.toList = tl x from rfl, hx, show ("work=" : Str).cps.toList = [119, 111, 114, 107, 61] by decide +kernel, show ("work=" : Str).length = 5 by decide +kernel]
      rfl
    unfold okAt
    rw [show svN (x :: P) 0 = x from rfl, this]
    rfl
theorem count_join2 : ∀ ls : List (List Nat), ls ≠ [] → (joinL [32, 32] ls).count 32 + 2 = 2 * ls.length + (ls.map (List.count 32)).sum
  | [], h => (h rfl).elim
  | [p], _ => by simp [joinL]; omega
  | p :: q :: r, _ => by
    have ih := count_join2 (q :: r) (by simp)
    show (p ++ ([32, 32] ++ joinL [32, 32] (q :: r))).count 32 + 2 = _
    rw [List.count_append, List.count_append]
    simp only [List.map_cons, List.sum_cons, List.length_cons] at ih ⊢
    have : List.count 32 [32, 32] = 2 := rfl
    omega
theorem bad13 {f : Str → Str} (g : Good f) (j : Nat) : rbOk (Txt.split (spo (PLs f) 13 j) (" " : Str)) = false := by
  show rbOk (Txt.split (Txt.replace (tx (PLs f)) (" " : Str) ("  " : Str)) (" " : Str)) = false
  have hs := split_PLs g
  have h1 : ∀ z : Str, [z] ≠ PLs f := fun z e => by have := PLs_len (f := f); rw [← e] at this; cases this
  have e : Txt.replace (tx (PLs f)) (" " : Str) ("  " : Str) = Txt.join ("  " : Str) (PLs f) := by
    unfold Txt.split at hs
    split at hs
    · exact (h1 _ hs).elim
    · split at hs
      · exact (h1 _ hs).elim
      · rename_i h3
        unfold Txt.replace
        rw [if_neg (by simp only [Bool.or_eq_true, not_or]; exact ⟨h3, by decide +kernel⟩), hs]
        rfl
  rw [e]
  refine bad_sp ?_
  rw [join_eq, tl_join, show tl ("  " : Str) = [32, 32] by decide +kernel]
  have := count_join2 ((PLs f).map tl) (by rw [PLs_eq]; simp)
  rw [sum_zero (nosp_PLs g), List.length_map, PLs_len] at this
  omega
theorem spo_bad {f : Str → Str} (g : Good f) {j way : Nat} (h : j < 10) (hw : way < 14) : rbOk (Txt.split (spo (PLs f) way j) (" " : Str)) = false := by
  by_cases h9 : way < 9
  · by_cases h3 : 3 ≤ way
    · exact badB g h h3 h9
    · have : way = 0 ∨ way = 1 ∨ way = 2 := by omega
      rcases this with rfl | rfl | rfl
      · exact bad0 g h
      · exact bad1 g h
      · exact bad2 g h
  · have : way = 9 ∨ way = 10 ∨ way = 11 ∨ way = 12 ∨ way = 13 := by omega
    rcases this with rfl | rfl | rfl | rfl | rfl
    · exact bad9 g j
    · exact bad10 g j
    · exact bad11 g j
    · exact bad12 g j
    · exact bad13 g j
theorem empty_bad : rbOk (Txt.split ("" : Str) (" " : Str)) = false := by decide +kernel
end L2.MP

set_option Elab.async false
set_option linter.all false
set_option maxRecDepth 100000
set_option maxHeartbeats 4000000
namespace L2.MP
open PySem PySem.Spec PyProof.Rows
/-! ### the stepping tactic -/
local macro_rules | `(tactic| walk_at "ne") => `(tactic| first
  | with_reducible assumption
  | ((with_reducible apply Ne.symm); with_reducible assumption)
  | ((with_reducible refine' ne_of_none ?a ?b); (case b => with_reducible assumption); (case a => walk_at "hp"))
  | ((with_reducible apply Ne.symm); (with_reducible refine' ne_of_none ?a ?b); (case b => with_reducible assumption); (case a => walk_at "hp"))
  | (refine' ne_of (by with_reducible assumption) (by with_reducible assumption) ?_; intro z; cases z))
local macro_rules | `(tactic| walk_at "hs") => `(tactic| first
  | with_reducible assumption
  | with_reducible exact upd_same
  | ((with_reducible apply up_new); (with_reducible assumption))
  | ((with_reducible apply Ex.at); (with_reducible assumption))
  | ((with_reducible apply up_ne); (walk_at "ne")))
local macro_rules | `(tactic| walk_at "hp") => `(tactic| ((repeat walk_at "hs"); done))
local macro_rules | `(tactic| walk_at "ss") => `(tactic| first
  | with_reducible assumption
  | ((with_reducible apply sqL_of); first | with_reducible assumption | with_reducible exact upd_same)
  | ((with_reducible apply sqT_of); first | with_reducible assumption | with_reducible exact upd_same)
  | ((with_reducible apply up_sqL); (with_reducible assumption))
  | ((with_reducible apply up_sqT); (with_reducible assumption))
  | ((with_reducible apply Ex.sqL); (with_reducible assumption))
  | ((with_reducible apply Ex.sqT); (with_reducible assumption))
  | ((with_reducible apply sqL_ne); (walk_at "ne"))
  | ((with_reducible apply sqT_ne); (walk_at "ne")))
local macro_rules | `(tactic| walk_at "sq") => `(tactic| ((repeat walk_at "ss"); done))
local macro_rules | `(tactic| walk_at "fl") => `(tactic| first
  | exact rfl
  | decide +kernel
  | (simp [flatOk, flat1]; done)
  | ((simp [flatOk, flat1]); decide +kernel))
local macro_rules | `(tactic| walk_at "ib") => `(tactic| first
  | omega
  | (refine Int.emod_nonneg _ ?_; omega)
  | (refine Int.emod_lt_of_pos _ ?_; omega))
local macro_rules | `(tactic| walk_at "ex") => `(tactic| first
  | with_reducible exact Ex.refl _
  | with_reducible assumption
  | ((with_reducible refine' Ex.trans ?a ?b); (case b => with_reducible assumption); (case a => walk_at "ex"))
  | ((with_reducible refine' Ex.new' ?a ?b); (case b => walk_at "nn"); (case a => walk_at "ex")))
local macro_rules | `(tactic| walk_at "nn") => `(tactic| first
  | with_reducible assumption
  | ((with_reducible refine' Ex.none ?a ?b); (case b => with_reducible assumption); (case a => walk_at "ex")))
local macro_rules | `(tactic| walk_at "bt") => `(tactic| first
  | exact rfl
  | (simp only [Bool.not_true, Bool.not_false, Bool.true_or, Bool.false_or, Bool.true_and, Bool.false_and, Bool.or_true, Bool.or_false, Bool.and_true, Bool.and_false, Bool.not_eq_true', Bool.not_eq_false', Bool.or_eq_true, Bool.or_eq_false_iff, Bool.and_eq_true, Bool.and_eq_false_iff, decide_eq_true_eq, decide_eq_false_iff_not] <;> omega)
  | (simp; done)
  | (simp; omega))
local macro_rules | `(tactic| walk_at "len") => `(tactic| first
  | exact Nat.le_of_ble_eq_true rfl
  | (simp only [List.length_cons, List.length_nil, List.length_append, List.length_map]; omega)
  | omega)
local macro_rules | `(tactic| walk_at "un") => `(tactic| fail)
local macro_rules | `(tactic| walk_at "cs") => `(tactic| fail)
local macro_rules | `(tactic| walk_at "st") => `(tactic| first
  | with_reducible refine k_var ?_
  | with_reducible refine k_asgS ?_
  | with_reducible refine k_c ?_
  | with_reducible refine k_op ?_
  | with_reducible refine k_cons ?_
  | with_reducible refine k_nil ?_
  | with_reducible refine k_seq ?_
  | with_reducible refine k_asg ?_
  | with_reducible refine k_cb ?_
  | with_reducible refine k_fld ?_
  | ((with_reducible refine' k_rfld ?h ?i ?j ?q); (case h => walk_at "hp"); (case i => infer_instance); (case j => infer_instance))
  | with_reducible refine k_if ?_
  | with_reducible refine k_test ?_
  | with_reducible refine k_bl ?_
  | with_reducible refine k_tB ?_
  | with_reducible refine k_itT ?_
  | with_reducible refine k_itF ?_
  | with_reducible refine k_next ?_
  | with_reducible refine k_ret ?_
  | with_reducible refine k_call ?_
  | with_reducible refine k_tup ?_
  | ((with_reducible refine' k_newTA ?h ?q); (case h => walk_at "len"); intro p H' hp he hm)
  | with_reducible refine k_lst ?_
  | ((with_reducible refine' k_newLA ?h ?q); (case h => walk_at "len"); intro p H' hp he hm)
  | with_reducible refine k_and ?_
  | with_reducible refine k_or ?_
  | with_reducible refine k_not ?_
  | with_reducible refine k_inot ?_
  | with_reducible refine o_eqI ?_
  | with_reducible refine o_eqB ?_
  | with_reducible refine o_eqS ?_
  | with_reducible refine o_neI ?_
  | with_reducible refine o_neB ?_
  | with_reducible refine o_neS ?_
  | with_reducible refine o_lt ?_
  | with_reducible refine o_le ?_
  | with_reducible refine o_gt ?_
  | with_reducible refine o_ge ?_
  | with_reducible refine o_addI ?_
  | ((with_reducible refine' o_addLA ?h1 ?h2 ?h ?q); (case h1 => walk_at "hp"); (case h2 => walk_at "hp"); (case h => walk_at "len"); intro p H' hp he hm; dsimp only [List.cons_append, List.nil_append] at hm)
  | with_reducible refine o_subI ?_
  | ((with_reducible refine' o_mod ?h ?q); (case h => first | decide | omega))
  | ((with_reducible refine' o_fdiv ?h ?q); (case h => first | exact ⟨by first | decide | omega, by first | decide | omega⟩ | exact ⟨by split <;> decide, by split <;> decide⟩))
  | ((with_reducible refine' o_mulI ?h ?q); (case h => first | exact .inl ⟨by first | decide | omega, by first | decide | omega⟩ | exact .inr ⟨by first | decide | omega, by first | decide | omega⟩))
  | ((with_reducible refine' o_ixTn ?h ?h0 ?e ?q); (case h => walk_at "sq"); (case h0 => decide); (case e => exact rfl))
  | ((with_reducible refine' o_ixLn ?h ?h0 ?e ?q); (case h => walk_at "sq"); (case h0 => decide); (case e => exact rfl))
  | ((with_reducible refine' o_ixD ?h ?h0 ?h1 ?q); (case h => walk_at "sq"); (case h0 => walk_at "ib"); (case h1 => walk_at "ib"))
  | ((with_reducible refine' o_ixSv ?h ?h0 ?h1 ?q); (case h => walk_at "sq"); (case h0 => walk_at "ib"); (case h1 => walk_at "ib"))
  | ((with_reducible refine' o_ix2S ?h ?q); (case h => walk_at "sq"))
  | ((with_reducible refine' o_ix2PT ?h ?hp ?q); (case h => walk_at "sq"); (case hp => omega))
  | ((with_reducible refine' o_ix2PL ?h ?hp ?q); (case h => walk_at "sq"); (case hp => omega))
  | ((with_reducible refine' o_inTI ?h ?c ?q); (case h => walk_at "sq"); (case c => infer_instance))
  | ((with_reducible refine' o_inLI ?h ?c ?q); (case h => walk_at "sq"); (case c => infer_instance))
  | ((with_reducible refine' o_ix2I ?h ?q); (case h => walk_at "sq"))
  | ((with_reducible refine' o_lenLS ?h ?q); (case h => walk_at "sq"))
  | ((with_reducible refine' o_lenLI ?h ?q); (case h => walk_at "sq"))
  | ((with_reducible refine' o_lenL ?h ?q); (case h => walk_at "sq"))
  | ((with_reducible refine' o_lenT ?h ?q); (case h => walk_at "sq"))
  | with_reducible refine' i_plain ?_
  | with_reducible refine' i_plainC ?_
  | ((with_reducible refine' i_insC ?h ?i ?c ?q); (case h => walk_at "hp"); (case i => infer_instance); (case c => infer_instance))
  | ((with_reducible refine' i_lst ?h ?c ?q); (case h => walk_at "hp"); (case c => infer_instance))
  | ((with_reducible refine' i_tup ?h ?c ?q); (case h => walk_at "hp"); (case c => infer_instance))
  | with_reducible refine k_prop ?_
  | ((with_reducible refine' k_rprop ?h ?q); (case h => walk_at "hp"))
  | with_reducible refine k_make ?_
  | with_reducible refine k_makeKS ?_
  | ((with_reducible refine' k_rmkK ?hl ?hg ?q); (case hl => exact rfl); (case hg => exact fun _ => rfl))
  | with_reducible refine k_meth ?_
  | ((with_reducible refine' k_rmeth ?h ?i ?q); (case h => walk_at "hp"); (case i => infer_instance))
  | with_reducible refine k_andV ?_
  | with_reducible refine k_orV ?_
  | with_reducible refine k_notV ?_
  | with_reducible refine k_rand ?_
  | with_reducible refine k_rnot ?_
  | with_reducible refine k_un ?_
  | with_reducible refine k_ifE ?_
  | with_reducible refine k_randT ?_
  | with_reducible refine k_randF ?_
  | with_reducible refine k_rorT ?_
  | with_reducible refine k_rorF ?_
  | with_reducible refine k_randtT ?_
  | with_reducible refine k_randtF ?_
  | with_reducible refine k_rortT ?_
  | with_reducible refine k_rortF ?_
  | ((with_reducible refine' k_randP ?h2 ?q); (case h2 => intro _ hq; (walk_at "go"); with_reducible exact hq))
  | ((with_reducible refine' k_rorP ?h2 ?q); (case h2 => intro _ hq; (walk_at "go"); with_reducible exact hq))
  | with_reducible refine k_randS ?_
  | with_reducible refine k_rorS ?_
  | ((with_reducible refine' k_rifI ?h1 ?h2 ?q); (case h1 => intro _ hq; (walk_at "go"); with_reducible exact hq); (case h2 => intro _ hq; (walk_at "go"); with_reducible exact hq))
  | with_reducible refine k_rifS ?_
  | ((with_reducible refine' k_randtP ?h2 ?q); (case h2 => intro _ hq; (walk_at "go"); with_reducible exact hq))
  | ((with_reducible refine' k_rortP ?h2 ?q); (case h2 => intro _ hq; (walk_at "go"); with_reducible exact hq))
  | with_reducible refine k_randtS ?_
  | with_reducible refine k_rortS ?_
  | ((with_reducible refine' k_own ?h ?i ?q); (case h => walk_at "hp"); (case i => walk_at "hp"))
  | ((with_reducible refine' k_ownI ?h ?q); (case h => walk_at "hp"))
  | ((with_reducible refine' k_ownA ?h ?q); (case h => walk_at "hp"))
  | with_reducible refine k_aug ?_
  | with_reducible refine o_addIp ?_
  | with_reducible refine k_drop ?_
  | with_reducible refine k_fldp ?_
  | ((with_reducible refine' k_rputU ?i ?j ?q); (case i => infer_instance); (case j => infer_instance))
  | ((with_reducible refine' k_rput ?h ?i ?j ?q); (case h => walk_at "hp"); (case i => infer_instance); (case j => infer_instance))
  | ((with_reducible refine' k_dispA ?h ?q); (case h => exact Nat.le_of_ble_eq_true rfl); intro p H' hp he hm)
  | with_reducible refine k_newK ?_
  | ((with_reducible refine' k_newDA ?q); intro p H' hp he hm)
  | with_reducible refine k_dget ?_
  | with_reducible refine k_dget2 ?_
  | ((with_reducible refine' k_rdgetC ?h ?e ?q); (case h => walk_at "hp"); (case e => infer_instance))
  | ((with_reducible refine' k_rdg2 ?h ?q); (case h => walk_at "hp"))
  | ((with_reducible refine' k_rdo ?h ?q); (case h => walk_at "hp"))
  | with_reducible refine k_dput ?_
  | ((with_reducible refine' k_rdputU ?hl ?e ?q); (case hl => exact Nat.le_of_ble_eq_true rfl); (case e => infer_instance))
  | ((with_reducible refine' k_rdputC ?h ?hl ?e ?q); (case h => walk_at "hp"); (case hl => exact Nat.le_of_ble_eq_true rfl); (case e => infer_instance))
  | with_reducible refine k_m1 ?_
  | with_reducible refine k_rm1 ?_
  | with_reducible refine k_bm ?_
  | ((with_reducible refine' k_rbmL ?h ?q); (case h => walk_at "sq"))
  | ((with_reducible refine' o_appendU ?hl ?q); (case hl => walk_at "len"))
  | ((with_reducible refine' o_append ?h ?hl ?q); (case h => walk_at "hp"); (case hl => walk_at "len"))
  | with_reducible refine k_ownIx ?_
  | ((with_reducible refine' k_rownIx ?h ?q); (case h => walk_at "hp"))
  | with_reducible refine k_ownPut ?_
  | ((with_reducible refine' k_rownPut ?h ?q); (case h => walk_at "hp"))
  | ((with_reducible refine' o_inT ?h ?q); (case h => walk_at "sq"))
  | ((with_reducible refine' o_ninT ?h ?q); (case h => walk_at "sq"))
  | ((with_reducible refine' o_inL ?h ?q); (case h => walk_at "sq"))
  | ((with_reducible refine' o_ninL ?h ?q); (case h => walk_at "sq"))
  | with_reducible refine o_pow18 ?_
  | with_reducible refine o_pow9 ?_
  | with_reducible refine o_pow30 ?_
  | with_reducible refine o_isB ?_
  | with_reducible refine o_neg ?_
  | with_reducible refine o_isN ?_
  | with_reducible refine o_notN ?_
  | with_reducible refine o_max ?_
  | with_reducible refine o_min ?_
  | with_reducible refine o_intI ?_
  | with_reducible refine o_intB ?_
  | with_reducible refine o_abs ?_
  | with_reducible refine k_forR1 ?_
  | with_reducible refine k_forR2 ?_
  | with_reducible refine k_forL ?_
  | with_reducible refine k_forT ?_
  | ((with_reducible refine' k_turnR ?e ?q); (case e => exact rfl))
  | with_reducible refine k_doneR ?_
  | ((with_reducible refine' k_turnL ?h ?q); (case h => walk_at "sq"))
  | ((with_reducible refine' k_doneL ?h ?q); (case h => walk_at "sq"))
  | ((with_reducible refine' k_turnT ?h ?q); (case h => walk_at "sq"))
  | ((with_reducible refine' k_doneT ?h ?q); (case h => walk_at "sq"))
  | with_reducible refine k_forA ?_
  | with_reducible refine k_lcA ?_
  | ((with_reducible refine' o_tupL ?h ?q); (case h => walk_at "sq"); intro p H' hp he hm)
  | ((with_reducible refine' o_lisL ?h ?q); (case h => walk_at "sq"); intro p H' hp he hm)
  | ((with_reducible refine' o_lisT ?h ?q); (case h => walk_at "sq"); intro p H' hp he hm)
  | ((with_reducible refine' o_tupT ?h ?q); (case h => walk_at "sq"))
  | with_reducible refine k_dyn ?_
  | ((with_reducible refine' k_rdyn ?h ?i ?c ?q); (case h => walk_at "hp"); (case i => infer_instance); (case c => infer_instance))
  | with_reducible refine k_brk ?_
  | with_reducible refine k_cont ?_
  | with_reducible refine k_raise ?_
  | with_reducible refine k_retN ?_
  | walk_at "un"
  | walk_at "cs"
  | ((with_reducible refine' k_itdT ?h ?q); (case h => first | with_reducible assumption | omega | decide))
  | ((with_reducible refine' k_itdF ?h ?q); (case h => first | with_reducible assumption | omega | decide))
  | ((with_reducible refine' k_ifT ?h ?q); (case h => walk_at "bt"))
  | ((with_reducible refine' k_ifF ?h ?q); (case h => walk_at "bt")))
local macro_rules | `(tactic| walk_at "go") => `(tactic| repeat walk_at "st")
local macro_rules | `(tactic| walk_at "sp") => `(tactic| repeat' (first | walk_at "st" | refine k_itd (fun h => ?_) (fun h => ?_) | refine k_itb (fun h => ?_) (fun h => ?_)))
section
variable {K : PySem.W.Frag} [TxtK K] {w : World} {k : Nat} {H : Hp} {Q : VK} {E : XK} {xs : List V} {a b : Addr}
theorem s_law_entries (hv : xs = []) (q : ∀ p H', H p = none → Ex H H' → H' p = some (.lst (ENT.map V.str)) → Q (.ref p) H') : Gam K w (k + 1) .law_entries xs H Q E := by
  subst hv
  refine ⟨rfl, ?_⟩
  unfold rd_law_entries
  refine k_start ?_
  walk_at "go"
  rename_i p H' hp he hm
  exact q p H' hp he hm
theorem s_law_choices {e : Str} (hv : xs = [.str e]) (he : e ∈ ENT) (q : ∀ p H', H p = none → Ex H H' → H' p = some (.lst ((chs e).map V.str)) → Q (.ref p) H') : Gam K w (k + 1) .law_choices xs H Q E := by
  subst hv
  refine ⟨rfl, ?_⟩
  unfold rd_law_choices
  refine k_start ?_
  walk_at "go"
  rw [(chx_ok e he).1.1]
  walk_at "go"
  refine o_splitA (by decide) (by have := (chx_ok e he).2.1; omega) (chx_ok e he).1.2 (by have := (chx_ok e he).2.2.1; omega) ?_
  intro p H' hp he hm
  exact q p H' (by walk_at "nn") (by walk_at "ex") hm
theorem s_law_choicesV {e : Str} {vs : List V} (hv : xs = [.str e]) (he : InE e) (hc : ChV e vs) (q : ∀ p H', H p = none → Ex H H' → H' p = some (.lst vs) → Q (.ref p) H') : Gam K w (k + 1) .law_choices xs H Q E :=
  s_law_choices hv he.mem fun p H' hp hx hm => q p H' hp hx (by rw [hc.eq] at hm; exact hm)
end
local macro_rules | `(tactic| walk_at "cs") => `(tactic| ((with_reducible refine' s_law_entries ?hv ?q); (case hv => exact rfl); intro p H' hp he hm))
local macro_rules | `(tactic| walk_at "cs") => `(tactic| ((with_reducible refine' s_law_choices ?hv ?he ?q); (case hv => exact rfl); (case he => first | with_reducible assumption | exact InE.mem); intro p H' hp he hm))
section
variable {K : PySem.W.Frag} [TxtK K] {w : World} {k : Nat} {H : Hp} {Q : VK} {E : XK} {xs : List V} {a b : Addr}
def rng60 (ds : List Int) : Prop := ∀ d ∈ ds, 0 ≤ d ∧ d < 60
theorem s_law_draws {c s : Int} {many : Nat} (hv : xs = [.int c, .int many, .int s]) (hm : many ≤ 1000) (hs : 0 ≤ s ∧ s < 1000) (q : ∀ p H' ds, H p = none → Ex H H' → H' p = some (.lst (ds.map V.int)) → ds.length = many → rng60 ds → Q (.ref p) H') :
    Gam K w (k + 1) .law_draws xs H Q E := by
  subst hv
  refine ⟨rfl, ?_⟩
  unfold rd_law_draws
  refine k_start ?_
  walk_at "go"
  rename_i p H1 hp he hm1
  generalize hsz : (if c < 0 then -c else c) = sz
  have hsz0 : 0 ≤ sz := by subst hsz; split <;> omega
  clear hsz
  refine k_rr1I ⟨by omega, by omega⟩ (fun m σ H' => ∃ (r : Int) (ds : List Int) (u v : Option V), σ = [some (.int c), some (.int many), some (.int s), some (.int sz), some (.int r), some (.ref p), u, v] ∧ 0 ≤ r ∧ ds.length = m ∧ rng60 ds ∧ Ex H H' ∧ H' p = some (.lst (ds.map V.int)))
    ⟨sz, [], none, none, rfl, hsz0, rfl, (fun d hd => nomatch hd), he, hm1⟩ ?_ ?_
  · intro m σ H' hm' hI
    obtain ⟨r, ds, u, v, rfl, hr0, hl, hd, hx, hm⟩ := hI
    dsimp only [List.set]
    walk_at "go"
    refine k_itb (fun h => ?_) (fun h => ?_)
    · walk_at "go"
      refine ⟨r / 60, ds ++ [r % 60], some (.int m), v, rfl, by omega, by simp [hl], fun d hd' => ?_, hx.new' hp, by rw [upd_same, List.map_append]; rfl⟩
      rcases List.mem_append.mp hd' with z | z
      · exact hd d z
      · simp only [List.mem_cons, List.not_mem_nil, or_false] at z; subst z; omega
    · walk_at "go"
      refine ⟨r, ds ++ [_], some (.int m), some (.int _), rfl, hr0, by simp [hl], fun d hd' => ?_, hx.new' hp, by rw [upd_same, List.map_append]; rfl⟩
      rcases List.mem_append.mp hd' with z | z
      · exact hd d z
      · simp only [List.mem_cons, List.not_mem_nil, or_false] at z; subst z; omega
  · rintro σ H' ⟨r, ds, u, v, rfl, hr0, hl, hd, hx, hm⟩
    walk_at "go"
    exact q p _ ds hp hx hm (by simpa using hl) hd
end
local macro_rules | `(tactic| walk_at "cs") => `(tactic| ((with_reducible refine' s_law_draws ?hv ?hm ?hs ?q); (case hv => exact rfl); (case hm => decide); (case hs => decide); intro p H' ds hp he hm hl hr))
local macro_rules | `(tactic| walk_at "cs") => `(tactic| ((with_reducible refine' k_ninEnt ?q)))
local macro_rules | `(tactic| walk_at "cs") => `(tactic| ((with_reducible refine' k_lenEnt ?q)))
local macro_rules | `(tactic| walk_at "cs") => `(tactic| ((with_reducible refine' o_ixTn ?h ?h0 ?e ?q); (case h => exact ent_sq); (case h0 => decide); (case e => exact rfl)))
local macro_rules | `(tactic| walk_at "cs") => `(tactic| ((with_reducible refine' k_ixW ?he ?q); (case he => first | with_reducible assumption | exact InE.mem)))
local macro_rules | `(tactic| walk_at "cs") => `(tactic| ((with_reducible refine' k_ninCh ?he ?q); (case he => first | with_reducible assumption | exact InE.mem)))
local macro_rules | `(tactic| walk_at "cs") => `(tactic| ((with_reducible refine' k_ninEntT ?he ?q); (case he => first | with_reducible assumption | exact InE.mem)))
local macro_rules | `(tactic| walk_at "cs") => `(tactic| ((with_reducible refine' k_ninChT ?he ?hc ?q); (case he => first | with_reducible assumption | exact InE.mem); (case hc => first | with_reducible assumption | decide +kernel)))
section
variable {K : PySem.W.Frag} [TxtK K] {w : World} [BookW K w] {k : Nat} {H : Hp} {Q : VK} {E : XK} {xs : List V} {a b d dx : Addr}
theorem s_Book_getitem {f : Str → Str} {e v : Str} (hv : xs = [.ref a, .str e]) (ha : H a = some (.ins (He.ga K "Book") dx (fs_Book (.ref d)))) (hd : H d = some (.dK (bk f))) (he : InE e) (hf : FEq f e v) (q : Q (.str v) H) : Gam K w (k + 1) .Book_getitem xs H Q E := by
  subst hv
  refine ⟨rfl, ?_⟩
  unfold rd_Book_getitem
  refine k_start ?_
  have hm := he.mem
  walk_at "go"
  refine k_bkget (by walk_at "hp") hm ?_
  rw [hf.eq]
  exact q
theorem s_Book_setitem {f : Str → Str} {e c : Str} (hv : xs = [.ref a, .str e, .str c]) (ha : H a = some (.ins (He.ga K "Book") dx (fs_Book (.ref d)))) (hd : H d = some (.dK (bk f))) (he : InE e) (hc : c ∈ chs e) (q : Q .non (upd H d (.dK (bk (fset f e c))))) : Gam K w (k + 1) .Book_setitem xs H Q E := by
  subst hv
  refine ⟨rfl, ?_⟩
  unfold rd_Book_setitem
  refine k_start ?_
  have hm := he.mem
  walk_at "go"
  exact k_bkput hd hm q
theorem s_Book_setitemU {f : Str → Str} {e c : Str} (hv : xs = [.ref a, .str e, .str c]) (ha : upd H d (.dK (bk f)) a = some (.ins (He.ga K "Book") dx (fs_Book (.ref d)))) (he : InE e) (hc : c ∈ chs e) (q : Q .non (upd H d (.dK (bk (fset f e c))))) : Gam K w (k + 1) .Book_setitem xs (upd H d (.dK (bk f))) Q E :=
  s_Book_setitem hv ha upd_same he hc (by rw [upd_upd]; exact q)
theorem s_Book_init {x : Addr} {c0 c1 c2 c3 c4 c5 c6 c7 c8 c9 : Str} (hv : xs = [.ref x, .str c0, .str c1, .str c2, .str c3, .str c4, .str c5, .str c6, .str c7, .str c8, .str c9]) (hx : H x = some (.ins (He.ga K "Book") dx []))
    (h0 : c0 ∈ chs "work") (h1 : c1 ∈ chs "write") (h2 : c2 ∈ chs "meet") (h3 : c3 ∈ chs "test") (h4 : c4 ∈ chs "partly") (h5 : c5 ∈ chs "value") (h6 : c6 ∈ chs "path") (h7 : c7 ∈ chs "loop") (h8 : c8 ∈ chs "guard") (h9 : c9 ∈ chs "call")
    (q : ∀ d H', H d = none → (∀ a o, a ≠ x → H a = some o → H' a = some o) → H' x = some (.ins (He.ga K "Book") dx (fs_Book (.ref d))) → H' d = some (.dK (bk (fL [c0, c1, c2, c3, c4, c5, c6, c7, c8, c9]))) → Q .non H') : Gam K w (k + 1) .Book_init xs H Q E := by
  subst hv
  refine ⟨rfl, ?_⟩
  unfold rd_Book_init
  refine k_start ?_
  walk_at "go"
  rename_i t H1 ht he1 hm1 d H2 hd he2 hm2
  refine k_rr1L 10 rfl (by decide) ?_
  walk_at "go"
  simp only [bk_fL] at q
  refine q d _ (by walk_at "nn") (fun a o hne ha => ?_) (by walk_at "hp") upd_same
  have h1 : a ≠ d := ne_of_none (he1.at ha) hd
  exact up_ne h1 (up_ne hne (he2.at (he1.at ha)))
theorem s_mkBook {c0 c1 c2 c3 c4 c5 c6 c7 c8 c9 : Str} (hv : xs = [.str c0, .str c1, .str c2, .str c3, .str c4, .str c5, .str c6, .str c7, .str c8, .str c9])
    (h0 : c0 ∈ chs "work") (h1 : c1 ∈ chs "write") (h2 : c2 ∈ chs "meet") (h3 : c3 ∈ chs "test") (h4 : c4 ∈ chs "partly") (h5 : c5 ∈ chs "value") (h6 : c6 ∈ chs "path") (h7 : c7 ∈ chs "loop") (h8 : c8 ∈ chs "guard") (h9 : c9 ∈ chs "call")
    (q : ∀ x dx d H', H x = none → H d = none → d ≠ x → Ex H H' → H' x = some (.ins (He.ga K "Book") dx (fs_Book (.ref d))) → H' d = some (.dK (bk (fL [c0, c1, c2, c3, c4, c5, c6, c7, c8, c9]))) → Q (.ref x) H') : RMk (He.ga K "Book") (Gam K w (k + 1) .Book_init) xs E H Q := by
  subst hv
  intro x dx hx hd hn
  refine s_Book_init rfl upd_same h0 h1 h2 h3 h4 h5 h6 h7 h8 h9 fun d H' hd' hk hx' hdk => ⟨rfl, ?_⟩
  refine q x dx d H' hx (up_none (up_none hd')) (fun z => ?_) (fun a o ha => hk a o (ne_of_none ha hx) (up_new' hx (up_new hd ha))) hx' hdk
  subst z
  rw [upd_same] at hd'
  cases hd'
end
local macro_rules | `(tactic| walk_at "cs") => `(tactic| ((with_reducible refine' s_Book_getitem ?hv ?ha ?hd ?he ?hf ?q); (case hv => exact rfl); (case ha => walk_at "hp"); (case hd => walk_at "hp"); (case he => infer_instance); (case hf => infer_instance)))
local macro_rules | `(tactic| walk_at "cs") => `(tactic| ((with_reducible refine' s_Book_setitem ?hv ?ha ?hd ?he ?hc ?q); (case hv => exact rfl); (case ha => walk_at "hp"); (case hd => walk_at "hp"); (case he => infer_instance); (case hc => first | with_reducible assumption | decide +kernel)))
local macro_rules | `(tactic| walk_at "cs") => `(tactic| ((with_reducible refine' s_mkBook ?hv ?h0 ?h1 ?h2 ?h3 ?h4 ?h5 ?h6 ?h7 ?h8 ?h9 ?q); (case hv => exact rfl); (case h0 => decide +kernel); (case h1 => decide +kernel); (case h2 => decide +kernel); (case h3 => decide +kernel); (case h4 => decide +kernel); (case h5 => decide +kernel); (case h6 => decide +kernel); (case h7 => decide +kernel); (case h8 => decide +kernel); (case h9 => decide +kernel); intro x dx d H' hx hd hn he hxm hdm))
local macro_rules | `(tactic| walk_at "cs") => `(tactic| ((with_reducible refine' s_Book_setitemU ?hv ?ha ?he ?hc ?q); (case hv => exact rfl); (case ha => walk_at "hp"); (case he => infer_instance); (case hc => first | with_reducible assumption | decide +kernel)))
end L2.MP

set_option Elab.async false
set_option linter.all false
set_option maxRecDepth 100000
set_option maxHeartbeats 4000000
namespace L2.MP
open PySem PySem.Spec PyProof.Rows
/-! ### the stepping tactic -/
local macro_rules | `(tactic| walk_at "ne") => `(tactic| first
  | with_reducible assumption
  | ((with_reducible apply Ne.symm); with_reducible assumption)
  | ((with_reducible refine' ne_of_none ?a ?b); (case b => with_reducible assumption); (case a => walk_at "hp"))
  | ((with_reducible apply Ne.symm); (with_reducible refine' ne_of_none ?a ?b); (case b => with_reducible assumption); (case a => walk_at "hp"))
  | (refine' ne_of (by with_reducible assumption) (by with_reducible assumption) ?_; intro z; cases z))
local macro_rules | `(tactic| walk_at "hs") => `(tactic| first
  | with_reducible assumption
  | with_reducible exact upd_same
  | ((with_reducible apply up_new); (with_reducible assumption))
  | ((with_reducible apply Ex.at); (with_reducible assumption))
  | ((with_reducible apply up_ne); (walk_at "ne")))
local macro_rules | `(tactic| walk_at "hp") => `(tactic| ((repeat walk_at "hs"); done))
local macro_rules | `(tactic| walk_at "ss") => `(tactic| first
  | with_reducible assumption
  | ((with_reducible apply sqL_of); first | with_reducible assumption | with_reducible exact upd_same)
  | ((with_reducible apply sqT_of); first | with_reducible assumption | with_reducible exact upd_same)
  | ((with_reducible apply up_sqL); (with_reducible assumption))
  | ((with_reducible apply up_sqT); (with_reducible assumption))
  | ((with_reducible apply Ex.sqL); (with_reducible assumption))
  | ((with_reducible apply Ex.sqT); (with_reducible assumption))
  | ((with_reducible apply sqL_ne); (walk_at "ne"))
  | ((with_reducible apply sqT_ne); (walk_at "ne")))
local macro_rules | `(tactic| walk_at "sq") => `(tactic| ((repeat walk_at "ss"); done))
local macro_rules | `(tactic| walk_at "fl") => `(tactic| first
  | exact rfl
  | decide +kernel
  | (simp [flatOk, flat1]; done)
  | ((simp [flatOk, flat1]); decide +kernel))
local macro_rules | `(tactic| walk_at "ib") => `(tactic| first
  | omega
  | (refine Int.emod_nonneg _ ?_; omega)
  | (refine Int.emod_lt_of_pos _ ?_; omega))
local macro_rules | `(tactic| walk_at "ex") => `(tactic| first
  | with_reducible exact Ex.refl _
  | with_reducible assumption
  | ((with_reducible refine' Ex.trans ?a ?b); (case b => with_reducible assumption); (case a => walk_at "ex"))
  | ((with_reducible refine' Ex.new' ?a ?b); (case b => walk_at "nn"); (case a => walk_at "ex")))
local macro_rules | `(tactic| walk_at "nn") => `(tactic| first
  | with_reducible assumption
  | ((with_reducible refine' Ex.none ?a ?b); (case b => with_reducible assumption); (case a => walk_at "ex")))
local macro_rules | `(tactic| walk_at "bt") => `(tactic| first
  | exact rfl
  | (simp only [Bool.not_true, Bool.not_false, Bool.true_or, Bool.false_or, Bool.true_and, Bool.false_and, Bool.or_true, Bool.or_false, Bool.and_true, Bool.and_false, Bool.not_eq_true', Bool.not_eq_false', Bool.or_eq_true, Bool.or_eq_false_iff, Bool.and_eq_true, Bool.and_eq_false_iff, decide_eq_true_eq, decide_eq_false_iff_not] <;> omega)
  | (simp; done)
  | (simp; omega))
local macro_rules | `(tactic| walk_at "len") => `(tactic| first
  | exact Nat.le_of_ble_eq_true rfl
  | (simp only [List.length_cons, List.length_nil, List.length_append, List.length_map]; omega)
  | omega)
local macro_rules | `(tactic| walk_at "un") => `(tactic| fail)
local macro_rules | `(tactic| walk_at "cs") => `(tactic| fail)
local macro_rules | `(tactic| walk_at "st") => `(tactic| first
  | with_reducible refine k_var ?_
  | with_reducible refine k_asgS ?_
  | with_reducible refine k_c ?_
  | with_reducible refine k_op ?_
  | with_reducible refine k_cons ?_
  | with_reducible refine k_nil ?_
  | with_reducible refine k_seq ?_
  | with_reducible refine k_asg ?_
  | with_reducible refine k_cb ?_
  | with_reducible refine k_fld ?_
  | ((with_reducible refine' k_rfld ?h ?i ?j ?q); (case h => walk_at "hp"); (case i => infer_instance); (case j => infer_instance))
  | with_reducible refine k_if ?_
  | with_reducible refine k_test ?_
  | with_reducible refine k_bl ?_
  | with_reducible refine k_tB ?_
  | with_reducible refine k_itT ?_
  | with_reducible refine k_itF ?_
  | with_reducible refine k_next ?_
  | with_reducible refine k_ret ?_
  | with_reducible refine k_call ?_
  | with_reducible refine k_tup ?_
  | ((with_reducible refine' k_newTA ?h ?q); (case h => walk_at "len"); intro p H' hp he hm)
  | with_reducible refine k_lst ?_
  | ((with_reducible refine' k_newLA ?h ?q); (case h => walk_at "len"); intro p H' hp he hm)
  | with_reducible refine k_and ?_
  | with_reducible refine k_or ?_
  | with_reducible refine k_not ?_
  | with_reducible refine k_inot ?_
  | with_reducible refine o_eqI ?_
  | with_reducible refine o_eqB ?_
  | with_reducible refine o_eqS ?_
  | with_reducible refine o_neI ?_
  | with_reducible refine o_neB ?_
  | with_reducible refine o_neS ?_
  | with_reducible refine o_lt ?_
  | with_reducible refine o_le ?_
  | with_reducible refine o_gt ?_
  | with_reducible refine o_ge ?_
  | with_reducible refine o_addI ?_
  | ((with_reducible refine' o_addLA ?h1 ?h2 ?h ?q); (case h1 => walk_at "hp"); (case h2 => walk_at "hp"); (case h => walk_at "len"); intro p H' hp he hm; dsimp only [List.cons_append, List.nil_append] at hm)
  | with_reducible refine o_subI ?_
  | ((with_reducible refine' o_mod ?h ?q); (case h => first | decide | omega))
  | ((with_reducible refine' o_fdiv ?h ?q); (case h => first | exact ⟨by first | decide | omega, by first | decide | omega⟩ | exact ⟨by split <;> decide, by split <;> decide⟩))
  | ((with_reducible refine' o_mulI ?h ?q); (case h => first | exact .inl ⟨by first | decide | omega, by first | decide | omega⟩ | exact .inr ⟨by first | decide | omega, by first | decide | omega⟩))
  | ((with_reducible refine' o_ixTn ?h ?h0 ?e ?q); (case h => walk_at "sq"); (case h0 => decide); (case e => exact rfl))
  | ((with_reducible refine' o_ixLn ?h ?h0 ?e ?q); (case h => walk_at "sq"); (case h0 => decide); (case e => exact rfl))
  | ((with_reducible refine' o_ixD ?h ?h0 ?h1 ?q); (case h => walk_at "sq"); (case h0 => walk_at "ib"); (case h1 => walk_at "ib"))
  | ((with_reducible refine' o_ixSv ?h ?h0 ?h1 ?q); (case h => walk_at "sq"); (case h0 => walk_at "ib"); (case h1 => walk_at "ib"))
  | ((with_reducible refine' o_ix2S ?h ?q); (case h => walk_at "sq"))
  | ((with_reducible refine' o_ix2PT ?h ?hp ?q); (case h => walk_at "sq"); (case hp => omega))
  | ((with_reducible refine' o_ix2PL ?h ?hp ?q); (case h => walk_at "sq"); (case hp => omega))
  | ((with_reducible refine' o_inTI ?h ?c ?q); (case h => walk_at "sq"); (case c => infer_instance))
  | ((with_reducible refine' o_inLI ?h ?c ?q); (case h => walk_at "sq"); (case c => infer_instance))
  | ((with_reducible refine' o_ix2I ?h ?q); (case h => walk_at "sq"))
  | ((with_reducible refine' o_lenLS ?h ?q); (case h => walk_at "sq"))
  | ((with_reducible refine' o_lenLI ?h ?q); (case h => walk_at "sq"))
  | ((with_reducible refine' o_lenL ?h ?q); (case h => walk_at "sq"))
  | ((with_reducible refine' o_lenT ?h ?q); (case h => walk_at "sq"))
  | with_reducible refine' i_plain ?_
  | with_reducible refine' i_plainC ?_
  | ((with_reducible refine' i_insC ?h ?i ?c ?q); (case h => walk_at "hp"); (case i => infer_instance); (case c => infer_instance))
  | ((with_reducible refine' i_lst ?h ?c ?q); (case h => walk_at "hp"); (case c => infer_instance))
  | ((with_reducible refine' i_tup ?h ?c ?q); (case h => walk_at "hp"); (case c => infer_instance))
  | with_reducible refine k_prop ?_
  | ((with_reducible refine' k_rprop ?h ?q); (case h => walk_at "hp"))
  | with_reducible refine k_make ?_
  | with_reducible refine k_makeKS ?_
  | ((with_reducible refine' k_rmkK ?hl ?hg ?q); (case hl => exact rfl); (case hg => exact fun _ => rfl))
  | with_reducible refine k_meth ?_
  | ((with_reducible refine' k_rmeth ?h ?i ?q); (case h => walk_at "hp"); (case i => infer_instance))
  | with_reducible refine k_andV ?_
  | with_reducible refine k_orV ?_
  | with_reducible refine k_notV ?_
  | with_reducible refine k_rand ?_
  | with_reducible refine k_rnot ?_
  | with_reducible refine k_un ?_
  | with_reducible refine k_ifE ?_
  | with_reducible refine k_randT ?_
  | with_reducible refine k_randF ?_
  | with_reducible refine k_rorT ?_
  | with_reducible refine k_rorF ?_
  | with_reducible refine k_randtT ?_
  | with_reducible refine k_randtF ?_
  | with_reducible refine k_rortT ?_
  | with_reducible refine k_rortF ?_
  | ((with_reducible refine' k_randP ?h2 ?q); (case h2 => intro _ hq; (walk_at "go"); with_reducible exact hq))
  | ((with_reducible refine' k_rorP ?h2 ?q); (case h2 => intro _ hq; (walk_at "go"); with_reducible exact hq))
  | with_reducible refine k_randS ?_
  | with_reducible refine k_rorS ?_
  | ((with_reducible refine' k_rifI ?h1 ?h2 ?q); (case h1 => intro _ hq; (walk_at "go"); with_reducible exact hq); (case h2 => intro _ hq; (walk_at "go"); with_reducible exact hq))
  | with_reducible refine k_rifS ?_
  | ((with_reducible refine' k_randtP ?h2 ?q); (case h2 => intro _ hq; (walk_at "go"); with_reducible exact hq))
  | ((with_reducible refine' k_rortP ?h2 ?q); (case h2 => intro _ hq; (walk_at "go"); with_reducible exact hq))
  | with_reducible refine k_randtS ?_
  | with_reducible refine k_rortS ?_
  | ((with_reducible refine' k_own ?h ?i ?q); (case h => walk_at "hp"); (case i => walk_at "hp"))
  | ((with_reducible refine' k_ownI ?h ?q); (case h => walk_at "hp"))
  | ((with_reducible refine' k_ownA ?h ?q); (case h => walk_at "hp"))
  | with_reducible refine k_aug ?_
  | with_reducible refine o_addIp ?_
  | with_reducible refine k_drop ?_
  | with_reducible refine k_fldp ?_
  | ((with_reducible refine' k_rputU ?i ?j ?q); (case i => infer_instance); (case j => infer_instance))
  | ((with_reducible refine' k_rput ?h ?i ?j ?q); (case h => walk_at "hp"); (case i => infer_instance); (case j => infer_instance))
  | ((with_reducible refine' k_dispA ?h ?q); (case h => exact Nat.le_of_ble_eq_true rfl); intro p H' hp he hm)
  | with_reducible refine k_newK ?_
  | ((with_reducible refine' k_newDA ?q); intro p H' hp he hm)
  | with_reducible refine k_dget ?_
  | with_reducible refine k_dget2 ?_
  | ((with_reducible refine' k_rdgetC ?h ?e ?q); (case h => walk_at "hp"); (case e => infer_instance))
  | ((with_reducible refine' k_rdg2 ?h ?q); (case h => walk_at "hp"))
  | ((with_reducible refine' k_rdo ?h ?q); (case h => walk_at "hp"))
  | with_reducible refine k_dput ?_
  | ((with_reducible refine' k_rdputU ?hl ?e ?q); (case hl => exact Nat.le_of_ble_eq_true rfl); (case e => infer_instance))
  | ((with_reducible refine' k_rdputC ?h ?hl ?e ?q); (case h => walk_at "hp"); (case hl => exact Nat.le_of_ble_eq_true rfl); (case e => infer_instance))
  | with_reducible refine k_m1 ?_
  | with_reducible refine k_rm1 ?_
  | with_reducible refine k_bm ?_
  | ((with_reducible refine' k_rbmL ?h ?q); (case h => walk_at "sq"))
  | ((with_reducible refine' o_appendU ?hl ?q); (case hl => walk_at "len"))
  | ((with_reducible refine' o_append ?h ?hl ?q); (case h => walk_at "hp"); (case hl => walk_at "len"))
  | with_reducible refine k_ownIx ?_
  | ((with_reducible refine' k_rownIx ?h ?q); (case h => walk_at "hp"))
  | with_reducible refine k_ownPut ?_
  | ((with_reducible refine' k_rownPut ?h ?q); (case h => walk_at "hp"))
  | ((with_reducible refine' o_inT ?h ?q); (case h => walk_at "sq"))
  | ((with_reducible refine' o_ninT ?h ?q); (case h => walk_at "sq"))
  | ((with_reducible refine' o_inL ?h ?q); (case h => walk_at "sq"))
  | ((with_reducible refine' o_ninL ?h ?q); (case h => walk_at "sq"))
  | with_reducible refine o_pow18 ?_
  | with_reducible refine o_pow9 ?_
  | with_reducible refine o_pow30 ?_
  | with_reducible refine o_isB ?_
  | with_reducible refine o_neg ?_
  | with_reducible refine o_isN ?_
  | with_reducible refine o_notN ?_
  | with_reducible refine o_max ?_
  | with_reducible refine o_min ?_
  | with_reducible refine o_intI ?_
  | with_reducible refine o_intB ?_
  | with_reducible refine o_abs ?_
  | with_reducible refine k_forR1 ?_
  | with_reducible refine k_forR2 ?_
  | with_reducible refine k_forL ?_
  | with_reducible refine k_forT ?_
  | ((with_reducible refine' k_turnR ?e ?q); (case e => exact rfl))
  | with_reducible refine k_doneR ?_
  | ((with_reducible refine' k_turnL ?h ?q); (case h => walk_at "sq"))
  | ((with_reducible refine' k_doneL ?h ?q); (case h => walk_at "sq"))
  | ((with_reducible refine' k_turnT ?h ?q); (case h => walk_at "sq"))
  | ((with_reducible refine' k_doneT ?h ?q); (case h => walk_at "sq"))
  | with_reducible refine k_forA ?_
  | with_reducible refine k_lcA ?_
  | ((with_reducible refine' o_tupL ?h ?q); (case h => walk_at "sq"); intro p H' hp he hm)
  | ((with_reducible refine' o_lisL ?h ?q); (case h => walk_at "sq"); intro p H' hp he hm)
  | ((with_reducible refine' o_lisT ?h ?q); (case h => walk_at "sq"); intro p H' hp he hm)
  | ((with_reducible refine' o_tupT ?h ?q); (case h => walk_at "sq"))
  | with_reducible refine k_dyn ?_
  | ((with_reducible refine' k_rdyn ?h ?i ?c ?q); (case h => walk_at "hp"); (case i => infer_instance); (case c => infer_instance))
  | with_reducible refine k_brk ?_
  | with_reducible refine k_cont ?_
  | with_reducible refine k_raise ?_
  | with_reducible refine k_retN ?_
  | walk_at "un"
  | walk_at "cs"
  | ((with_reducible refine' k_itdT ?h ?q); (case h => first | with_reducible assumption | omega | decide))
  | ((with_reducible refine' k_itdF ?h ?q); (case h => first | with_reducible assumption | omega | decide))
  | ((with_reducible refine' k_ifT ?h ?q); (case h => walk_at "bt"))
  | ((with_reducible refine' k_ifF ?h ?q); (case h => walk_at "bt")))
local macro_rules | `(tactic| walk_at "go") => `(tactic| repeat walk_at "st")
local macro_rules | `(tactic| walk_at "sp") => `(tactic| repeat' (first | walk_at "st" | refine k_itd (fun h => ?_) (fun h => ?_) | refine k_itb (fun h => ?_) (fun h => ?_)))
local macro_rules | `(tactic| walk_at "cs") => `(tactic| ((with_reducible refine' s_law_entries ?hv ?q); (case hv => exact rfl); intro p H' hp he hm))
local macro_rules | `(tactic| walk_at "cs") => `(tactic| ((with_reducible refine' s_law_choices ?hv ?he ?q); (case hv => exact rfl); (case he => first | with_reducible assumption | exact InE.mem); intro p H' hp he hm))
local macro_rules | `(tactic| walk_at "cs") => `(tactic| ((with_reducible refine' s_law_choicesV ?hv ?he ?hc ?q); (case hv => exact rfl); (case he => infer_instance); (case hc => infer_instance); intro p H' hp he hm))
local macro_rules | `(tactic| walk_at "cs") => `(tactic| ((with_reducible refine' s_law_draws ?hv ?hm ?hs ?q); (case hv => exact rfl); (case hm => decide); (case hs => decide); intro p H' ds hp he hm hl hr))
local macro_rules | `(tactic| walk_at "cs") => `(tactic| ((with_reducible refine' k_ninEnt ?q)))
local macro_rules | `(tactic| walk_at "cs") => `(tactic| ((with_reducible refine' k_lenEnt ?q)))
local macro_rules | `(tactic| walk_at "cs") => `(tactic| ((with_reducible refine' o_ixTn ?h ?h0 ?e ?q); (case h => exact ent_sq); (case h0 => decide); (case e => exact rfl)))
local macro_rules | `(tactic| walk_at "cs") => `(tactic| ((with_reducible refine' k_ixW ?he ?q); (case he => first | with_reducible assumption | exact InE.mem)))
local macro_rules | `(tactic| walk_at "cs") => `(tactic| ((with_reducible refine' k_ninCh ?he ?q); (case he => first | with_reducible assumption | exact InE.mem)))
local macro_rules | `(tactic| walk_at "cs") => `(tactic| ((with_reducible refine' k_ninEntT ?he ?q); (case he => first | with_reducible assumption | exact InE.mem)))
local macro_rules | `(tactic| walk_at "cs") => `(tactic| ((with_reducible refine' k_ninChT ?he ?hc ?q); (case he => first | with_reducible assumption | exact InE.mem); (case hc => first | with_reducible assumption | decide +kernel)))
local macro_rules | `(tactic| walk_at "cs") => `(tactic| ((with_reducible refine' k_bkput ?h ?he ?q); (case h => walk_at "hp"); (case he => first | with_reducible assumption | exact InE.mem)))
local macro_rules | `(tactic| walk_at "cs") => `(tactic| ((with_reducible refine' k_bkget ?h ?he ?q); (case h => walk_at "hp"); (case he => first | with_reducible assumption | exact InE.mem)))
local macro_rules | `(tactic| walk_at "cs") => `(tactic| ((with_reducible refine' s_Book_getitem ?hv ?ha ?hd ?he ?hf ?q); (case hv => exact rfl); (case ha => walk_at "hp"); (case hd => walk_at "hp"); (case he => infer_instance); (case hf => infer_instance)))
local macro_rules | `(tactic| walk_at "cs") => `(tactic| ((with_reducible refine' s_Book_setitem ?hv ?ha ?hd ?he ?hc ?q); (case hv => exact rfl); (case ha => walk_at "hp"); (case hd => walk_at "hp"); (case he => infer_instance); (case hc => first | with_reducible assumption | decide +kernel)))
local macro_rules | `(tactic| walk_at "cs") => `(tactic| ((with_reducible refine' s_mkBook ?hv ?h0 ?h1 ?h2 ?h3 ?h4 ?h5 ?h6 ?h7 ?h8 ?h9 ?q); (case hv => exact rfl); (case h0 => decide +kernel); (case h1 => decide +kernel); (case h2 => decide +kernel); (case h3 => decide +kernel); (case h4 => decide +kernel); (case h5 => decide +kernel); (case h6 => decide +kernel); (case h7 => decide +kernel); (case h8 => decide +kernel); (case h9 => decide +kernel); intro x dx d H' hx hd hn he hxm hdm))
local macro_rules | `(tactic| walk_at "cs") => `(tactic| ((with_reducible refine' s_Book_setitemU ?hv ?ha ?he ?hc ?q); (case hv => exact rfl); (case ha => walk_at "hp"); (case he => infer_instance); (case hc => first | with_reducible assumption | decide +kernel)))
local macro_rules | `(tactic| walk_at "cs") => `(tactic| ((with_reducible refine' k_bkput ?h ?he ?q); (case h => walk_at "hp"); (case he => first | with_reducible assumption | exact InE.mem)))
local macro_rules | `(tactic| walk_at "cs") => `(tactic| ((with_reducible refine' k_bkget ?h ?he ?q); (case h => walk_at "hp"); (case he => first | with_reducible assumption | exact InE.mem)))
local macro_rules | `(tactic| walk_at "cs") => `(tactic| ((with_reducible refine' k_rdputB ?h ?hm ?q); (case h => walk_at "hp"); (case hm => omega)))
section
variable {K : PySem.W.Frag} [TxtK K] {w : World} [BookW K w] {k : Nat} {H : Hp} {Q : VK} {E : XK} {xs : List V} {a b d dx : Addr}
def BASES : List Str := ["join stop leave raise stop skip skip stick stick stick", "join partly leave raise stop stop stop stick stop stick", "join raise raise raise pass blank skip stick stick stick", "short skip leave raise pass skip skip stick stick stop", "short raise leave stop pass blank show forget forget forget",
  "short partly raise raise stop stop skip stop stick stick", "join raise leave raise pass stop stop stick stick stick", "join partly leave raise pass stop stop stop stick stick", "short partly leave raise stop skip skip stick stick stick", "join stop leave raise stop skip skip stick forget stick"]
theorem bases_ok : ∀ s ∈ BASES, (Txt.split s (" " : Str)).length = 10 ∧ s.length ≤ 90 ∧ ∀ m < 10, sv (Txt.split s (" " : Str)) (m : Nat) ∈ chs (sv ENT (m : Nat)) := by decide +kernel
theorem s_law_picks {ds : List Int} (hv : xs = [.ref a]) (hS : SqL K H a (ds.map V.int)) (hl : ds.length = 20) (hr : rng60 ds) (q : ∀ p H' f, H p = none → Ex H H' → H' p = some (.dK (bk f)) → Good f → Q (.ref p) H') : Gam K w (k + 2) .law_picks xs H Q E := by
  subst hv
  refine ⟨rfl, ?_⟩
  unfold rd_law_picks
  refine k_start ?_
  walk_at "go"
  rename_i p1 H1 hp1 he1 hm1
  refine o_ixSv (l := BASES) (sqL_of (xs := BASES.map V.str) hm1) (by omega) (by show _ < (10 : Int); omega) ?_
  walk_at "go"
  have hb := bases_ok (sv BASES (cellv ds 1 % 10)) (sv_mem (by omega) (by show _ < (10 : Int); omega))
  generalize sv BASES (cellv ds 1 % 10) = bs at hb ⊢
  refine o_splitA (by decide) (by omega) rfl (by omega) ?_
  obtain ⟨hb1, _, hb3⟩ := hb
  generalize Txt.split bs (" " : Str) = bl at hb1 hb3 ⊢
  intro p2 H2 hp2 he2 hm2
  clear hm1
  walk_at "go"
  rename_i p3 H3 hp3 he3 hm3 p4 H4 hp4 he4 hm4
  have hall : ∀ e ∈ ENT, 2 ≤ (chs e).length := fun e he => (chx_ok e he).2.2.2
  have hlE : ENT.length = 10 := rfl
  refine k_rr1I ⟨by omega, by omega⟩ (fun m σ H' => ∃ (f : Str → Str) (u5 u6 u7 : Option V), σ = [some (.ref a), some (.ref p1), some (.ref p2), some (.ref p3), some (.ref p4), u5, u6, u7] ∧ (∀ i < m, f (sv ENT (i : Nat)) ∈ chs (sv ENT (i : Nat))) ∧ Ex H H' ∧ H' p2 = some (.lst (bl.map V.str)) ∧ H' p3 = some (.lst (ENT.map V.str)) ∧ H' p4 = some (.dK (bkm m f)))
    ⟨fun _ => "", none, none, none, rfl, (fun i hi => absurd hi (Nat.not_lt_zero i)), by walk_at "ex", by walk_at "hp", by walk_at "hp", hm4⟩ ?_ ?_
  · intro m σ H' hm hI
    obtain ⟨f, u5, u6, u7, rfl, hg, hx, e2, e3, e4⟩ := hI
    obtain ⟨_, _, hmem⟩ := ent_fresh m (by omega)
    have hlen := hall _ hmem
    dsimp only [List.set]
    walk_at "go"
    refine ⟨_, _, _, _, rfl, goods_set (by omega) hg ?_, by walk_at "ex", by walk_at "hp", by walk_at "hp", upd_same⟩
    split
    · exact sv_mem (by walk_at "ib") (by walk_at "ib")
    · exact hb3 m (by omega)
  · rintro σ H' ⟨f, u5, u6, u7, rfl, hg, hx, e2, e3, e4⟩
    have hgf := good_of hg
    have e4 : H' p4 = some (.dK (bk f)) := e4
    clear hg hm2 hm3 hm4
    walk_at "go"
    have hj : ∃ j : Nat, (j : Int) = (if decide (cellv ds 0 % 3 = 1) = true then (1 : Int) else 0) * (1 + cellv ds 12 % 2) ∧ j ≤ 2 := by
      cases decide (cellv ds 0 % 3 = 1)
      · exact ⟨0, by simp, by decide⟩
      · refine ⟨(1 + cellv ds 12 % 2).toNat, ?_, ?_⟩
        · simp only [if_true, Int.one_mul]; omega
        · omega
    obtain ⟨j, hj, hj2⟩ := hj
    rw [← hj]
    refine k_rr1I ⟨by omega, by omega⟩ (fun m σ H' => ∃ (f : Str → Str) (u5 u6 u7 : Option V), σ = [some (.ref a), some (.ref p1), some (.ref p2), some (.ref p3), some (.ref p4), u5, u6, u7] ∧ Good f ∧ Ex H H' ∧ H' p3 = some (.lst (ENT.map V.str)) ∧ H' p4 = some (.dK (bk f)))
      ⟨f, _, _, _, rfl, hgf, hx, e3, e4⟩ ?_ ?_
    · clear e3 e4 hgf hx
      intro m σ H' hm hI
      obtain ⟨f, u5, u6, u7, rfl, hgf, hx, e3, e4⟩ := hI
      dsimp only [List.set]
      walk_at "go"
      have hm7 : sv ENT (cellv ds (13 + 2 * (m : Int)) % 10) ∈ ENT := sv_mem (by omega) (by omega)
      generalize sv ENT (cellv ds (13 + 2 * (m : Int)) % 10) = e at hm7 ⊢
      have := chs_two hm7
      walk_at "go"
      exact ⟨_, _, _, _, rfl, hgf.set (sv_mem (by walk_at "ib") (by walk_at "ib")), by walk_at "ex", by walk_at "hp", upd_same⟩
    · rintro σ H' ⟨f, u5, u6, u7, rfl, hgf, hx, e3, e4⟩
      walk_at "go"
      exact q p4 H' f (by walk_at "nn") hx e4 hgf
end
local macro_rules | `(tactic| walk_at "cs") => `(tactic| ((with_reducible refine' s_law_picks ?hv ?hS ?hl ?hr ?q); (case hv => exact rfl); (case hS => walk_at "sq"); (case hl => assumption); (case hr => assumption); intro p H' f hp he hm hg))
section
variable {K : PySem.W.Frag} [TxtK K] {w : World} [BookW K w] {k : Nat} {H : Hp} {Q : VK} {E : XK} {xs : List V} {a b d dx : Addr}
theorem s_law_book {f : Str → Str} (hv : xs = [.ref a]) (ha : H a = some (.dK (bk f))) (hg : Good f) (q : ∀ x dx d H', H x = none → H d = none → d ≠ x → Ex H H' → H' x = some (.ins (He.ga K "Book") dx (fs_Book (.ref d))) → H' d = some (.dK (bk f)) → Q (.ref x) H') : Gam K w (k + 2) .law_book xs H Q E := by
  subst hv
  refine ⟨rfl, ?_⟩
  unfold rd_law_book
  refine k_start ?_
  walk_at "go"
  rename_i x dx d H1 hx hd hn he hxm hdm p H2 hp he2 hm2
  refine k_rl (sqL_of hm2) ?_
  dsimp only [List.map] at hm2 ⊢
  have g0 := hg "work" InE.mem
  have g1 := hg "write" InE.mem
  have g2 := hg "meet" InE.mem
  have g3 := hg "test" InE.mem
  have g4 := hg "partly" InE.mem
  have g5 := hg "value" InE.mem
  have g6 := hg "path" InE.mem
  have g7 := hg "loop" InE.mem
  have g8 := hg "guard" InE.mem
  have g9 := hg "call" InE.mem
  walk_at "go"
  refine q x dx d _ hx hd hn (by walk_at "ex") (by walk_at "hp") ?_
  rw [upd_same, bk_full]
end
local macro_rules | `(tactic| walk_at "cs") => `(tactic| ((with_reducible refine' s_law_book ?hv ?ha ?hg ?q); (case hv => exact rfl); (case ha => walk_at "hp"); (case hg => assumption); intro x dx d H' hx hd hn he hxm hdm))
end L2.MP

set_option Elab.async false
set_option linter.all false
set_option maxRecDepth 100000
set_option maxHeartbeats 4000000
namespace L2.MP
open PySem PySem.Spec PyProof.Rows TL L2
/-! ### rules: comprehensions that map texts, slices, setting an item, joins -/
section
variable {K : PySem.W.Frag} {σ : L2.St} {H : Hp} {Q : VK} {te tl' : TE} {g : TG} {tt : TT} {vs : List Nat} {a : Addr} {j : Nat} {n b c : L2.St → Hp → Prop} {r : VK}
def RLL (K : PySem.W.Frag) (g : TG) (tt : TT) (te : TE) (vs : List Nat) (σ : L2.St) (Q : VK) (x : V) (H : Hp) : Prop := ∃ a, x = .ref a ∧ (∃ xs, SqL K H a xs) ∧ RLc (Itl K a) g tt te vs σ Q H
def RLT (K : PySem.W.Frag) (g : TG) (tt : TT) (te : TE) (vs : List Nat) (σ : L2.St) (Q : VK) (x : V) (H : Hp) : Prop := ∃ a, x = .ref a ∧ (∃ xs, SqT K H a xs) ∧ RLc (Itt K a) g tt te vs σ Q H
theorem k_lcL (h : tl' σ H (RLL K g tt te vs σ Q)) : tLc (iList K tl') g tt te vs σ H Q := h
theorem k_lcT (h : tl' σ H (RLT K g tt te vs σ Q)) : tLc (iTup K tl') g tt te vs σ H Q := h
theorem lc_turn {l : List Str} {F : Str → Str} {D : Addr} (hz : l.length ≤ 1000) (hD : H D = none) (ht : ∀ e ∈ l, ∀ H' Q', Ex H H' → Q' (.str (F e)) H' → te ((σ.set j none).set j (some (.str e))) H' Q') :
    ∀ i x H', (l.map V.str)[i]? = some x → (Ex H H' ∧ H' D = some (.lst (((l.take i).map F).map V.str))) → gName j x (wipe σ [j]) H' fun σ2 H2 => wipe σ2 [j] = wipe σ [j] ∧ tYes σ2 H2 fun b H3 =>
      if b = true then te σ2 H3 fun y H4 => ∃ acc, H4 D = some (.lst acc) ∧ acc.length < sizeLine ∧ (Ex H (upd H4 D (.lst (acc ++ [y]))) ∧ upd H4 D (.lst (acc ++ [y])) D = some (.lst (((l.take (i + 1)).map F).map V.str))) else (Ex H H3 ∧ H3 D = some (.lst (((l.take (i + 1)).map F).map V.str))) := by
  rintro i x H' hx ⟨he, hd⟩
  rw [List.getElem?_map] at hx
  cases hi : l[i]? with
  | none => rw [hi] at hx; cases hx
  | some e =>
    rw [hi] at hx
    cases hx
    have hm : e ∈ l := List.mem_of_getElem? hi
    refine ⟨by show ((σ.set j none).set j _).set j none = σ.set j none; rw [List.set_set, List.set_set], ?_⟩
    refine k_itT (B := Ex H H' ∧ H' D = some (.lst (((l.take (i + 1)).map F).map V.str))) (ht e hm H' _ he ⟨_, hd, ?_, ?_, ?_⟩)
    · rw [List.length_map, List.length_map, List.length_take]
      exact szl_of (by omega)
    · exact fun b o hb => by rw [upd_ne (ne_of_none hb hD)]; exact he b o hb
    · rw [upd_same, List.take_add_one, hi]
      simp
theorem k_lcML {l : List Str} (F : Str → Str) (h : SqL K H a (l.map V.str)) (hz : l.length ≤ 1000) (ht : ∀ e ∈ l, ∀ H' Q', Ex H H' → Q' (.str (F e)) H' → te ((σ.set j none).set j (some (.str e))) H' Q')
    (q : ∀ D H', H D = none → Ex H H' → H' D = some (.lst ((l.map F).map V.str)) → Q (.ref D) H') : RLL K (gName j) tYes te [j] σ Q (.ref a) H :=
  ⟨a, rfl, ⟨_, h⟩, fun D hD => lc_list (fun i H' => Ex H H' ∧ H' D = some (.lst (((l.take i).map F).map V.str))) ⟨Ex.new hD, upd_same⟩ (fun _ _ _ q => q.1.sqL h) (lc_turn hz hD ht)
    fun H' ⟨x, y⟩ => q D H' hD x (by rw [List.length_map, List.take_length] at y; exact y)⟩
theorem k_lcMT {l : List Str} (F : Str → Str) (h : SqT K H a (l.map V.str)) (hz : l.length ≤ 1000) (ht : ∀ e ∈ l, ∀ H' Q', Ex H H' → Q' (.str (F e)) H' → te ((σ.set j none).set j (some (.str e))) H' Q')
    (q : ∀ D H', H D = none → Ex H H' → H' D = some (.lst ((l.map F).map V.str)) → Q (.ref D) H') : RLT K (gName j) tYes te [j] σ Q (.ref a) H :=
  ⟨a, rfl, ⟨_, h⟩, fun D hD => lc_tup (fun i H' => Ex H H' ∧ H' D = some (.lst (((l.take i).map F).map V.str))) ⟨Ex.new hD, upd_same⟩ (fun _ _ _ q => q.1.sqT h) (lc_turn hz hD ht)
    fun H' ⟨x, y⟩ => q D H' hD x (by rw [List.length_map, List.take_length] at y; exact y)⟩
def RSet (o i v : V) (H : Hp) (Q : Hp → Prop) : Prop := rSetL o i v H Q
theorem k_asgSub {to ti : TE} (h : te σ H fun v H1 => to σ H1 fun o H2 => ti σ H2 fun i H3 => RSet o i v H3 (fun H4 => n σ H4)) : tAsg te (gSub to ti rSetL) ⟨n, r, b, c⟩ σ H := h
theorem k_rset {xs : List V} {v : V} {p : Int} {Q : Hp → Prop} (h : H a = some (.lst xs)) (h0 : 0 ≤ p) (h1 : p < xs.length) (q : Q (upd H a (.lst (xs.set p.toNat v)))) : RSet (.ref a) (.int p) v H Q :=
  ⟨a, xs, p, p.toNat, rfl, rfl, h, by unfold ixN; rw [if_pos h0, if_pos h1], q⟩
def RPart (Q : Option Int → Hp → Prop) (x : V) (H : Hp) : Prop := ∃ i, x = .int i ∧ Q (some i) H
theorem k_tSl {r : V → Option Int → Option Int → Hp → VK → Prop} {lo hi : TO} (h : te σ H fun x H1 => lo σ H1 fun l H2 => hi σ H2 fun u H3 => r x l u H3 Q) : tSl r te lo hi σ H Q := h
theorem k_noPart {Q : Option Int → Hp → Prop} (q : Q none H) : tNoPart σ H Q := q
theorem k_part {Q : Option Int → Hp → Prop} (h : te σ H (RPart Q)) : tPart te σ H Q := h
theorem k_rpart {Q : Option Int → Hp → Prop} {i : Int} (q : Q (some i) H) : RPart Q (.int i) H := ⟨i, rfl, q⟩
theorem o_slL {xs : List V} {lo hi : Option Int} (h : SqL K H a xs) (q : ∀ p H', H p = none → Ex H H' → H' p = some (.lst (cutV xs lo hi)) → Q (.ref p) H') : rSlAny K (.ref a) lo hi H Q := .inl ⟨a, xs, rfl, h, fun p hp => q p _ hp (Ex.new hp) upd_same⟩
theorem o_slS {z : Str} {lo hi : Option Int} (hz : z.length ≤ 100000) (q : Q (.str (cutS z lo hi)) H) : rSlAny K (.str z) lo hi H Q := .inr (.inr ⟨z, rfl, sz_of hz, q⟩)
theorem o_join {z : Str} {ys : List Str} (h : SqL K H a (ys.map V.str) ∨ SqT K H a (ys.map V.str)) (hz : (ys.map (·.length)).sum + ys.length * z.length ≤ 16777216) (q : Q (.str (Txt.join z ys)) H) : rJoinA K (.str z) [.ref a] H Q := ⟨z, a, ys, rfl, rfl, h, hz, q⟩
theorem o_starts {x y : Str} (q : Q (.bl (Txt.startswith x y)) H) : rStartsA (.str x) [.str y] H Q := ⟨x, y, rfl, rfl, q⟩
def RM0 (ro : V → List V → Hp → VK → Prop) (Q : VK) (x : V) (H : Hp) : Prop := (∃ a, x = .str a) ∧ ro x [] H Q
theorem k_m0 {ro : V → List V → Hp → VK → Prop} (h : te σ H (RM0 ro Q)) : tM0 ro te σ H Q := h
theorem k_rm0 {ro : V → List V → Hp → VK → Prop} {x : Str} (h : ro (.str x) [] H Q) : RM0 ro Q (.str x) H := ⟨⟨x, rfl⟩, h⟩
theorem o_upper {x : Str} (h : x.length ≤ 100000) (q : Q (.str (Txt.upper x)) H) : rUpperA (.str x) [] H Q := ⟨x, rfl, rfl, by omega, q⟩
def RReplC (y z : Str) (Q : VK) (v : V) (H1 : Hp) : Prop := ∃ x, v = .str x ∧ x.length + (x.length + 1) * z.length ≤ 16777216 ∧ Q (.str (Txt.replace x y z)) H1
theorem k_replC {y z : Str} (h : te σ H (RReplC y z Q)) : CwR.tReplC te y z σ H Q := h
theorem k_rreplC {x y z : Str} (h : x.length + (x.length + 1) * z.length ≤ 16777216) (q : Q (.str (Txt.replace x y z)) H) : RReplC y z Q (.str x) H := ⟨x, rfl, h, q⟩
theorem k_sv {l : List Str} {i : Int} : sv l i = svN l i.toNat := rfl
theorem o_ixN {l : List Str} {m : Nat} (h : SqL K H a (l.map V.str)) (h1 : m < l.length) (q : Q (.str (svN l m)) H) : rIx K (.ref a) (.int m) H Q := o_ixSv h (by omega) (by omega) q
theorem o_ixEnt [BookK K] {m : Nat} (h1 : m < 10) (q : Q (.str (svN ENT m)) H) : rIx K (.ref (He.ga K "ENTRIES")) (.int m) H Q := by
  refine o_ixT ent_sq (v := .str (svN ENT m)) (atI_toNat (by omega) ?_) q
  rw [Int.toNat_natCast, List.getElem?_map, List.getElem?_eq_getElem (by rw [ent10]; exact h1)]
  unfold svN
  rw [List.getD_eq_getElem?_getD, List.getElem?_eq_getElem (by rw [ent10]; exact h1)]
  rfl
end
/-! ### lengths -/
theorem len_tl (x : Str) : x.length = (tl x).length := by
  show x.cps.size = x.cps.toList.length
  simp
theorem ec_len : ∀ e ∈ ENT, e.length ≤ 20 ∧ (e ++ ("=" : Str)).length ≤ 20 ∧ ∀ c ∈ chs e, c.length ≤ 20 ∧ (e ++ ("=" : Str) ++ c).length ≤ 20 := by decide +kernel
theorem PLs_lens {f : Str → Str} (g : Good f) : ∀ x ∈ PLs f, x.length ≤ 40 := by
  intro x hx
  obtain ⟨e, he, rfl⟩ := List.mem_map.mp hx
  have := ((ec_len e he).2.2 _ (g e he)).2
  show (e ++ ("=" : Str) ++ f e).length ≤ 40
  omega
theorem sum_le {P : List Str} (h : ∀ x ∈ P, x.length ≤ 40) : (P.map (·.length)).sum ≤ 40 * P.length := by
  induction P with
  | nil => simp
  | cons x r ih =>
    have h1 := h x List.mem_cons_self
    have h2 := ih fun y hy => h y (List.mem_cons_of_mem _ hy)
    simp only [List.map_cons, List.sum_cons, List.length_cons]
    omega
theorem joinL_le (S : List Nat) : ∀ ls : List (List Nat), (joinL S ls).length ≤ (ls.map List.length).sum + ls.length * S.length
  | [] => by simp [joinL]
  | [p] => by simp [joinL]
  | p :: q :: r => by
    have ih := joinL_le S (q :: r)
    show (p ++ (S ++ joinL S (q :: r))).length ≤ _
    rw [List.length_append, List.length_append]
    simp only [List.map_cons, List.sum_cons, List.length_cons] at ih ⊢
    rw [show (r.length + 1 + 1) * S.length = (r.length + 1) * S.length + S.length from Nat.succ_mul _ _]
    omega
theorem join_le {z : Str} {P : List Str} : (Txt.join z P).length ≤ (P.map (·.length)).sum + P.length * z.length := by
  rw [len_tl, join_eq, tl_join]
  have := joinL_le (tl z) (P.map tl)
  rw [List.length_map, List.map_map] at this
  rw [len_tl z]
  have e : P.map (List.length ∘ tl) = P.map (·.length) := List.map_congr_left fun x _ => (len_tl x).symm
  rw [e] at this
  exact this
theorem sp1 : (" " : Str).length = 1 := by decide +kernel
theorem sp2 : ("  " : Str).length = 2 := by decide +kernel
theorem eq1 : ("=" : Str).length = 1 := by decide +kernel
theorem nl1 : ("\n" : Str).length = 1 := by decide +kernel
theorem join_sz {z : Str} {P : List Str} (h : ∀ x ∈ P, x.length ≤ 40) (hp : P.length ≤ 12) (hz : z.length ≤ 2) : (P.map (·.length)).sum + P.length * z.length ≤ 504 := by
  have := sum_le h
  have : P.length * z.length ≤ 12 * 2 := Nat.mul_le_mul hp hz
  omega
theorem tx_len {P : List Str} (h : ∀ x ∈ P, x.length ≤ 40) (hp : P.length ≤ 12) : (tx P).length ≤ 504 := Nat.le_trans join_le (join_sz h hp (by rw [sp1]; decide))
theorem bent_len : ∀ j < 10, ∀ way < 9, 3 ≤ way → (bentW j way).length ≤ 40 := by decide +kernel
theorem len_app (x y : Str) : (x ++ y).length = x.length + y.length := by rw [len_tl, tl_append, List.length_append, ← len_tl, ← len_tl]
theorem repl_PLs {f : Str → Str} (g : Good f) : Txt.replace (tx (PLs f)) (" " : Str) ("  " : Str) = Txt.join ("  " : Str) (PLs f) := by
  have hs := split_PLs g
  have h1 : ∀ z : Str, [z] ≠ PLs f := fun z e => by have := PLs_len (f := f); rw [← e] at this; cases this
  unfold Txt.split at hs
  split at hs
  · exact (h1 _ hs).elim
  · split at hs
    · exact (h1 _ hs).elim
    · rename_i h3
      unfold Txt.replace
      rw [if_neg (by simp only [Bool.or_eq_true, not_or]; exact ⟨h3, by decide +kernel⟩), hs]
      rfl
theorem spo_len {f : Str → Str} (g : Good f) {j way : Nat} (h : j < 10) (hw : way < 14) : (spo (PLs f) way j).length ≤ 1000 := by
  have hP := PLs_lens g
  have hl := PLs_len (f := f)
  have hs : ∀ i < 10, (svN (PLs f) i).length ≤ 40 := fun i hi => by
    rw [PLs_sv hi]
    exact hP _ (List.mem_of_getElem? (PLs_at hi))
  have h2 : (j + 1) % 10 < 10 := Nat.mod_lt _ (by decide)
  have ht := tx_len hP (by omega)
  unfold spo
  by_cases h0 : way = 0
  · rw [if_pos h0]
    refine Nat.le_trans (tx_len (fun y hy => (List.mem_or_eq_of_mem_set hy).elim (fun hy => (List.mem_or_eq_of_mem_set hy).elim (hP y) fun e => e ▸ hs _ h2) fun e => e ▸ hs _ h) ?_) (by decide)
    rw [List.length_set, List.length_set]; omega
  rw [if_neg h0]
  by_cases h1 : way = 1
  · rw [if_pos h1]
    refine Nat.le_trans (tx_len (fun y hy => hP y ((List.mem_append.mp hy).elim List.mem_of_mem_take List.mem_of_mem_drop)) ?_) (by decide)
    rw [List.length_append, List.length_take, List.length_drop]; omega
  rw [if_neg h1]
  by_cases h3 : way = 2
  · rw [if_pos h3]
    refine Nat.le_trans (tx_len (fun y hy => (List.mem_append.mp hy).elim (fun hy => (List.mem_append.mp hy).elim (fun z => hP y (List.mem_of_mem_take z)) fun z => by rw [List.mem_singleton.mp z]; exact hs j h) fun z => hP y (List.mem_of_mem_drop z)) ?_) (by decide)
    rw [List.length_append, List.length_append, List.length_take, List.length_drop]; simp; omega
  rw [if_neg h3]
  by_cases h9 : way < 9
  · rw [if_pos h9]
    refine Nat.le_trans (tx_len (fun y hy => (List.mem_or_eq_of_mem_set hy).elim (hP y) fun e => e ▸ bent_len j h way h9 (by omega)) ?_) (by decide)
    rw [List.length_set]; omega
  rw [if_neg h9]
  have : way = 9 ∨ way = 10 ∨ way = 11 ∨ way = 12 ∨ way = 13 := by omega
  rcases this with rfl | rfl | rfl | rfl | rfl
  · show (tx (PLs f) ++ (" " : Str)).length ≤ 1000
    rw [len_app, sp1]; omega
  · show ((" " : Str) ++ tx (PLs f)).length ≤ 1000
    rw [len_app, sp1]; omega
  · show (tx (PLs f) ++ ("\n" : Str)).length ≤ 1000
    rw [len_app, nl1]; omega
  · show (Txt.upper (tx (PLs f))).length ≤ 1000
    have e1 : tx (PLs f) = SX.S (tl (tx (PLs f))) := (mk_tl _).symm
    have e2 : Txt.upper (tx (PLs f)) = SX.S ((tl (tx (PLs f))).map up1) := by
      rw [e1]
      exact SX.upper_S (ascii_tx g)
    rw [e2, len_tl]
    show ((tl (tx (PLs f))).map up1).length ≤ 1000
    rw [List.length_map, ← len_tl]; omega
  · show (Txt.replace (tx (PLs f)) (" " : Str) ("  " : Str)).length ≤ 1000
    rw [repl_PLs g]
    exact Nat.le_trans join_le (Nat.le_trans (join_sz hP (by omega) (by rw [sp2]; decide)) (by decide))
theorem spl_le : ∀ (L acc : List Nat), ∀ p ∈ spl [32] 0 acc L, p.length ≤ acc.length + L.length
  | [], acc => by rw [spl_nil]; intro p hp; rw [List.mem_singleton.mp hp]; simp
  | c :: r, acc => by
    by_cases h : c = 32
    · subst h
      rw [spl_hit rfl]
      intro p hp
      rcases List.mem_cons.mp hp with e | hp
      · rw [e]; simp
      · have := spl_le r [] p hp
        simp only [List.length_nil, List.length_cons] at this ⊢
        omega
    · have hp : pre [32] (c :: r) = false := by simp [pre, h]
      rw [spl_miss hp]
      intro p hp
      have := spl_le r _ p hp
      simp only [List.length_append, List.length_cons, List.length_nil] at this ⊢
      omega
theorem split_le {x : Str} : (Txt.split x (" " : Str)).length ≤ x.length + 1 ∧ ∀ p ∈ Txt.split x (" " : Str), p.length ≤ x.length := by
  constructor
  · rw [split_len, len_tl]
    have := List.count_le_length (a := 32) (l := tl x)
    omega
  · intro p hp
    have h := split_spl x (" " : Str) (by rw [tl_sp]; simp) (kind_ok (by decide +kernel))
    have hm : tl p ∈ spl [32] 0 [] (tl x) := by
      rw [← tl_sp, ← h]
      exact List.mem_map_of_mem hp
    have := spl_le _ _ _ hm
    rw [len_tl, len_tl x]
    simpa using this
end L2.MP

set_option Elab.async false
set_option linter.all false
set_option maxRecDepth 100000
set_option maxHeartbeats 4000000
namespace L2.MP
open PySem PySem.Spec PyProof.Rows TL
/-! ### the stepping tactic -/
local macro_rules | `(tactic| walk_at "ne") => `(tactic| first
  | with_reducible assumption
  | ((with_reducible apply Ne.symm); with_reducible assumption)
  | ((with_reducible refine' ne_of_none ?a ?b); (case b => with_reducible assumption); (case a => walk_at "hp"))
  | ((with_reducible apply Ne.symm); (with_reducible refine' ne_of_none ?a ?b); (case b => with_reducible assumption); (case a => walk_at "hp"))
  | (refine' ne_of (by with_reducible assumption) (by with_reducible assumption) ?_; intro z; cases z))
local macro_rules | `(tactic| walk_at "hs") => `(tactic| first
  | with_reducible assumption
  | with_reducible exact upd_same
  | ((with_reducible apply up_new); (with_reducible assumption))
  | ((with_reducible apply Ex.at); (with_reducible assumption))
  | ((with_reducible apply up_ne); (walk_at "ne")))
local macro_rules | `(tactic| walk_at "hp") => `(tactic| ((repeat walk_at "hs"); done))
local macro_rules | `(tactic| walk_at "ss") => `(tactic| first
  | with_reducible assumption
  | ((with_reducible apply sqL_of); first | with_reducible assumption | with_reducible exact upd_same)
  | ((with_reducible apply sqT_of); first | with_reducible assumption | with_reducible exact upd_same)
  | ((with_reducible apply up_sqL); (with_reducible assumption))
  | ((with_reducible apply up_sqT); (with_reducible assumption))
  | ((with_reducible apply Ex.sqL); (with_reducible assumption))
  | ((with_reducible apply Ex.sqT); (with_reducible assumption))
  | ((with_reducible apply sqL_ne); (walk_at "ne"))
  | ((with_reducible apply sqT_ne); (walk_at "ne")))
local macro_rules | `(tactic| walk_at "sq") => `(tactic| ((repeat walk_at "ss"); done))
local macro_rules | `(tactic| walk_at "fl") => `(tactic| first
  | exact rfl
  | decide +kernel
  | (simp [flatOk, flat1]; done)
  | ((simp [flatOk, flat1]); decide +kernel))
local macro_rules | `(tactic| walk_at "ib") => `(tactic| first
  | omega
  | (refine Int.emod_nonneg _ ?_; omega)
  | (refine Int.emod_lt_of_pos _ ?_; omega))
local macro_rules | `(tactic| walk_at "ex") => `(tactic| first
  | with_reducible exact Ex.refl _
  | with_reducible assumption
  | ((with_reducible refine' Ex.trans ?a ?b); (case b => with_reducible assumption); (case a => walk_at "ex"))
  | ((with_reducible refine' Ex.new' ?a ?b); (case b => walk_at "nn"); (case a => walk_at "ex")))
local macro_rules | `(tactic| walk_at "nn") => `(tactic| first
  | with_reducible assumption
  | ((with_reducible refine' Ex.none ?a ?b); (case b => with_reducible assumption); (case a => walk_at "ex")))
local macro_rules | `(tactic| walk_at "bt") => `(tactic| first
  | exact rfl
  | (simp only [Bool.not_true, Bool.not_false, Bool.true_or, Bool.false_or, Bool.true_and, Bool.false_and, Bool.or_true, Bool.or_false, Bool.and_true, Bool.and_false, Bool.not_eq_true', Bool.not_eq_false', Bool.or_eq_true, Bool.or_eq_false_iff, Bool.and_eq_true, Bool.and_eq_false_iff, decide_eq_true_eq, decide_eq_false_iff_not] <;> omega)
  | (simp; done)
  | (simp; omega))
local macro_rules | `(tactic| walk_at "len") => `(tactic| first
  | exact Nat.le_of_ble_eq_true rfl
  | (simp only [List.length_cons, List.length_nil, List.length_append, List.length_map]; omega)
  | omega)
local macro_rules | `(tactic| walk_at "un") => `(tactic| fail)
local macro_rules | `(tactic| walk_at "cs") => `(tactic| fail)
local macro_rules | `(tactic| walk_at "st") => `(tactic| first
  | with_reducible refine k_var ?_
  | with_reducible refine k_asgS ?_
  | with_reducible refine k_c ?_
  | with_reducible refine k_op ?_
  | with_reducible refine k_cons ?_
  | with_reducible refine k_nil ?_
  | with_reducible refine k_seq ?_
  | with_reducible refine k_asg ?_
  | with_reducible refine k_cb ?_
  | with_reducible refine k_fld ?_
  | ((with_reducible refine' k_rfld ?h ?i ?j ?q); (case h => walk_at "hp"); (case i => infer_instance); (case j => infer_instance))
  | with_reducible refine k_if ?_
  | with_reducible refine k_test ?_
  | with_reducible refine k_bl ?_
  | with_reducible refine k_tB ?_
  | with_reducible refine k_itT ?_
  | with_reducible refine k_itF ?_
  | with_reducible refine k_next ?_
  | with_reducible refine k_ret ?_
  | with_reducible refine k_call ?_
  | with_reducible refine k_tup ?_
  | ((with_reducible refine' k_newTA ?h ?q); (case h => walk_at "len"); intro p H' hp he hm)
  | with_reducible refine k_lst ?_
  | ((with_reducible refine' k_newLA ?h ?q); (case h => walk_at "len"); intro p H' hp he hm)
  | with_reducible refine k_and ?_
  | with_reducible refine k_or ?_
  | with_reducible refine k_not ?_
  | with_reducible refine k_inot ?_
  | with_reducible refine o_eqI ?_
  | with_reducible refine o_eqB ?_
  | with_reducible refine o_eqS ?_
  | with_reducible refine o_neI ?_
  | with_reducible refine o_neB ?_
  | with_reducible refine o_neS ?_
  | with_reducible refine o_lt ?_
  | with_reducible refine o_le ?_
  | with_reducible refine o_gt ?_
  | with_reducible refine o_ge ?_
  | with_reducible refine o_addI ?_
  | ((with_reducible refine' o_addLA ?h1 ?h2 ?h ?q); (case h1 => walk_at "hp"); (case h2 => walk_at "hp"); (case h => walk_at "len"); intro p H' hp he hm; dsimp only [List.cons_append, List.nil_append] at hm)
  | with_reducible refine o_subI ?_
  | ((with_reducible refine' o_mod ?h ?q); (case h => first | decide | omega))
  | ((with_reducible refine' o_fdiv ?h ?q); (case h => first | exact ⟨by first | decide | omega, by first | decide | omega⟩ | exact ⟨by split <;> decide, by split <;> decide⟩))
  | ((with_reducible refine' o_mulI ?h ?q); (case h => first | exact .inl ⟨by first | decide | omega, by first | decide | omega⟩ | exact .inr ⟨by first | decide | omega, by first | decide | omega⟩))
  | ((with_reducible refine' o_ixTn ?h ?h0 ?e ?q); (case h => walk_at "sq"); (case h0 => decide); (case e => exact rfl))
  | ((with_reducible refine' o_ixLn ?h ?h0 ?e ?q); (case h => walk_at "sq"); (case h0 => decide); (case e => exact rfl))
  | ((with_reducible refine' o_ixD ?h ?h0 ?h1 ?q); (case h => walk_at "sq"); (case h0 => walk_at "ib"); (case h1 => walk_at "ib"))
  | ((with_reducible refine' o_ixSv ?h ?h0 ?h1 ?q); (case h => walk_at "sq"); (case h0 => walk_at "ib"); (case h1 => walk_at "ib"))
  | ((with_reducible refine' o_ix2S ?h ?q); (case h => walk_at "sq"))
  | ((with_reducible refine' o_ix2PT ?h ?hp ?q); (case h => walk_at "sq"); (case hp => omega))
  | ((with_reducible refine' o_ix2PL ?h ?hp ?q); (case h => walk_at "sq"); (case hp => omega))
  | ((with_reducible refine' o_inTI ?h ?c ?q); (case h => walk_at "sq"); (case c => infer_instance))
  | ((with_reducible refine' o_inLI ?h ?c ?q); (case h => walk_at "sq"); (case c => infer_instance))
  | ((with_reducible refine' o_ix2I ?h ?q); (case h => walk_at "sq"))
  | ((with_reducible refine' o_lenLS ?h ?q); (case h => walk_at "sq"))
  | ((with_reducible refine' o_lenLI ?h ?q); (case h => walk_at "sq"))
  | ((with_reducible refine' o_lenL ?h ?q); (case h => walk_at "sq"))
  | ((with_reducible refine' o_lenT ?h ?q); (case h => walk_at "sq"))
  | with_reducible refine' i_plain ?_
  | with_reducible refine' i_plainC ?_
  | ((with_reducible refine' i_insC ?h ?i ?c ?q); (case h => walk_at "hp"); (case i => infer_instance); (case c => infer_instance))
  | ((with_reducible refine' i_lst ?h ?c ?q); (case h => walk_at "hp"); (case c => infer_instance))
  | ((with_reducible refine' i_tup ?h ?c ?q); (case h => walk_at "hp"); (case c => infer_instance))
  | with_reducible refine k_prop ?_
  | ((with_reducible refine' k_rprop ?h ?q); (case h => walk_at "hp"))
  | with_reducible refine k_make ?_
  | with_reducible refine k_makeKS ?_
  | ((with_reducible refine' k_rmkK ?hl ?hg ?q); (case hl => exact rfl); (case hg => exact fun _ => rfl))
  | with_reducible refine k_meth ?_
  | ((with_reducible refine' k_rmeth ?h ?i ?q); (case h => walk_at "hp"); (case i => infer_instance))
  | with_reducible refine k_andV ?_
  | with_reducible refine k_orV ?_
  | with_reducible refine k_notV ?_
  | with_reducible refine k_rand ?_
  | with_reducible refine k_rnot ?_
  | with_reducible refine k_un ?_
  | with_reducible refine k_ifE ?_
  | with_reducible refine k_randT ?_
  | with_reducible refine k_randF ?_
  | with_reducible refine k_rorT ?_
  | with_reducible refine k_rorF ?_
  | with_reducible refine k_randtT ?_
  | with_reducible refine k_randtF ?_
  | with_reducible refine k_rortT ?_
  | with_reducible refine k_rortF ?_
  | ((with_reducible refine' k_randP ?h2 ?q); (case h2 => intro _ hq; (walk_at "go"); with_reducible exact hq))
  | ((with_reducible refine' k_rorP ?h2 ?q); (case h2 => intro _ hq; (walk_at "go"); with_reducible exact hq))
  | with_reducible refine k_randS ?_
  | with_reducible refine k_rorS ?_
  | ((with_reducible refine' k_rifI ?h1 ?h2 ?q); (case h1 => intro _ hq; (walk_at "go"); with_reducible exact hq); (case h2 => intro _ hq; (walk_at "go"); with_reducible exact hq))
  | with_reducible refine k_rifS ?_
  | ((with_reducible refine' k_randtP ?h2 ?q); (case h2 => intro _ hq; (walk_at "go"); with_reducible exact hq))
  | ((with_reducible refine' k_rortP ?h2 ?q); (case h2 => intro _ hq; (walk_at "go"); with_reducible exact hq))
  | with_reducible refine k_randtS ?_
  | with_reducible refine k_rortS ?_
  | ((with_reducible refine' k_own ?h ?i ?q); (case h => walk_at "hp"); (case i => walk_at "hp"))
  | ((with_reducible refine' k_ownI ?h ?q); (case h => walk_at "hp"))
  | ((with_reducible refine' k_ownA ?h ?q); (case h => walk_at "hp"))
  | with_reducible refine k_aug ?_
  | with_reducible refine o_addIp ?_
  | with_reducible refine k_drop ?_
  | with_reducible refine k_fldp ?_
  | ((with_reducible refine' k_rputU ?i ?j ?q); (case i => infer_instance); (case j => infer_instance))
  | ((with_reducible refine' k_rput ?h ?i ?j ?q); (case h => walk_at "hp"); (case i => infer_instance); (case j => infer_instance))
  | ((with_reducible refine' k_dispA ?h ?q); (case h => exact Nat.le_of_ble_eq_true rfl); intro p H' hp he hm)
  | with_reducible refine k_newK ?_
  | ((with_reducible refine' k_newDA ?q); intro p H' hp he hm)
  | with_reducible refine k_dget ?_
  | with_reducible refine k_dget2 ?_
  | ((with_reducible refine' k_rdgetC ?h ?e ?q); (case h => walk_at "hp"); (case e => infer_instance))
  | ((with_reducible refine' k_rdg2 ?h ?q); (case h => walk_at "hp"))
  | ((with_reducible refine' k_rdo ?h ?q); (case h => walk_at "hp"))
  | with_reducible refine k_dput ?_
  | ((with_reducible refine' k_rdputU ?hl ?e ?q); (case hl => exact Nat.le_of_ble_eq_true rfl); (case e => infer_instance))
  | ((with_reducible refine' k_rdputC ?h ?hl ?e ?q); (case h => walk_at "hp"); (case hl => exact Nat.le_of_ble_eq_true rfl); (case e => infer_instance))
  | with_reducible refine k_m1 ?_
  | with_reducible refine k_rm1 ?_
  | with_reducible refine k_bm ?_
  | ((with_reducible refine' k_rbmL ?h ?q); (case h => walk_at "sq"))
  | ((with_reducible refine' o_appendU ?hl ?q); (case hl => walk_at "len"))
  | ((with_reducible refine' o_append ?h ?hl ?q); (case h => walk_at "hp"); (case hl => walk_at "len"))
  | with_reducible refine k_ownIx ?_
  | ((with_reducible refine' k_rownIx ?h ?q); (case h => walk_at "hp"))
  | with_reducible refine k_ownPut ?_
  | ((with_reducible refine' k_rownPut ?h ?q); (case h => walk_at "hp"))
  | ((with_reducible refine' o_inT ?h ?q); (case h => walk_at "sq"))
  | ((with_reducible refine' o_ninT ?h ?q); (case h => walk_at "sq"))
  | ((with_reducible refine' o_inL ?h ?q); (case h => walk_at "sq"))
  | ((with_reducible refine' o_ninL ?h ?q); (case h => walk_at "sq"))
  | with_reducible refine o_pow18 ?_
  | with_reducible refine o_pow9 ?_
  | with_reducible refine o_pow30 ?_
  | with_reducible refine o_isB ?_
  | with_reducible refine o_neg ?_
  | with_reducible refine o_isN ?_
  | with_reducible refine o_notN ?_
  | with_reducible refine o_max ?_
  | with_reducible refine o_min ?_
  | with_reducible refine o_intI ?_
  | with_reducible refine o_intB ?_
  | with_reducible refine o_abs ?_
  | with_reducible refine k_forR1 ?_
  | with_reducible refine k_forR2 ?_
  | with_reducible refine k_forL ?_
  | with_reducible refine k_forT ?_
  | ((with_reducible refine' k_turnR ?e ?q); (case e => exact rfl))
  | with_reducible refine k_doneR ?_
  | ((with_reducible refine' k_turnL ?h ?q); (case h => walk_at "sq"))
  | ((with_reducible refine' k_doneL ?h ?q); (case h => walk_at "sq"))
  | ((with_reducible refine' k_turnT ?h ?q); (case h => walk_at "sq"))
  | ((with_reducible refine' k_doneT ?h ?q); (case h => walk_at "sq"))
  | with_reducible refine k_forA ?_
  | with_reducible refine k_lcA ?_
  | ((with_reducible refine' o_tupL ?h ?q); (case h => walk_at "sq"); intro p H' hp he hm)
  | ((with_reducible refine' o_lisL ?h ?q); (case h => walk_at "sq"); intro p H' hp he hm)
  | ((with_reducible refine' o_lisT ?h ?q); (case h => walk_at "sq"); intro p H' hp he hm)
  | ((with_reducible refine' o_tupT ?h ?q); (case h => walk_at "sq"))
  | with_reducible refine k_dyn ?_
  | ((with_reducible refine' k_rdyn ?h ?i ?c ?q); (case h => walk_at "hp"); (case i => infer_instance); (case c => infer_instance))
  | with_reducible refine k_brk ?_
  | with_reducible refine k_cont ?_
  | with_reducible refine k_raise ?_
  | with_reducible refine k_retN ?_
  | walk_at "un"
  | walk_at "cs"
  | ((with_reducible refine' k_itdT ?h ?q); (case h => first | with_reducible assumption | omega | decide))
  | ((with_reducible refine' k_itdF ?h ?q); (case h => first | with_reducible assumption | omega | decide))
  | ((with_reducible refine' k_ifT ?h ?q); (case h => walk_at "bt"))
  | ((with_reducible refine' k_ifF ?h ?q); (case h => walk_at "bt")))
local macro_rules | `(tactic| walk_at "go") => `(tactic| repeat walk_at "st")
local macro_rules | `(tactic| walk_at "sp") => `(tactic| repeat' (first | walk_at "st" | refine k_itd (fun h => ?_) (fun h => ?_) | refine k_itb (fun h => ?_) (fun h => ?_)))
section
variable {K : PySem.W.Frag} [TxtK K] {w : World} {k : Nat} {H : Hp} {Q : VK} {E : XK} {xs : List V} {a b dx dy : Addr} {n m : Int} {l l' : Bool}
theorem s_law_cell {i : Int} {ns : List Int} (hv : xs = [.ref a, .int i]) (hS : SqL K H a (ns.map V.int)) (hi : 0 ≤ i) (q : Q (.int (cellv ns i)) H) : Gam K w (k + 1) .law_cell xs H Q E := by
  subst hv
  refine ⟨rfl, ?_⟩
  unfold rd_law_cell
  refine k_start ?_
  walk_at "go"
  refine k_itd (fun h => ?_) (fun h => ?_)
  · walk_at "go"
    exact q
  · walk_at "go"
    rw [cell_out hi (by simpa using h)] at q
    exact q
end
local macro_rules | `(tactic| walk_at "cs") => `(tactic| ((with_reducible refine' s_law_cell ?hv ?hS ?hi ?q); (case hv => exact rfl); (case hS => walk_at "sq"); (case hi => first | decide | omega)))
local macro_rules | `(tactic| walk_at "cs") => `(tactic| ((with_reducible refine' s_law_entries ?hv ?q); (case hv => exact rfl); intro p H' hp he hm))
local macro_rules | `(tactic| walk_at "cs") => `(tactic| ((with_reducible refine' s_law_choices ?hv ?he ?q); (case hv => exact rfl); (case he => first | with_reducible assumption | exact InE.mem); intro p H' hp he hm))
local macro_rules | `(tactic| walk_at "cs") => `(tactic| ((with_reducible refine' s_law_choicesV ?hv ?he ?hc ?q); (case hv => exact rfl); (case he => infer_instance); (case hc => infer_instance); intro p H' hp he hm))
local macro_rules | `(tactic| walk_at "cs") => `(tactic| ((with_reducible refine' s_law_draws ?hv ?hm ?hs ?q); (case hv => exact rfl); (case hm => decide); (case hs => decide); intro p H' ds hp he hm hl hr))
local macro_rules | `(tactic| walk_at "cs") => `(tactic| ((with_reducible refine' k_ninEnt ?q)))
local macro_rules | `(tactic| walk_at "cs") => `(tactic| ((with_reducible refine' k_lenEnt ?q)))
local macro_rules | `(tactic| walk_at "cs") => `(tactic| ((with_reducible refine' o_ixTn ?h ?h0 ?e ?q); (case h => exact ent_sq); (case h0 => decide); (case e => exact rfl)))
local macro_rules | `(tactic| walk_at "cs") => `(tactic| ((with_reducible refine' k_ixW ?he ?q); (case he => first | with_reducible assumption | exact InE.mem)))
local macro_rules | `(tactic| walk_at "cs") => `(tactic| ((with_reducible refine' k_ninCh ?he ?q); (case he => first | with_reducible assumption | exact InE.mem)))
local macro_rules | `(tactic| walk_at "cs") => `(tactic| ((with_reducible refine' k_ninEntT ?he ?q); (case he => first | with_reducible assumption | exact InE.mem)))
local macro_rules | `(tactic| walk_at "cs") => `(tactic| ((with_reducible refine' k_ninChT ?he ?hc ?q); (case he => first | with_reducible assumption | exact InE.mem); (case hc => first | with_reducible assumption | decide +kernel)))
local macro_rules | `(tactic| walk_at "cs") => `(tactic| ((with_reducible refine' k_bkput ?h ?he ?q); (case h => walk_at "hp"); (case he => first | with_reducible assumption | exact InE.mem)))
local macro_rules | `(tactic| walk_at "cs") => `(tactic| ((with_reducible refine' k_bkget ?h ?he ?q); (case h => walk_at "hp"); (case he => first | with_reducible assumption | exact InE.mem)))
local macro_rules | `(tactic| walk_at "cs") => `(tactic| ((with_reducible refine' s_Book_getitem ?hv ?ha ?hd ?he ?hf ?q); (case hv => exact rfl); (case ha => walk_at "hp"); (case hd => walk_at "hp"); (case he => infer_instance); (case hf => infer_instance)))
local macro_rules | `(tactic| walk_at "cs") => `(tactic| ((with_reducible refine' s_Book_setitem ?hv ?ha ?hd ?he ?hc ?q); (case hv => exact rfl); (case ha => walk_at "hp"); (case hd => walk_at "hp"); (case he => infer_instance); (case hc => first | with_reducible assumption | decide +kernel)))
local macro_rules | `(tactic| walk_at "cs") => `(tactic| ((with_reducible refine' s_mkBook ?hv ?h0 ?h1 ?h2 ?h3 ?h4 ?h5 ?h6 ?h7 ?h8 ?h9 ?q); (case hv => exact rfl); (case h0 => decide +kernel); (case h1 => decide +kernel); (case h2 => decide +kernel); (case h3 => decide +kernel); (case h4 => decide +kernel); (case h5 => decide +kernel); (case h6 => decide +kernel); (case h7 => decide +kernel); (case h8 => decide +kernel); (case h9 => decide +kernel); intro x dx d H' hx hd hn he hxm hdm))
local macro_rules | `(tactic| walk_at "cs") => `(tactic| ((with_reducible refine' s_Book_setitemU ?hv ?ha ?he ?hc ?q); (case hv => exact rfl); (case ha => walk_at "hp"); (case he => infer_instance); (case hc => first | with_reducible assumption | decide +kernel)))
local macro_rules | `(tactic| walk_at "cs") => `(tactic| ((with_reducible refine' s_law_picks ?hv ?hS ?hl ?hr ?q); (case hv => exact rfl); (case hS => walk_at "sq"); (case hl => assumption); (case hr => assumption); intro p H' f hp he hm hg))
local macro_rules | `(tactic| walk_at "cs") => `(tactic| ((with_reducible refine' s_law_book ?hv ?ha ?hg ?q); (case hv => exact rfl); (case ha => walk_at "hp"); (case hg => assumption); intro x dx d H' hx hd hn he hxm hdm))
local macro_rules | `(tactic| walk_at "cs") => `(tactic| ((with_reducible refine' k_lcL ?q)))
local macro_rules | `(tactic| walk_at "cs") => `(tactic| ((with_reducible refine' k_lcT ?q)))
local macro_rules | `(tactic| walk_at "cs") => `(tactic| ((with_reducible refine' k_asgSub ?q)))
local macro_rules | `(tactic| walk_at "cs") => `(tactic| ((with_reducible refine' k_tSl ?q)))
local macro_rules | `(tactic| walk_at "cs") => `(tactic| ((with_reducible refine' k_noPart ?q)))
local macro_rules | `(tactic| walk_at "cs") => `(tactic| ((with_reducible refine' k_part ?q)))
local macro_rules | `(tactic| walk_at "cs") => `(tactic| ((with_reducible refine' k_rpart ?q)))
local macro_rules | `(tactic| walk_at "cs") => `(tactic| ((with_reducible refine' o_starts ?q)))
local macro_rules | `(tactic| walk_at "cs") => `(tactic| ((with_reducible refine' k_m0 ?q)))
local macro_rules | `(tactic| walk_at "cs") => `(tactic| ((with_reducible refine' k_rm0 ?q)))
local macro_rules | `(tactic| walk_at "cs") => `(tactic| ((with_reducible refine' k_replC ?q)))
local macro_rules | `(tactic| walk_at "cs") => `(tactic| ((with_reducible refine' o_ixN ?h ?h1 ?q); (case h => walk_at "sq"); (case h1 => omega)))
local macro_rules | `(tactic| walk_at "cs") => `(tactic| ((with_reducible refine' o_ixEnt ?h1 ?q); (case h1 => omega)))
local macro_rules | `(tactic| walk_at "cs") => `(tactic| ((with_reducible refine' o_addS ?h ?q); (case h => omega)))
local macro_rules | `(tactic| walk_at "cs") => `(tactic| ((with_reducible refine' o_slS ?hz ?q); (case hz => omega)))
local macro_rules | `(tactic| walk_at "cs") => `(tactic| ((with_reducible refine' o_upper ?h ?q); (case h => omega)))
local macro_rules | `(tactic| walk_at "cs") => `(tactic| ((with_reducible refine' o_lenS ?h ?q); (case h => omega)))
local macro_rules | `(tactic| walk_at "cs") => `(tactic| ((with_reducible refine' i_excC ?hd ?c ?q); (case hd => exact .inl rfl); (case c => infer_instance)))
local macro_rules | `(tactic| walk_at "cs") => `(tactic| ((with_reducible refine' i_excT ?hd ?c ?q); (case hd => exact .inl rfl); (case c => infer_instance)))
local macro_rules | `(tactic| walk_at "cs") => `(tactic| ((with_reducible refine' i_excA ?hd ?h ?p ?c ?q); (case hd => exact .inl rfl); (case h => walk_at "hp"); (case p => infer_instance); (case c => infer_instance)))
section
open L2
theorem k_rsetS {H : Hp} {a : Addr} {l : List Str} {m : Nat} {s : Str} {Q : Hp → Prop} (h : H a = some (.lst (l.map V.str))) (hm : m < l.length) (q : ∀ H', ExB a H H' → H' a = some (.lst ((l.set m s).map V.str)) → Q H') : RSet (.ref a) (.int (m : Nat)) (.str s) H Q :=
  k_rset h (by omega) (by rw [List.length_map]; omega) (q _ ExB.set (by rw [upd_same, List.map_set]; rfl))
theorem o_slT {K : PySem.W.Frag} {H : Hp} {Q : VK} {a : Addr} {l : List Str} {m : Nat} (h : SqL K H a (l.map V.str)) (hm : m ≤ l.length) (q : ∀ p H', H p = none → Ex H H' → H' p = some (.lst ((l.take m).map V.str)) → Q (.ref p) H') : rSlAny K (.ref a) none (some (m : Nat)) H Q := by
  refine o_slL h fun p H' hp he e => q p H' hp he ?_
  rw [e]
  unfold cutV
  rw [HT.sIx_none, HT.sIx_nat, List.length_map, List.drop_zero, Nat.sub_zero, Nat.min_eq_left hm, List.map_take]
theorem o_slD {K : PySem.W.Frag} {H : Hp} {Q : VK} {a : Addr} {l : List Str} {m : Nat} {p : Int} (h : SqL K H a (l.map V.str)) (hp : p = (m : Nat)) (hm : m ≤ l.length) (q : ∀ p H', H p = none → Ex H H' → H' p = some (.lst ((l.drop m).map V.str)) → Q (.ref p) H') : rSlAny K (.ref a) (some p) none H Q := by
  subst hp
  refine o_slL h fun p H' hp he e => q p H' hp he ?_
  rw [e]
  unfold cutV
  rw [HT.sIx_none, HT.sIx_nat, List.length_map, Nat.min_eq_left hm, List.take_of_length_le (by rw [List.length_drop, List.length_map]; omega), List.map_drop]
theorem way2 {l : List Str} {way : Nat} : sv l ((way : Int) - 2) = svN l (way - 2) := by
  unfold sv svN
  have : ((way : Int) - 2).toNat = way - 2 := by omega
  rw [this]
theorem mulok {b : Bool} : MulOk ("X" : Str) (if b = true then 1 else 0) := by
  cases b
  all_goals unfold MulOk
  · exact ⟨by decide, fun h => absurd (by decide) h, fun h => absurd (by decide) h⟩
  · exact ⟨by decide, fun _ h => Bool.noConfusion h, fun _ h => Bool.noConfusion h⟩
theorem spl_ec : ∀ j < 10, ∀ c ∈ chs (svN ENT j), sv (Txt.split (svN ENT j ++ ("=" : Str) ++ c) ("=" : Str)) 0 = svN ENT j ∧ (0 < (Txt.split (svN ENT j ++ ("=" : Str) ++ c) ("=" : Str)).length ∧ (Txt.split (svN ENT j ++ ("=" : Str) ++ c) ("=" : Str)).length ≤ 90) ∧ (svN ENT j ++ ("=" : Str) ++ c).length ≤ 90 := by decide +kernel
theorem bent_lens : ∀ j < 10, ∀ way < 9, 3 ≤ way → ((svN ENT j).length ≤ 90 ∧ (svN SIG (way - 2)).length ≤ 90 ∧ (svN FIN (way - 2)).length ≤ 90 ∧ (svN ENT j ++ svN SIG (way - 2)).length ≤ 90 ∧ (svN ENT j ++ svN SIG (way - 2) ++ svN FIN (way - 2)).length ≤ 90) := by decide +kernel
end
section
variable {K : PySem.W.Frag} [TxtK K] {w : World} [BookW K w] {k : Nat} {H : Hp} {Q : VK} {E : XK} {xs : List V} {a b d dx : Addr} {e c t : Str} {f : Str → Str}
theorem s_Book_text (hv : xs = [.ref a]) (ha : H a = some (.ins (He.ga K "Book") dx (fs_Book (.ref d)))) (hd : H d = some (.dK (bk f))) (g : Good f) (q : ∀ H', Ex H H' → Q (.str (tx (PLs f))) H') : Gam K w (k + 1) .Book_text xs H Q E := by
  subst hv
  refine ⟨rfl, ?_⟩
  unfold rd_Book_text
  refine k_start ?_
  walk_at "go"
  refine k_lcMT (EC f) ent_sq (by decide) (fun e he H' Q' hx q' => ?_) fun D H' hD hx hm => ?_
  · haveI : InE e := ⟨he⟩
    have h1 := ec_len e he
    have h2 := (h1.2.2 _ (g e he)).1
    have h3 := eq1
    dsimp only [List.set]
    walk_at "go"
    exact q'
  · refine o_join (ys := PLs f) (.inl (sqL_of hm)) (Nat.le_trans (join_sz (PLs_lens g) (by rw [PLs_len]; decide) (by rw [sp1]; decide)) (by decide)) ?_
    exact q H' hx
theorem s_setBad (hv : xs = [.ref a, .str e, .str c]) (ha : H a = some (.ins (He.ga K "Book") dx (fs_Book (.ref d)))) (he : e ∈ ENT) (hc : c ∉ chs e) (qE : E (.ref (He.ga K "InvalidBook")) none H) : Gam K w (k + 1) .Book_setitem xs H Q E := by
  subst hv
  refine ⟨rfl, ?_⟩
  unfold rd_Book_setitem
  refine k_start ?_
  walk_at "go"
  exact qE
theorem s_read_book (hv : xs = [.str t]) (hl : t.length ≤ 1000)
    (qT : rbOk (Txt.split t (" " : Str)) = true → ∀ x dx d g H', H x = none → Ex H H' → H' x = some (.ins (He.ga K "Book") dx (fs_Book (.ref d))) → H' d = some (.dK (bk g)) → (∀ j < 10, g (svN ENT j) = cutOf (Txt.split t (" " : Str)) j) → Q (.ref x) H')
    (qE : rbOk (Txt.split t (" " : Str)) = false → ∀ H', Ex H H' → E (.ref (He.ga K "InvalidBook")) none H') : Gam K w (k + 2) .read_book xs H Q E := by
  subst hv
  refine ⟨rfl, ?_⟩
  unfold rd_read_book
  refine k_start ?_
  walk_at "go"
  rename_i x dx d H1 hx hd hn he hxm hdm
  obtain ⟨l1, l2⟩ := split_le (x := t)
  generalize hP : Txt.split t (" " : Str) = P at *
  refine o_splitA (by decide +kernel) (by omega) hP (by omega) fun p H2 hp he2 hm2 => ?_
  walk_at "go"
  refine k_itd (fun h10 => ?_) (fun h10 => ?_)
  · have hPl : P.length = 10 := by omega
    walk_at "go"
    refine k_rr1I ⟨by decide, by decide⟩ (fun m σ H' => ∃ (g : Str → Str) (u3 u4 : Option V), σ = [some (.str t), some (.ref x), some (.ref p), u3, u4] ∧ Ex H H' ∧ H' x = some (.ins (He.ga K "Book") dx (fs_Book (.ref d))) ∧ H' d = some (.dK (bk g)) ∧ H' p = some (.lst (P.map V.str)) ∧ ∀ i < m, okAt P i = true ∧ g (svN ENT i) = cutOf P i)
      ⟨_, none, none, rfl, by walk_at "ex", by walk_at "hp", by walk_at "hp", by walk_at "hp", fun i hi => absurd hi (Nat.not_lt_zero i)⟩ ?_ ?_
    · rintro m σ H' hm ⟨g, u3, u4, rfl, hx', g1, g2, g3, hg⟩
      have hm : m < 10 := by omega
      have hem := svN_mem m hm
      have h1 := ec_len _ hem
      have h2 := eq1
      have h3 : (svN P m).length ≤ t.length := l2 _ (by
        unfold svN
        rw [List.getD_eq_getElem?_getD, List.getElem?_eq_getElem (by omega)]
        exact List.getElem_mem _)
      have h4 : (sv P (m : Nat)).length ≤ t.length := h3
      haveI : InE (svN ENT m) := ⟨hem⟩
      dsimp only [List.set]
      walk_at "go"
      refine k_itb (fun hs => ?_) (fun hs => ?_)
      · walk_at "go"
        by_cases hc : cutOf P m ∈ chs (svN ENT m)
        · refine s_Book_setitem rfl g1 g2 ⟨hem⟩ hc ?_
          refine ⟨_, _, _, rfl, ?_, ?_, upd_same, ?_, ?_⟩
          · walk_at "ex"
          · walk_at "hp"
          · walk_at "hp"
          · intro i hi
            have hok : okAt P m = true := by
              unfold okAt
              rw [show Txt.startswith (svN P m) (svN ENT m ++ ("=" : Str)) = true from hs, decide_eq_true hc]
              rfl
            by_cases hi2 : i = m
            · subst hi2
              exact ⟨hok, if_pos rfl⟩
            · refine ⟨(hg i (by omega)).1, Eq.trans (if_neg fun z => hi2 (ent_inj i (by omega) m hm z)) (hg i (by omega)).2⟩
        · refine s_setBad rfl g1 hem hc ?_
          refine qE (bad_at hm ?_) _ hx'
          unfold okAt
          rw [decide_eq_false hc, Bool.and_false]
      · walk_at "go"
        refine qE (bad_at hm ?_) _ hx'
        unfold okAt
        rw [show Txt.startswith (svN P m) (svN ENT m ++ ("=" : Str)) = false from hs, Bool.false_and]
    · rintro σ H' ⟨g, u3, u4, rfl, hx', g1, g2, g3, hg⟩
      walk_at "go"
      refine qT ?_ x dx d g H' hx hx' g1 g2 fun j hj => (hg j hj).2
      unfold rbOk
      rw [decide_eq_true hPl, Bool.true_and, List.all_eq_true]
      exact fun i hi => (hg i (List.mem_range.mp hi)).1
  · walk_at "go"
    exact qE (bad_len (by omega)) _ (by walk_at "ex")
theorem s_law_refusedT (hv : xs = [.str t]) (hl : t.length ≤ 1000) (hr : rbOk (Txt.split t (" " : Str)) = false) (q : ∀ H', Ex H H' → Q (.bl true) H') : Gam K w (k + 3) .law_refused xs H Q E := by
  subst hv
  refine ⟨rfl, ?_⟩
  unfold rd_law_refused
  refine k_start ?_
  walk_at "go"
  refine s_read_book rfl hl (fun z => by rw [hr] at z; cases z) fun _ H1 hx1 => ?_
  refine k_wAs (c := .ref (He.ga K "InvalidBook")) TxtK.xm_InvalidBook_InvalidBook fun a ha => ?_
  dsimp only [List.set]
  walk_at "go"
  exact q _ (by walk_at "ex")
theorem s_law_spoilt {p : Addr} {way j : Nat} (hv : xs = [.ref p, .int way, .int j]) (hp : H p = some (.lst ((PLs f).map V.str))) (g : Good f) (hw : way < 14) (hj : j < 10) (q : ∀ H', Ex H H' → Q (.str (spo (PLs f) way j)) H') : Gam K w (k + 1) .law_spoilt xs H Q E := by
  subst hv
  refine ⟨rfl, ?_⟩
  unfold rd_law_spoilt
  refine k_start ?_
  have hP := PLs_lens g
  have hl := PLs_len (f := f)
  have ht := tx_len hP (by omega)
  walk_at "go"
  refine o_join (ys := PLs f) (.inl (sqL_of hp)) (Nat.le_trans (join_sz hP (by omega) (by rw [sp1]; decide)) (by decide)) ?_
  walk_at "go"
  rename_i c H1 hc he hm
  have e10 : ((j : Int) + 1) % 10 = ((j + 1) % 10 : Nat) := by omega
  have hi : (j + 1) % 10 < 10 := Nat.mod_lt _ (by decide)
  have hps : H1 p = some (.lst ((PLs f).map V.str)) := by walk_at "hp"
  have hsv : ∀ i < 10, (svN (PLs f) i).length ≤ 40 := fun i hi => by
    rw [PLs_sv hi]
    exact hP _ (List.mem_of_getElem? (PLs_at hi))
  have hex : ∀ H2, ExB c H1 H2 → Ex H H2 := fun H2 x b o hb => x b o (ne_of_none hb hc) (he b o hb)
  rw [e10]
  by_cases h0 : way = 0
  · subst h0
    walk_at "go"
    refine k_rsetS hm (by omega) fun H2 x2 hm2 => ?_
    have hp2 := x2 p _ (ne_of_none hp hc) hps
    walk_at "go"
    refine k_rsetS hm2 (by rw [List.length_set]; omega) fun H3 x3 hm3 => ?_
    walk_at "go"
    refine o_join (.inl (sqL_of hm3)) ?_ ?_
    · refine Nat.le_trans (join_sz (fun y hy => (List.mem_or_eq_of_mem_set hy).elim (fun hy => (List.mem_or_eq_of_mem_set hy).elim (hP y) fun e => e ▸ hsv _ hi) fun e => e ▸ hsv _ hj) (by rw [List.length_set, List.length_set]; omega) (by rw [sp1]; decide)) (by decide)
    · exact q _ (hex _ (x2.trans x3))
  by_cases h1 : way = 1
  · subst h1
    walk_at "go"
    refine o_slT (sqL_of hps) (by omega) fun p3 H3 hp3 he3 hm3 => ?_
    walk_at "go"
    refine o_slD (m := j + 1) (sqL_of (he3.at hps)) (by omega) (by omega) fun p4 H4 hp4 he4 hm4 => ?_
    refine o_addLA (he4.at hm3) hm4 (by rw [List.length_map, List.length_map, List.length_take, List.length_drop]; omega) fun p5 H5 hp5 he5 hm5 => ?_
    rw [← List.map_append] at hm5
    refine o_join (.inl (sqL_of hm5)) ?_ ?_
    · refine Nat.le_trans (join_sz (fun y hy => hP y ((List.mem_append.mp hy).elim List.mem_of_mem_take List.mem_of_mem_drop)) (by rw [List.length_append, List.length_take, List.length_drop]; omega) (by rw [sp1]; decide)) (by decide)
    · exact q _ (by walk_at "ex")
  by_cases h2 : way = 2
  · subst h2
    walk_at "go"
    refine o_slT (sqL_of hps) (by omega) fun p3 H3 hp3 he3 hm3 => ?_
    have hps3 := he3.at hps
    walk_at "go"
    rename_i p4 H4 hp4 he4 hm4
    have hps4 := he4.at hps3
    refine o_addLA (he4.at hm3) (ys := [svN (PLs f) j].map V.str) hm4 (by rw [List.length_map, List.length_map, List.length_take]; simp; omega) fun p5 H5 hp5 he5 hm5 => ?_
    rw [← List.map_append] at hm5
    have hps5 := he5.at hps4
    walk_at "go"
    refine o_slD (m := j) (sqL_of hps5) (by omega) (by omega) fun p6 H6 hp6 he6 hm6 => ?_
    refine o_addLA (he6.at hm5) hm6 (by rw [List.length_map, List.length_map, List.length_append, List.length_take, List.length_drop]; simp; omega) fun p7 H7 hp7 he7 hm7 => ?_
    rw [← List.map_append] at hm7
    refine o_join (.inl (sqL_of hm7)) ?_ ?_
    · refine Nat.le_trans (join_sz (fun y hy => (List.mem_append.mp hy).elim (fun hy => (List.mem_append.mp hy).elim (fun z => hP y (List.mem_of_mem_take z)) fun z => by rw [List.mem_singleton.mp z]; exact hsv j hj) fun z => hP y (List.mem_of_mem_drop z)) (by rw [List.length_append, List.length_append, List.length_take, List.length_drop]; simp; omega) (by rw [sp1]; decide)) (by decide)
    · exact q _ (by walk_at "ex")
  by_cases h9 : way < 9
  · walk_at "go"
    rename_i p3 H3 hp3 he3 hm3 p4 H4 hp4 he4 hm4
    have hs3 := spl_ec j hj (f (svN ENT j)) (g _ (svN_mem j hj))
    rw [show sv (PLs f) (j : Nat) = EC f (svN ENT j) from PLs_sv hj]
    refine o_splitA (by decide +kernel) (by have := hs3.2.2; show (svN ENT j ++ ("=" : Str) ++ f (svN ENT j)).length ≤ 90000; omega) rfl (by have := hs3.2.1; show (Txt.split (svN ENT j ++ ("=" : Str) ++ f (svN ENT j)) ("=" : Str)).length ≤ 90000; omega) fun p5 H5 hp5 he5 hm5 => ?_
    walk_at "go"
    refine o_ixSv (sqL_of hm5) (by decide) (by have := hs3.2.1; show _ < ((Txt.split (svN ENT j ++ ("=" : Str) ++ f (svN ENT j)) ("=" : Str)).length : Int); omega) ?_
    rw [show sv (Txt.split (EC f (svN ENT j)) ("=" : Str)) 0 = svN ENT j from hs3.1]
    have hb := bent_lens j hj way h9 (by omega)
    walk_at "go"
    refine o_ixSv (l := SIG) (sqL_of (xs := SIG.map V.str) (he5.at (he4.at hm3))) (by omega) (by show _ < (7 : Int); omega) ?_
    rw [way2 (l := SIG)]
    walk_at "go"
    refine o_ixSv (l := FIN) (sqL_of (xs := FIN.map V.str) (he5.at hm4)) (by omega) (by show _ < (7 : Int); omega) ?_
    rw [way2 (l := FIN)]
    walk_at "go"
    refine o_mulS mulok ?_
    rw [show Txt.mul ("X" : Str) (if decide ((way : Int) = 3) = true then 1 else 0) = Txt.mul ("X" : Str) (if way = 3 then 1 else 0) by
      by_cases z : way = 3
      · rw [if_pos z, if_pos (by simp; omega)]
      · rw [if_neg z, if_neg (by simp; omega)]]
    have hx1 : (Txt.mul ("X" : Str) (if way = 3 then 1 else 0)).length ≤ 90 := by split <;> decide +kernel
    walk_at "go"
    refine k_rsetS (m := j) (by walk_at "hp") (by omega) fun H6 x6 hm6 => ?_
    walk_at "go"
    refine o_join (.inl (sqL_of hm6)) ?_ ?_
    · refine Nat.le_trans (join_sz (fun y hy => (List.mem_or_eq_of_mem_set hy).elim (hP y) fun e => e ▸ bent_len j hj way h9 (by omega)) (by rw [List.length_set]; omega) (by rw [sp1]; decide)) (by decide)
    · have e : spo (PLs f) way j = tx ((PLs f).set j (bentW j way)) := by
        unfold spo
        rw [if_neg h0, if_neg h1, if_neg h2, if_pos h9]
      rw [e] at q
      exact q _ fun b o hb => x6 b o (ne_of_none hb hc) (he5.at (he4.at (he3.at (he.at hb))))
  · have h1s := sp1
    have h2s := sp2
    have h3s := nl1
    have ht : (Txt.join (" " : Str) (PLs f)).length ≤ 504 := ht
    walk_at "go"
    refine k_rreplC (by rw [sp2]; omega) ?_
    walk_at "go"
    rename_i p3 H3 hp3 he3 hm3
    refine o_ixSv (l := [tx (PLs f) ++ (" " : Str), (" " : Str) ++ tx (PLs f), tx (PLs f) ++ ("\n" : Str), Txt.upper (tx (PLs f)), Txt.replace (tx (PLs f)) (" " : Str) ("  " : Str)]) (sqL_of hm3) (by omega) (by show _ < (5 : Int); omega) ?_
    have e : spo (PLs f) way j = svN [tx (PLs f) ++ (" " : Str), (" " : Str) ++ tx (PLs f), tx (PLs f) ++ ("\n" : Str), Txt.upper (tx (PLs f)), Txt.replace (tx (PLs f)) (" " : Str) ("  " : Str)] (way - 9) := by
      unfold spo
      rw [if_neg h0, if_neg h1, if_neg h2, if_neg h9]
    rw [e] at q
    rw [k_sv, show ((way : Int) - 9).toNat = way - 9 by omega]
    exact q _ (by walk_at "ex")
end
end L2.MP

set_option Elab.async false
set_option linter.all false
set_option maxRecDepth 100000
set_option maxHeartbeats 4000000
namespace L2.MP
open PySem PySem.Spec PyProof.Rows TL
/-! ### the stepping tactic -/
local macro_rules | `(tactic| walk_at "ne") => `(tactic| first
  | with_reducible assumption
  | ((with_reducible apply Ne.symm); with_reducible assumption)
  | ((with_reducible refine' ne_of_none ?a ?b); (case b => with_reducible assumption); (case a => walk_at "hp"))
  | ((with_reducible apply Ne.symm); (with_reducible refine' ne_of_none ?a ?b); (case b => with_reducible assumption); (case a => walk_at "hp"))
  | (refine' ne_of (by with_reducible assumption) (by with_reducible assumption) ?_; intro z; cases z))
local macro_rules | `(tactic| walk_at "hs") => `(tactic| first
  | with_reducible assumption
  | with_reducible exact upd_same
  | ((with_reducible apply up_new); (with_reducible assumption))
  | ((with_reducible apply Ex.at); (with_reducible assumption))
  | ((with_reducible apply up_ne); (walk_at "ne")))
local macro_rules | `(tactic| walk_at "hp") => `(tactic| ((repeat walk_at "hs"); done))
local macro_rules | `(tactic| walk_at "ss") => `(tactic| first
  | with_reducible assumption
  | ((with_reducible apply sqL_of); first | with_reducible assumption | with_reducible exact upd_same)
  | ((with_reducible apply sqT_of); first | with_reducible assumption | with_reducible exact upd_same)
  | ((with_reducible apply up_sqL); (with_reducible assumption))
  | ((with_reducible apply up_sqT); (with_reducible assumption))
  | ((with_reducible apply Ex.sqL); (with_reducible assumption))
  | ((with_reducible apply Ex.sqT); (with_reducible assumption))
  | ((with_reducible apply sqL_ne); (walk_at "ne"))
  | ((with_reducible apply sqT_ne); (walk_at "ne")))
local macro_rules | `(tactic| walk_at "sq") => `(tactic| ((repeat walk_at "ss"); done))
local macro_rules | `(tactic| walk_at "fl") => `(tactic| first
  | exact rfl
  | decide +kernel
  | (simp [flatOk, flat1]; done)
  | ((simp [flatOk, flat1]); decide +kernel))
local macro_rules | `(tactic| walk_at "ib") => `(tactic| first
  | omega
  | (refine Int.emod_nonneg _ ?_; omega)
  | (refine Int.emod_lt_of_pos _ ?_; omega))
local macro_rules | `(tactic| walk_at "ex") => `(tactic| first
  | with_reducible exact Ex.refl _
  | with_reducible assumption
  | ((with_reducible refine' Ex.trans ?a ?b); (case b => with_reducible assumption); (case a => walk_at "ex"))
  | ((with_reducible refine' Ex.new' ?a ?b); (case b => walk_at "nn"); (case a => walk_at "ex")))
local macro_rules | `(tactic| walk_at "nn") => `(tactic| first
  | with_reducible assumption
  | ((with_reducible refine' Ex.none ?a ?b); (case b => with_reducible assumption); (case a => walk_at "ex")))
local macro_rules | `(tactic| walk_at "bt") => `(tactic| first
  | exact rfl
  | (simp only [Bool.not_true, Bool.not_false, Bool.true_or, Bool.false_or, Bool.true_and, Bool.false_and, Bool.or_true, Bool.or_false, Bool.and_true, Bool.and_false, Bool.not_eq_true', Bool.not_eq_false', Bool.or_eq_true, Bool.or_eq_false_iff, Bool.and_eq_true, Bool.and_eq_false_iff, decide_eq_true_eq, decide_eq_false_iff_not] <;> omega)
  | (simp; done)
  | (simp; omega))
local macro_rules | `(tactic| walk_at "len") => `(tactic| first
  | exact Nat.le_of_ble_eq_true rfl
  | (simp only [List.length_cons, List.length_nil, List.length_append, List.length_map]; omega)
  | omega)
local macro_rules | `(tactic| walk_at "un") => `(tactic| fail)
local macro_rules | `(tactic| walk_at "cs") => `(tactic| fail)
local macro_rules | `(tactic| walk_at "st") => `(tactic| first
  | with_reducible refine k_var ?_
  | with_reducible refine k_asgS ?_
  | with_reducible refine k_c ?_
  | with_reducible refine k_op ?_
  | with_reducible refine k_cons ?_
  | with_reducible refine k_nil ?_
  | with_reducible refine k_seq ?_
  | with_reducible refine k_asg ?_
  | with_reducible refine k_cb ?_
  | with_reducible refine k_fld ?_
  | ((with_reducible refine' k_rfld ?h ?i ?j ?q); (case h => walk_at "hp"); (case i => infer_instance); (case j => infer_instance))
  | with_reducible refine k_if ?_
  | with_reducible refine k_test ?_
  | with_reducible refine k_bl ?_
  | with_reducible refine k_tB ?_
  | with_reducible refine k_itT ?_
  | with_reducible refine k_itF ?_
  | with_reducible refine k_next ?_
  | with_reducible refine k_ret ?_
  | with_reducible refine k_call ?_
  | with_reducible refine k_tup ?_
  | ((with_reducible refine' k_newTA ?h ?q); (case h => walk_at "len"); intro p H' hp he hm)
  | with_reducible refine k_lst ?_
  | ((with_reducible refine' k_newLA ?h ?q); (case h => walk_at "len"); intro p H' hp he hm)
  | with_reducible refine k_and ?_
  | with_reducible refine k_or ?_
  | with_reducible refine k_not ?_
  | with_reducible refine k_inot ?_
  | with_reducible refine o_eqI ?_
  | with_reducible refine o_eqB ?_
  | with_reducible refine o_eqS ?_
  | with_reducible refine o_neI ?_
  | with_reducible refine o_neB ?_
  | with_reducible refine o_neS ?_
  | with_reducible refine o_lt ?_
  | with_reducible refine o_le ?_
  | with_reducible refine o_gt ?_
  | with_reducible refine o_ge ?_
  | with_reducible refine o_addI ?_
  | ((with_reducible refine' o_addLA ?h1 ?h2 ?h ?q); (case h1 => walk_at "hp"); (case h2 => walk_at "hp"); (case h => walk_at "len"); intro p H' hp he hm; dsimp only [List.cons_append, List.nil_append] at hm)
  | with_reducible refine o_subI ?_
  | ((with_reducible refine' o_mod ?h ?q); (case h => first | decide | omega))
  | ((with_reducible refine' o_fdiv ?h ?q); (case h => first | exact ⟨by first | decide | omega, by first | decide | omega⟩ | exact ⟨by split <;> decide, by split <;> decide⟩))
  | ((with_reducible refine' o_mulI ?h ?q); (case h => first | exact .inl ⟨by first | decide | omega, by first | decide | omega⟩ | exact .inr ⟨by first | decide | omega, by first | decide | omega⟩))
  | ((with_reducible refine' o_ixTn ?h ?h0 ?e ?q); (case h => walk_at "sq"); (case h0 => decide); (case e => exact rfl))
  | ((with_reducible refine' o_ixLn ?h ?h0 ?e ?q); (case h => walk_at "sq"); (case h0 => decide); (case e => exact rfl))
  | ((with_reducible refine' o_ixD ?h ?h0 ?h1 ?q); (case h => walk_at "sq"); (case h0 => walk_at "ib"); (case h1 => walk_at "ib"))
  | ((with_reducible refine' o_ixSv ?h ?h0 ?h1 ?q); (case h => walk_at "sq"); (case h0 => walk_at "ib"); (case h1 => walk_at "ib"))
  | ((with_reducible refine' o_ix2S ?h ?q); (case h => walk_at "sq"))
  | ((with_reducible refine' o_ix2PT ?h ?hp ?q); (case h => walk_at "sq"); (case hp => omega))
  | ((with_reducible refine' o_ix2PL ?h ?hp ?q); (case h => walk_at "sq"); (case hp => omega))
  | ((with_reducible refine' o_inTI ?h ?c ?q); (case h => walk_at "sq"); (case c => infer_instance))
  | ((with_reducible refine' o_inLI ?h ?c ?q); (case h => walk_at "sq"); (case c => infer_instance))
  | ((with_reducible refine' o_ix2I ?h ?q); (case h => walk_at "sq"))
  | ((with_reducible refine' o_lenLS ?h ?q); (case h => walk_at "sq"))
  | ((with_reducible refine' o_lenLI ?h ?q); (case h => walk_at "sq"))
  | ((with_reducible refine' o_lenL ?h ?q); (case h => walk_at "sq"))
  | ((with_reducible refine' o_lenT ?h ?q); (case h => walk_at "sq"))
  | with_reducible refine' i_plain ?_
  | with_reducible refine' i_plainC ?_
  | ((with_reducible refine' i_insC ?h ?i ?c ?q); (case h => walk_at "hp"); (case i => infer_instance); (case c => infer_instance))
  | ((with_reducible refine' i_lst ?h ?c ?q); (case h => walk_at "hp"); (case c => infer_instance))
  | ((with_reducible refine' i_tup ?h ?c ?q); (case h => walk_at "hp"); (case c => infer_instance))
  | with_reducible refine k_prop ?_
  | ((with_reducible refine' k_rprop ?h ?q); (case h => walk_at "hp"))
  | with_reducible refine k_make ?_
  | with_reducible refine k_makeKS ?_
  | ((with_reducible refine' k_rmkK ?hl ?hg ?q); (case hl => exact rfl); (case hg => exact fun _ => rfl))
  | with_reducible refine k_meth ?_
  | ((with_reducible refine' k_rmeth ?h ?i ?q); (case h => walk_at "hp"); (case i => infer_instance))
  | with_reducible refine k_andV ?_
  | with_reducible refine k_orV ?_
  | with_reducible refine k_notV ?_
  | with_reducible refine k_rand ?_
  | with_reducible refine k_rnot ?_
  | with_reducible refine k_un ?_
  | with_reducible refine k_ifE ?_
  | with_reducible refine k_randT ?_
  | with_reducible refine k_randF ?_
  | with_reducible refine k_rorT ?_
  | with_reducible refine k_rorF ?_
  | with_reducible refine k_randtT ?_
  | with_reducible refine k_randtF ?_
  | with_reducible refine k_rortT ?_
  | with_reducible refine k_rortF ?_
  | ((with_reducible refine' k_randP ?h2 ?q); (case h2 => intro _ hq; (walk_at "go"); with_reducible exact hq))
  | ((with_reducible refine' k_rorP ?h2 ?q); (case h2 => intro _ hq; (walk_at "go"); with_reducible exact hq))
  | with_reducible refine k_randS ?_
  | with_reducible refine k_rorS ?_
  | ((with_reducible refine' k_rifI ?h1 ?h2 ?q); (case h1 => intro _ hq; (walk_at "go"); with_reducible exact hq); (case h2 => intro _ hq; (walk_at "go"); with_reducible exact hq))
  | with_reducible refine k_rifS ?_
  | ((with_reducible refine' k_randtP ?h2 ?q); (case h2 => intro _ hq; (walk_at "go"); with_reducible exact hq))
  | ((with_reducible refine' k_rortP ?h2 ?q); (case h2 => intro _ hq; (walk_at "go"); with_reducible exact hq))
  | with_reducible refine k_randtS ?_
  | with_reducible refine k_rortS ?_
  | ((with_reducible refine' k_own ?h ?i ?q); (case h => walk_at "hp"); (case i => walk_at "hp"))
  | ((with_reducible refine' k_ownI ?h ?q); (case h => walk_at "hp"))
  | ((with_reducible refine' k_ownA ?h ?q); (case h => walk_at "hp"))
  | with_reducible refine k_aug ?_
  | with_reducible refine o_addIp ?_
  | with_reducible refine k_drop ?_
  | with_reducible refine k_fldp ?_
  | ((with_reducible refine' k_rputU ?i ?j ?q); (case i => infer_instance); (case j => infer_instance))
  | ((with_reducible refine' k_rput ?h ?i ?j ?q); (case h => walk_at "hp"); (case i => infer_instance); (case j => infer_instance))
  | ((with_reducible refine' k_dispA ?h ?q); (case h => exact Nat.le_of_ble_eq_true rfl); intro p H' hp he hm)
  | with_reducible refine k_newK ?_
  | ((with_reducible refine' k_newDA ?q); intro p H' hp he hm)
  | with_reducible refine k_dget ?_
  | with_reducible refine k_dget2 ?_
  | ((with_reducible refine' k_rdgetC ?h ?e ?q); (case h => walk_at "hp"); (case e => infer_instance))
  | ((with_reducible refine' k_rdg2 ?h ?q); (case h => walk_at "hp"))
  | ((with_reducible refine' k_rdo ?h ?q); (case h => walk_at "hp"))
  | with_reducible refine k_dput ?_
  | ((with_reducible refine' k_rdputU ?hl ?e ?q); (case hl => exact Nat.le_of_ble_eq_true rfl); (case e => infer_instance))
  | ((with_reducible refine' k_rdputC ?h ?hl ?e ?q); (case h => walk_at "hp"); (case hl => exact Nat.le_of_ble_eq_true rfl); (case e => infer_instance))
  | with_reducible refine k_m1 ?_
  | with_reducible refine k_rm1 ?_
  | with_reducible refine k_bm ?_
  | ((with_reducible refine' k_rbmL ?h ?q); (case h => walk_at "sq"))
  | ((with_reducible refine' o_appendU ?hl ?q); (case hl => walk_at "len"))
  | ((with_reducible refine' o_append ?h ?hl ?q); (case h => walk_at "hp"); (case hl => walk_at "len"))
  | with_reducible refine k_ownIx ?_
  | ((with_reducible refine' k_rownIx ?h ?q); (case h => walk_at "hp"))
  | with_reducible refine k_ownPut ?_
  | ((with_reducible refine' k_rownPut ?h ?q); (case h => walk_at "hp"))
  | ((with_reducible refine' o_inT ?h ?q); (case h => walk_at "sq"))
  | ((with_reducible refine' o_ninT ?h ?q); (case h => walk_at "sq"))
  | ((with_reducible refine' o_inL ?h ?q); (case h => walk_at "sq"))
  | ((with_reducible refine' o_ninL ?h ?q); (case h => walk_at "sq"))
  | with_reducible refine o_pow18 ?_
  | with_reducible refine o_pow9 ?_
  | with_reducible refine o_pow30 ?_
  | with_reducible refine o_isB ?_
  | with_reducible refine o_neg ?_
  | with_reducible refine o_isN ?_
  | with_reducible refine o_notN ?_
  | with_reducible refine o_max ?_
  | with_reducible refine o_min ?_
  | with_reducible refine o_intI ?_
  | with_reducible refine o_intB ?_
  | with_reducible refine o_abs ?_
  | with_reducible refine k_forR1 ?_
  | with_reducible refine k_forR2 ?_
  | with_reducible refine k_forL ?_
  | with_reducible refine k_forT ?_
  | ((with_reducible refine' k_turnR ?e ?q); (case e => exact rfl))
  | with_reducible refine k_doneR ?_
  | ((with_reducible refine' k_turnL ?h ?q); (case h => walk_at "sq"))
  | ((with_reducible refine' k_doneL ?h ?q); (case h => walk_at "sq"))
  | ((with_reducible refine' k_turnT ?h ?q); (case h => walk_at "sq"))
  | ((with_reducible refine' k_doneT ?h ?q); (case h => walk_at "sq"))
  | with_reducible refine k_forA ?_
  | with_reducible refine k_lcA ?_
  | ((with_reducible refine' o_tupL ?h ?q); (case h => walk_at "sq"); intro p H' hp he hm)
  | ((with_reducible refine' o_lisL ?h ?q); (case h => walk_at "sq"); intro p H' hp he hm)
  | ((with_reducible refine' o_lisT ?h ?q); (case h => walk_at "sq"); intro p H' hp he hm)
  | ((with_reducible refine' o_tupT ?h ?q); (case h => walk_at "sq"))
  | with_reducible refine k_dyn ?_
  | ((with_reducible refine' k_rdyn ?h ?i ?c ?q); (case h => walk_at "hp"); (case i => infer_instance); (case c => infer_instance))
  | with_reducible refine k_brk ?_
  | with_reducible refine k_cont ?_
  | with_reducible refine k_raise ?_
  | with_reducible refine k_retN ?_
  | walk_at "un"
  | walk_at "cs"
  | ((with_reducible refine' k_itdT ?h ?q); (case h => first | with_reducible assumption | omega | decide))
  | ((with_reducible refine' k_itdF ?h ?q); (case h => first | with_reducible assumption | omega | decide))
  | ((with_reducible refine' k_ifT ?h ?q); (case h => walk_at "bt"))
  | ((with_reducible refine' k_ifF ?h ?q); (case h => walk_at "bt")))
local macro_rules | `(tactic| walk_at "go") => `(tactic| repeat walk_at "st")
local macro_rules | `(tactic| walk_at "sp") => `(tactic| repeat' (first | walk_at "st" | refine k_itd (fun h => ?_) (fun h => ?_) | refine k_itb (fun h => ?_) (fun h => ?_)))
local macro_rules | `(tactic| walk_at "cs") => `(tactic| ((with_reducible refine' s_law_cell ?hv ?hS ?hi ?q); (case hv => exact rfl); (case hS => walk_at "sq"); (case hi => first | decide | omega)))
local macro_rules | `(tactic| walk_at "cs") => `(tactic| ((with_reducible refine' s_law_entries ?hv ?q); (case hv => exact rfl); intro p H' hp he hm))
local macro_rules | `(tactic| walk_at "cs") => `(tactic| ((with_reducible refine' s_law_choices ?hv ?he ?q); (case hv => exact rfl); (case he => first | with_reducible assumption | exact InE.mem); intro p H' hp he hm))
local macro_rules | `(tactic| walk_at "cs") => `(tactic| ((with_reducible refine' s_law_choicesV ?hv ?he ?hc ?q); (case hv => exact rfl); (case he => infer_instance); (case hc => infer_instance); intro p H' hp he hm))
local macro_rules | `(tactic| walk_at "cs") => `(tactic| ((with_reducible refine' s_law_draws ?hv ?hm ?hs ?q); (case hv => exact rfl); (case hm => decide); (case hs => decide); intro p H' ds hp he hm hl hr))
local macro_rules | `(tactic| walk_at "cs") => `(tactic| ((with_reducible refine' k_ninEnt ?q)))
local macro_rules | `(tactic| walk_at "cs") => `(tactic| ((with_reducible refine' k_lenEnt ?q)))
local macro_rules | `(tactic| walk_at "cs") => `(tactic| ((with_reducible refine' o_ixTn ?h ?h0 ?e ?q); (case h => exact ent_sq); (case h0 => decide); (case e => exact rfl)))
local macro_rules | `(tactic| walk_at "cs") => `(tactic| ((with_reducible refine' k_ixW ?he ?q); (case he => first | with_reducible assumption | exact InE.mem)))
local macro_rules | `(tactic| walk_at "cs") => `(tactic| ((with_reducible refine' k_ninCh ?he ?q); (case he => first | with_reducible assumption | exact InE.mem)))
local macro_rules | `(tactic| walk_at "cs") => `(tactic| ((with_reducible refine' k_ninEntT ?he ?q); (case he => first | with_reducible assumption | exact InE.mem)))
local macro_rules | `(tactic| walk_at "cs") => `(tactic| ((with_reducible refine' k_ninChT ?he ?hc ?q); (case he => first | with_reducible assumption | exact InE.mem); (case hc => first | with_reducible assumption | decide +kernel)))
local macro_rules | `(tactic| walk_at "cs") => `(tactic| ((with_reducible refine' k_bkput ?h ?he ?q); (case h => walk_at "hp"); (case he => first | with_reducible assumption | exact InE.mem)))
local macro_rules | `(tactic| walk_at "cs") => `(tactic| ((with_reducible refine' k_bkget ?h ?he ?q); (case h => walk_at "hp"); (case he => first | with_reducible assumption | exact InE.mem)))
local macro_rules | `(tactic| walk_at "cs") => `(tactic| ((with_reducible refine' s_Book_getitem ?hv ?ha ?hd ?he ?hf ?q); (case hv => exact rfl); (case ha => walk_at "hp"); (case hd => walk_at "hp"); (case he => infer_instance); (case hf => infer_instance)))
local macro_rules | `(tactic| walk_at "cs") => `(tactic| ((with_reducible refine' s_Book_setitem ?hv ?ha ?hd ?he ?hc ?q); (case hv => exact rfl); (case ha => walk_at "hp"); (case hd => walk_at "hp"); (case he => infer_instance); (case hc => first | with_reducible assumption | decide +kernel)))
local macro_rules | `(tactic| walk_at "cs") => `(tactic| ((with_reducible refine' s_mkBook ?hv ?h0 ?h1 ?h2 ?h3 ?h4 ?h5 ?h6 ?h7 ?h8 ?h9 ?q); (case hv => exact rfl); (case h0 => decide +kernel); (case h1 => decide +kernel); (case h2 => decide +kernel); (case h3 => decide +kernel); (case h4 => decide +kernel); (case h5 => decide +kernel); (case h6 => decide +kernel); (case h7 => decide +kernel); (case h8 => decide +kernel); (case h9 => decide +kernel); intro x dx d H' hx hd hn he hxm hdm))
local macro_rules | `(tactic| walk_at "cs") => `(tactic| ((with_reducible refine' s_Book_setitemU ?hv ?ha ?he ?hc ?q); (case hv => exact rfl); (case ha => walk_at "hp"); (case he => infer_instance); (case hc => first | with_reducible assumption | decide +kernel)))
local macro_rules | `(tactic| walk_at "cs") => `(tactic| ((with_reducible refine' s_law_picks ?hv ?hS ?hl ?hr ?q); (case hv => exact rfl); (case hS => walk_at "sq"); (case hl => assumption); (case hr => assumption); intro p H' f hp he hm hg))
local macro_rules | `(tactic| walk_at "cs") => `(tactic| ((with_reducible refine' s_law_book ?hv ?ha ?hg ?q); (case hv => exact rfl); (case ha => walk_at "hp"); (case hg => assumption); intro x dx d H' hx hd hn he hxm hdm))
local macro_rules | `(tactic| walk_at "cs") => `(tactic| ((with_reducible refine' k_lcL ?q)))
local macro_rules | `(tactic| walk_at "cs") => `(tactic| ((with_reducible refine' k_lcT ?q)))
local macro_rules | `(tactic| walk_at "cs") => `(tactic| ((with_reducible refine' o_addS ?h ?q); (case h => omega)))
local macro_rules | `(tactic| walk_at "cs") => `(tactic| ((with_reducible refine' s_Book_text ?hv ?ha ?hd ?g ?q); (case hv => exact rfl); (case ha => walk_at "hp"); (case hd => walk_at "hp"); (case g => assumption); intro H' hx))
theorem all_congrM {α : Type} {p q : α → Bool} : ∀ {l : List α}, (∀ x ∈ l, p x = q x) → l.all p = l.all q
  | [], _ => rfl
  | a :: l, h => by
    rw [List.all_cons, List.all_cons, h a List.mem_cons_self, all_congrM fun x hx => h x (List.mem_cons_of_mem _ hx)]
theorem eqD_same {f : Str → Str} : eqD (bk f) (bk f) = true := by
  unfold eqD
  rw [beq_self_eq_true, Bool.true_and]
  show (List.map (fun e => ((Sum.inr e, V.str (f e)) : Key × V)) ENT).all _ = _
  rw [List.all_map, List.all_eq_true]
  intro e he
  simp only [Function.comp, bk_get he]
  show (f e == f e) = true
  simp
theorem bk_flat {f : Str → Str} : ∀ p ∈ bk f, flatV p.2 = true := by
  intro p hp
  obtain ⟨e, _, rfl⟩ := List.mem_map.mp hp
  rfl
section
variable {K : PySem.W.Frag} [TxtK K] {w : World} [BookW K w] {k : Nat} {H : Hp} {Q : VK} {E : XK} {xs : List V} {a b d d2 dx dy : Addr} {e c t : Str} {f : Str → Str}
theorem s_read_good (hv : xs = [.str (tx (PLs f))]) (g : Good f) (q : ∀ x dx d H', H x = none → Ex H H' → H' x = some (.ins (He.ga K "Book") dx (fs_Book (.ref d))) → H' d = some (.dK (bk f)) → Q (.ref x) H') : Gam K w (k + 2) .read_book xs H Q E := by
  have hl := tx_len (PLs_lens g) (by rw [PLs_len]; decide)
  refine s_read_book hv (by omega) (fun _ x dx d g' H' hx he h1 h2 hg => ?_) fun z => by rw [split_PLs g, (good_ok g).1] at z; cases z
  refine q x dx d H' hx he h1 (h2.trans ?_)
  rw [bk_congr fun e he => ?_]
  obtain ⟨i, hi, rfl⟩ := ent_ix e he
  have := hg i hi
  rw [split_PLs g, ((good_ok g).2 i hi).2] at this
  exact this
theorem s_eq_same (hv : xs = [.ref a, .ref b]) (ha : H a = some (.ins (He.ga K "Book") dx (fs_Book (.ref d)))) (hd : H d = some (.dK (bk f))) (hb : H b = some (.ins (He.ga K "Book") dy (fs_Book (.ref d2)))) (hd2 : H d2 = some (.dK (bk f)))
    (q : Q (.bl true) H) : Gam K w (k + 1) .Book_eq xs H Q E := by
  subst hv
  refine ⟨rfl, ?_⟩
  unfold rd_Book_eq
  refine k_start ?_
  walk_at "go"
  exact ⟨d, d2, _, _, rfl, rfl, hd, hd2, bk_flat, bk_flat, by rw [eqD_same]; exact q⟩
end
local macro_rules | `(tactic| walk_at "cs") => `(tactic| ((with_reducible refine' s_eq_same ?hv ?ha ?hd ?hb ?hd2 ?q); (case hv => exact rfl); (case ha => walk_at "hp"); (case hd => walk_at "hp"); (case hb => walk_at "hp"); (case hd2 => walk_at "hp")))
local macro_rules | `(tactic| walk_at "cs") => `(tactic| ((with_reducible refine' s_read_good ?hv ?g ?q); (case hv => exact rfl); (case g => assumption); intro x dx d H' hx he hxm hdm))
theorem law_ok {w : World} {K : PySem.W.Frag} {mg : Str → Option Value} (T : Txt K w mg) (H : Hp) (a : Addr) (ns : List Int) (hl : ns.length ≤ 63) (hS : SqL K H a (ns.map V.int)) : Gam K w 12 .law [.ref a] H (fun v _ => v = .bl true) (fun _ _ _ => False) := by
  haveI := T.k
  haveI := T.kd
  refine ⟨rfl, ?_⟩
  unfold rd_law
  refine k_start ?_
  walk_at "go"
  rename_i p0 H0 ds hp0 he0 hm0 hl0 hr0 pf H1 f hpf he1 hfm g pe H2 hpe he2 hem
  refine k_lcML (EC f) (sqL_of hem) (by decide) (fun e he H' Q' hx q' => ?_) fun D H3 hD hx3 hm3 => ?_
  · haveI : InE e := ⟨he⟩
    have h1 := ec_len e he
    have h2 := (h1.2.2 _ (g e he)).1
    have h3 := eq1
    dsimp only [List.set]
    walk_at "go"
    exact q'
  walk_at "go"
  have hm3 : H3 D = some (.lst ((PLs f).map V.str)) := hm3
  refine o_join (ys := PLs f) (.inl (sqL_of hm3)) (Nat.le_trans (join_sz (PLs_lens g) (by rw [PLs_len]; decide) (by rw [sp1]; decide)) (by decide)) ?_
  change Asg _ _ _ (.str (tx (PLs f))) _
  walk_at "go"
  rename_i b db d H4 hb hd hn he4 hbm hdm H5 he5 H6 he6 b2 db2 d2 H7 hb2 he7 hb2m hd2m pl H8 hpl he8 hplm
  have f1 : H8 pf = some (.dK (bk f)) := by walk_at "hp"
  have f2 : H8 D = some (.lst ((PLs f).map V.str)) := by walk_at "hp"
  have f3 : H8 b = some (.ins (He.ga K "Book") db (fs_Book (.ref d))) := by walk_at "hp"
  have f4 : H8 d = some (.dK (bk f)) := by walk_at "hp"
  have f5 : H8 b2 = some (.ins (He.ga K "Book") db2 (fs_Book (.ref d2))) := by walk_at "hp"
  have f6 : H8 d2 = some (.dK (bk f)) := by walk_at "hp"
  have f7 : SqL K H8 a (ns.map V.int) := by walk_at "sq"
  refine k_rlI (sqL_of hplm) (fun j σ H' => ∃ u : Option V, σ = [some (.ref a), some (.ref pf), some (.ref D), u, some (.str (tx (PLs f))), some (.ref b), some (.ref b2)] ∧ Ex H8 H')
    ⟨none, rfl, Ex.refl _⟩ ?_ ?_ ?_
  · rintro j σ H' _ ⟨u, rfl, hx⟩
    exact hx.sqL (sqL_of hplm)
  · rintro j x σ H' hx ⟨u, rfl, hxx⟩
    obtain ⟨x, rfl, hxe⟩ := memS hx
    clear hx
    haveI : InE x := ⟨hxe⟩
    dsimp only [List.set]
    walk_at "go"
    exact ⟨_, rfl, hxx⟩
  · rintro σ H' ⟨u, rfl, hxx⟩
    walk_at "go"
    obtain ⟨way, hway⟩ := Int.eq_ofNat_of_zero_le (show 0 ≤ cellv ns 1 % 14 by omega)
    obtain ⟨j, hj⟩ := Int.eq_ofNat_of_zero_le (show 0 ≤ cellv ns 2 % 10 by omega)
    have hw14 : way < 14 := by omega
    have hj10 : j < 10 := by omega
    rw [hway, hj]
    refine s_law_spoilt rfl (by walk_at "hp") g hw14 hj10 fun H9 hx9 => ?_
    refine s_law_refusedT rfl (spo_len g hj10 hw14) (spo_bad g hj10 hw14) fun H10 hx10 => ?_
    walk_at "go"
    refine s_law_refusedT rfl (by decide +kernel) empty_bad fun H11 hx11 => ?_
    walk_at "go"
    rfl
end L2.MP

set_option Elab.async false
set_option linter.all false
set_option maxRecDepth 100000
set_option maxHeartbeats 4000000
namespace L2.MP
open PySem PySem.Spec PyProof.Rows
end L2.MP
open PySem PySem.W PySem.Calls PyProof.Rows
set_option maxHeartbeats 0 in
theorem PySem.Challenge.cw_stickymarks_k08_book_text_holds : PySem.Challenge.rw_stickymarks_k08_book_text.Holds := by
  w_on; o_law
  refine HandSHeadRun.head_any (r := OpenLaw.row PySem.Challenge.rw_stickymarks_k08_book_text) (q := view (OpenLaw.row PySem.Challenge.rw_stickymarks_k08_book_text).prog [19]) (H := L2.MP.hkM) (ob := L2.MP.obsMG 6 L2.MP.fnl L2.MP.exb L2.MP.tbs) (M := 20000) (loose := L2.MP.looseN)
    (d := HandSHeadRun.topDef (OpenLaw.row PySem.Challenge.rw_stickymarks_k08_book_text).prog 19) (kwd := []) (L2.MP.obsMG_eq 6 L2.MP.fnl L2.MP.exb L2.MP.tbs)
    (by kernel_rfl) (fun s => by kernel_rfl) L2.MP.run_top (by kernel_rfl) (by kernel_rfl) (by kernel_rfl) (by rfl) (by first | assumption | decide +kernel) (by decide +kernel) ⟨rfl, rfl, rfl, rfl, rfl, by decide +kernel⟩ ?hw ?hc
  case hw => w_witness2
  case hc =>
    refine L2.walk_ofE (l := PySem.Challenge.rw_stickymarks_k08_book_text) (n := 63) (k := L2.MP.lev 12) (x := "_law_script") (CX := L2.CX0) rfl (by decide) (by kernel_rfl) ⟨rfl, by decide, by decide⟩ ?F (fun _ _ _ _ z => z)
    intro w mg fa h Y G hmg0
    obtain ⟨K, KX, c⟩ := Y
    have T := L2.MP.txt_of KX G c
    have hmg : mg ("law" : PySem.Str) = some (.ref fa) := by
      have e : (HandSHeadRun.topDef (OpenLaw.row PySem.Challenge.rw_stickymarks_k08_book_text).prog 19).name = ("law" : PySem.Str) := by kernel_rfl
      rw [← e]
      exact hmg0
    have e := hmg.symm.trans T.g_law
    cases e
    exact ⟨K, L2.MP.fdAt K (He.ga K "law"), fun vs H Q _ => L2.MP.Gam K w 12 .law vs H Q L2.E0, KX, fun s u => L2.FunD.bindsA (ps := ["_law_script"]) T.k.f_law (fun _ _ _ _ _ _ us hl => match us, hl with | [_], _ => rfl) s [u] rfl,
      fun H a ns hl hO hS => L2.MP.law_ok T H a ns hl hS, fun base _ _ => L2.MP.fn_close (L2.MP.ok_all T 12 .law)⟩
#print axioms PySem.Challenge.cw_stickymarks_k08_book_text_holds

