import PyProof.Rows.All
import Wide.All
import OpenK.AllK
import Wide.FinOn
import HandS.ForMost
import HandS.ForExc
import HandS.Flow
import HandS.Defaults
import HandS.MakeKwOnly
import HandS.MakeKw
import HandS.ExcInit
import HandS.ExcField
import HandS.ExcIs
import HandS.IsInst
import HandS.WrittenGet
import HandS.Property
import HandS.OwnEq
import HandS.DictEq
import HandS.DeepEq
import HandS.TupAny
import HandS.CallSlots
import HandS.FStr
import HandS.RaiseMore
import HandS.Codes
import HandS.Deep
import HandS.Rev
import HandS.Head2
import HandS.HeadEnd
import HandS.HeadHook4
import HandS.HeadWalk
import HandS.Style
import HandS.Conv
import PySem.Challenge.RW_stickymarks_k38_menu_books
import HandS.DictComp
import HandS.Strs
import HandS.ListEq
import HandS.Iter
import HandS.Walk
import PyProof.NeKinds
import HandS.Star
import HandS.List
import HandS.MapSum
import PyProof.SumWalk
import PyProof.WalksMore
import HandS.GenOver
import PyProof.GenRules
import PyProof.GenQ
import HandS.GenCall
set_option Elab.async false
set_option linter.all false
set_option maxRecDepth 100000
set_option maxHeartbeats 4000000
/-! Base rules of our own over the hand layer. -/
namespace L2.MP
open PySem PySem.Spec PyProof.Rows
/-- one plain step of a walk: found by its head -/
class W (P : Prop) (R : outParam Prop) : Prop where
  w : R → P

/-! ### weaker readings -/
section
variable {X : Cx}
theorem wkE {e : Expr} {t t' : TE} (h : PE X e t) (w : ∀ σ H Q, t' σ H Q → t σ H Q) : PE X e t' :=
  ⟨fun pins s σ H Q I q => h.run pins s σ H Q I (w σ H Q q)⟩
theorem wkO {f : Value → Value → Sem Value} {r r' : R2} (h : OpR X f r) (w : ∀ x y H Q, r' x y H Q → r x y H Q) : OpR X f r' :=
  fun pins s σ H x y v u Q I rx ry q => h pins s σ H x y v u Q I rx ry (w x y H Q q)
theorem wkC {f : Value} {r r' : List V → Hp → VK → Prop} (h : CallR X f r) (w : ∀ xs H Q, r' xs H Q → r xs H Q) : CallR X f r' :=
  fun pins s σ H xs us Q I rv q => h pins s σ H xs us Q I rv (w xs H Q q)
theorem orO {f : Value → Value → Sem Value} {r r' : R2} (h : OpR X f r) (h' : OpR X f r') : OpR X f (fun x y H Q => r x y H Q ∨ r' x y H Q) :=
  fun pins s σ H x y v u Q I rx ry q => q.elim (h pins s σ H x y v u Q I rx ry) (h' pins s σ H x y v u Q I rx ry)
end

/-! ### calls whose exceptions are wished for at the slots: made instances, methods, properties -/
section
variable {X : Cx} {CX : CXT} {k n : Nat} {f C p g : Addr} {fd : FuncData} {ps : List Str} {sp : Sp} {dvs : List V} {ds : List Value} {E : St → XK}
variable {x m : Str} {pp pos apos : Pos} {e o : Expr} {es : List Expr} {ta : TE} {t : TA}

/-- what an answer of a callee gives -/
theorem back_of {pins : List (Addr × Obj)} {σ : St} {H : Hp} {s s' : Shared} {Q : VK} {E₁ : XK} {r : Result} (hx : PassesAt CX X σ E₁) (I : Inv X pins σ H s)
    (hq : CR CX X.stack X.prog X.w H s Q E₁ r s') : wants (EP X pins σ Q) X.xe r s' := by
  rcases r with er | fl
  · exact hx pins H s er s' I hq
  · cases fl <;> first | exact I.after hq | exact hq.elim

theorem pe_call0S (F : FnOk X.prog X.w X.K X.mg X.base CX k f fd ps sp) (hr : Room k X.A) (hg : Gl X x) (hm : X.mg x = some (.ref f)) (hk : PySem.W.keepIn X.K (.ref f) = true) (hb : Binds X.K fd ps ds) (hd : Vals dvs ds)
    (hx : ∀ σ, PassesAt CX X σ (E σ)) (hdb : (x == ("__debug__" : Str)) = false := by decide) : PE X (.Call (.Name x pp) [] [] pos) (tCallSD sp dvs E tNil) :=
  ⟨fun pins s σ H Q I h => wpAny_Call_Name_kw (ld_glob I hg hm (PySem.W.callWith_K0 I.kIn hk (run_fnSD (us := []) F hr hb hd (hx σ) I .nil h)) hdb)⟩

/-- C(..), what is raised wished for at the slots -/
def tMakeS (C : Addr) (sp : Sp) (dvs : List V) (E : St → XK) (t : TA) : TE := fun σ H Q => t σ H fun vs H1 => ∀ x dx, H1 x = none → H1 dx = none → dx ≠ x →
  sp (.ref x :: (vs ++ dvs)) (upd (upd H1 dx (.own x)) x (.ins C dx [])) (fun v H2 => v = .non ∧ Q (.ref x) H2) (E σ)
theorem run_mk {pins : List (Addr × Obj)} {σ : St} {H : Hp} {s : Shared} {Q : VK} {us : List Value} {kws : List (Str × Value)} {ws : List Value} {vs : List V} {E₁ : XK} (M : Mk X.K C f) (F : FnOk X.prog X.w X.K X.mg X.base CX k f fd ps sp) (hr : Room (k + 1) X.A)
    (hx : PassesAt CX X σ E₁) (I : Inv X pins σ H s)
    (hb : ∀ (s' : Shared) (a : Addr), X.K.In s'.heap → BindsTo s' fd ⟨.ref a :: us, kws⟩ (ps.zip (ws.set 0 (.ref a)))) (rv : ∀ a, Vals (vs.set 0 (.ref a)) (ws.set 0 (.ref a)))
    (h : ∀ x dx, H x = none → H dx = none → dx ≠ x → sp (vs.set 0 (.ref x)) (upd (upd H dx (.own x)) x (.ins C dx [])) (fun v H2 => v = .non ∧ Q (.ref x) H2) E₁) :
    wpAny (model X.prog X.w) X.A (call (.ref C) us kws) (EP X pins σ Q) X.xe s := by
  have J := Inv.made (C := C) I
  have hq := h (s.heap.objs.size + 1) s.heap.objs.size (I.hok.fresh (Nat.le_succ _)) (I.hok.fresh (Nat.le_refl _)) (Nat.ne_of_lt (Nat.lt_succ_self _))
  refine wpAny_call (make_map (f := f) I.kIn M.makes M.init (beq_iff_eq.mp M.fn) ?_)
  refine codeAny_mono (F.run _ X.stack _ _ _ _ _ _ _ (hr.make C us kws) (J.env0.make C us kws) (hb _ _ J.kIn) (rv _) hq) fun r s' hr' => ?_
  rcases r with er | fl
  · exact hx pins _ _ er s' J hr'
  · cases fl with
    | ret u =>
      obtain ⟨v, H', I3, rv, ev, q3⟩ := J.after hr'
      subst ev
      exact ⟨rv, .ref (s.heap.objs.size + 1), H', I3, rfl, q3⟩
    | _ => exact hr'.elim
theorem mk_binds {us : List Value} (hb : Binds X.K fd ps ds) (hl : us.length + 1 + ds.length = ps.length) (s' : Shared) (a : Addr) (hk : X.K.In s'.heap) :
    BindsTo s' fd ⟨.ref a :: us, []⟩ (ps.zip ((Value.none :: (us ++ ds)).set 0 (.ref a))) :=
  hb s' (.ref a :: us) hk (by simpa [Nat.add_right_comm] using hl)
theorem mk_len {H : Hp} {Q : VK} {E₁ : XK} {us : List Value} {vs : List V} (F : FnOk X.prog X.w X.K X.mg X.base CX k f fd ps sp) (r : Vals vs us) (hd : Vals dvs ds) {a : Addr} (h : sp (.ref a :: (vs ++ dvs)) H Q E₁) : us.length + 1 + ds.length = ps.length := by
  have := F.len _ _ _ _ h
  have l1 := r.length
  have l2 := hd.length
  simp at this
  omega
theorem run_mkP {pins : List (Addr × Obj)} {σ : St} {H : Hp} {s : Shared} {Q : VK} {us : List Value} {vs : List V} (M : Mk X.K C f) (F : FnOk X.prog X.w X.K X.mg X.base CX k f fd ps sp) (hr : Room (k + 1) X.A) (hb : Binds X.K fd ps ds) (hd : Vals dvs ds)
    (hx : PassesAt CX X σ (E σ)) (I : Inv X pins σ H s) (r : Vals vs us)
    (h : ∀ x dx, H x = none → H dx = none → dx ≠ x → sp (.ref x :: (vs ++ dvs)) (upd (upd H dx (.own x)) x (.ins C dx [])) (fun v H2 => v = .non ∧ Q (.ref x) H2) (E σ)) :
    wpAny (model X.prog X.w) X.A (call (.ref C) us) (EP X pins σ Q) X.xe s := by
  have hl := mk_len F r hd (h (s.heap.objs.size + 1) s.heap.objs.size (I.hok.fresh (Nat.le_succ _)) (I.hok.fresh (Nat.le_refl _)) (Nat.ne_of_lt (Nat.lt_succ_self _)))
  exact run_mk (kws := []) (ws := Value.none :: (us ++ ds)) (vs := V.non :: (vs ++ dvs)) M F hr hx I (mk_binds hb hl) (fun a => .cons rfl (r.append hd)) h
theorem pe_makeS (M : Mk X.K C f) (F : FnOk X.prog X.w X.K X.mg X.base CX k f fd ps sp) (hr : Room (k + 1) X.A) (hg : Gl X x) (hm : X.mg x = some (.ref C)) (hb : Binds X.K fd ps ds) (hd : Vals dvs ds) (hx : ∀ σ, PassesAt CX X σ (E σ))
    (ha : PA X (e :: es) t) (hdb : (x == ("__debug__" : Str)) = false := by decide) (he : starEach (e :: es) X.env = (false, eval e X.env) :: starEach es X.env := by rfl) (hpl : (backTo pos (starEach es X.env)).any (·.1) = false := by rfl) :
    PE X (.Call (.Name x pp) (e :: es) [] pos) (tMakeS C sp dvs E t) :=
  ⟨fun pins s σ H Q I h => wpAny_Call_Name_kw (ld_glob I hg hm (PySem.W.callWith_K (h₀ := X.base) I.ok.mod.kin M.kp
    (thn (ha.run pos pins s σ H _ I h) fun us s1 ⟨vs, H1, I1, r, q⟩ => ⟨I1.kIn, run_mkP M F hr hb hd (hx σ) I1 r q⟩) he hpl) hdb)⟩
theorem pe_make0S (M : Mk X.K C f) (F : FnOk X.prog X.w X.K X.mg X.base CX k f fd ps sp) (hr : Room (k + 1) X.A) (hg : Gl X x) (hm : X.mg x = some (.ref C)) (hb : Binds X.K fd ps ds) (hd : Vals dvs ds) (hx : ∀ σ, PassesAt CX X σ (E σ))
    (hdb : (x == ("__debug__" : Str)) = false := by decide) : PE X (.Call (.Name x pp) [] [] pos) (tMakeS C sp dvs E tNil) :=
  ⟨fun pins s σ H Q I h => wpAny_Call_Name_kw (ld_glob I hg hm (PySem.W.callWith_K0 I.kIn M.kp (run_mkP (us := []) M F hr hb hd (hx σ) I .nil h)) hdb)⟩

/-- C(k = v, ..): keywords alone -/
def tMakeKS (C : Addr) (m : Nat) (sp : Sp) (gV : List V → List V → List V) (E : St → XK) (tk : TA) : TE := fun σ H Q => tk σ H fun zs H1 => zs.length = m ∧ ∀ x dx, H1 x = none → H1 dx = none → dx ≠ x →
  sp (gV [.ref x] zs) (upd (upd H1 dx (.own x)) x (.ins C dx [])) (fun v H2 => v = .non ∧ Q (.ref x) H2) (E σ)
theorem run_mkK {ks : List Str} {G : List Value → List Value → List Value} {gV : List V → List V → List V} {pins : List (Addr × Obj)} {σ : St} {H : Hp} {s : Shared} {Q : VK} {ws : List Value} {zs : List V} (M : Mk X.K C f)
    (F : FnOk X.prog X.w X.K X.mg X.base CX k f fd ps sp) (hr : Room (k + 1) X.A) (hb : KBn X.K fd ps 1 ks G gV) (hx : PassesAt CX X σ (E σ)) (I : Inv X pins σ H s) (rz : Vals zs ws) (l2 : zs.length = ks.length)
    (h : ∀ x dx, H x = none → H dx = none → dx ≠ x → sp (gV [.ref x] zs) (upd (upd H dx (.own x)) x (.ins C dx [])) (fun v H2 => v = .non ∧ Q (.ref x) H2) (E σ)) :
    wpAny (model X.prog X.w) X.A (call (.ref C) [] (ks.zip ws)) (EP X pins σ Q) X.xe s := by
  have J := Inv.made (C := C) I
  have hq := h (s.heap.objs.size + 1) s.heap.objs.size (I.hok.fresh (Nat.le_succ _)) (I.hok.fresh (Nat.le_refl _)) (Nat.ne_of_lt (Nat.lt_succ_self _))
  have rv := hb.rel (vs := [V.ref (s.heap.objs.size + 1)]) (us := [Value.ref (s.heap.objs.size + 1)]) (.cons rfl .nil) rz
  refine wpAny_call (make_map (f := f) I.kIn M.makes M.init (beq_iff_eq.mp M.fn) ?_)
  refine codeAny_mono (F.run _ X.stack _ _ _ _ _ _ _ (hr.make C [] (ks.zip ws)) (J.env0.make C [] (ks.zip ws)) (hb.to _ _ ws J.kIn rfl (rz.length.symm.trans l2)) rv hq) fun r s' hr' => ?_
  rcases r with er | fl
  · exact hx pins _ _ er s' J hr'
  · cases fl with
    | ret u =>
      obtain ⟨v, H', I3, rv, ev, q3⟩ := J.after hr'
      subst ev
      exact ⟨rv, .ref (s.heap.objs.size + 1), H', I3, rfl, q3⟩
    | _ => exact hr'.elim
theorem pe_makeKS {ks : List Str} {G : List Value → List Value → List Value} {gV : List V → List V → List V} {kws : List Keyword} {tk : TA} (M : Mk X.K C f) (F : FnOk X.prog X.w X.K X.mg X.base CX k f fd ps sp) (hr : Room (k + 1) X.A) (hg : Gl X x) (hm : X.mg x = some (.ref C))
    (hb : KBn X.K fd ps 1 ks G gV) (hx : ∀ σ, PassesAt CX X σ (E σ)) (hkw : PK X kws tk)
    (hall : (backToKw pos (keywordEach kws X.env)).all (·.1.isSome) = true := by rfl) (hks : (backToKw pos (keywordEach kws X.env)).filterMap (·.1) = ks := by rfl) (hdb : (x == ("__debug__" : Str)) = false := by decide)
    (hpl : ((backTo pos (starEach [] X.env)).any (·.1) || (backToKw pos (keywordEach kws X.env)).any (·.1.isNone)) = false := by rfl) :
    PE X (.Call (.Name x pp) [] kws pos) (tMakeKS C ks.length sp gV E tk) :=
  ⟨fun pins s σ H Q I h => wpAny_Call_Name_kw (ld_glob I hg hm (PySem.W.callWith_KW0 (h₀ := X.base) I.ok.mod.kin M.kp hall
    (thn (hkw.run pos pins s σ H _ I h) fun ws s2 ⟨zs, H2, I2, rz, l2, q2⟩ => ⟨I2.kIn, hks ▸ run_mkK M F hr hb (hx σ) I2 rz l2 q2⟩) hpl) hdb)⟩

/-- o.m(..) of an instance of the class at C -/
def tMethS (C : Addr) (m : Str) (sp : Sp) (dvs : List V) (E : St → XK) (ta : TE) (t : TA) : TE := fun σ H Q => ta σ H fun x H1 => ∃ a dx fs, x = .ref a ∧ H1 a = some (.ins C dx fs) ∧ fs.lookup m = none ∧
  t σ H1 fun vs H2 => sp (x :: (vs ++ dvs)) H2 Q (E σ)
theorem pe_methS {pl : Sem Bool} (he : PE X o ta) (c : Cls X.K C) (hm : Meth X.K C m f) (F : FnOk X.prog X.w X.K X.mg X.base CX k f fd ps sp) (hr : Room k X.A) (hb : Binds X.K fd ps ds) (hd : Vals dvs ds) (hx : ∀ σ, PassesAt CX X σ (E σ)) (ha : PA X (e :: es) t)
    (hst : starEach (e :: es) X.env = (false, eval e X.env) :: starEach es X.env := by rfl) (hpl : (backTo pos (starEach es X.env)).any (·.1) = false := by rfl)
    (ht : eval (.Call (.Attribute o m apos) (e :: es) [] pos) X.env = (eval o X.env >>= fun ov => standAt apos.atName >>= fun _ => holding [ov] (getMethod ov m pl) >>= fun z =>
      callWith pos z.1 z.2 (backTo pos (starEach (e :: es) X.env)) (backToKw pos (keywordEach [] X.env))) := by rfl) :
    PE X (.Call (.Attribute o m apos) (e :: es) [] pos) (tMethS C m sp dvs E ta t) := by
  refine ⟨fun pins s σ H Q I h => PySem.W.methodCall_KW (pl := pl) (thn (he.run pins s σ H _ I h) ?_) ht⟩
  rintro u s1 ⟨x, H1, I1, rx, a, dx, fs, rfl, ea, l, q⟩
  obtain rfl : u = Value.ref a := rx
  exact getmeth_ok I1 ea c hm l (PySem.W.callWith_K (first := [.ref a]) (h₀ := X.base) I.ok.mod.kin hm.kp
    (thn (ha.run pos pins s1 σ H1 _ I1 q) fun us s2 ⟨vs, H2, I2, r, q2⟩ => ⟨I2.kIn, run_fnSD (us := .ref a :: us) (vs := .ref a :: vs) F hr hb hd (hx σ) I2 (.cons rfl r) q2⟩) hst hpl)
theorem pe_meth0S {pl : Sem Bool} (he : PE X o ta) (c : Cls X.K C) (hm : Meth X.K C m f) (F : FnOk X.prog X.w X.K X.mg X.base CX k f fd ps sp) (hr : Room k X.A) (hb : Binds X.K fd ps ds) (hd : Vals dvs ds) (hx : ∀ σ, PassesAt CX X σ (E σ))
    (ht : eval (.Call (.Attribute o m apos) [] [] pos) X.env = (eval o X.env >>= fun ov => standAt apos.atName >>= fun _ => holding [ov] (getMethod ov m pl) >>= fun z =>
      callWith pos z.1 z.2 (backTo pos (starEach [] X.env)) (backToKw pos (keywordEach [] X.env))) := by rfl) :
    PE X (.Call (.Attribute o m apos) [] [] pos) (tMethS C m sp dvs E ta tNil) := by
  refine ⟨fun pins s σ H Q I h => PySem.W.methodCall_KW (pl := pl) (thn (he.run pins s σ H _ I h) ?_) ht⟩
  rintro u s1 ⟨x, H1, I1, rx, a, dx, fs, rfl, ea, l, q⟩
  obtain rfl : u = Value.ref a := rx
  exact getmeth_ok I1 ea c hm l (PySem.W.callWith_K0 (first := [.ref a]) I1.kIn hm.kp (run_fnSD (us := [.ref a]) (vs := [.ref a]) F hr hb hd (hx σ) I1 (.cons rfl .nil) q))
end

/-! ### operators and comparisons that an own class defines (nothing is raised) -/
section
variable {X : Cx} {k : Nat} {f C a dx : Addr} {fd : FuncData} {ps : List Str} {sp : Sp} {fs : List (Str × V)}
/-- the special method m of the class at C is the def at f -/
structure Spc (K : PySem.W.Frag) (C : Addr) (m : Str) (f : Addr) : Prop where
  at_ : PySem.W.findIn K (.ref C) m = some (some (.ref f))
  fn : PySem.W.isFn K (.ref f) = true
theorem cmpBack {v : V} {u : Value} {s : Shared} {Q : Value → Shared → Prop} (r : RelV v u) (q : Q u s) : PySem.W.CmpBack Q u s := by
  cases v <;> first
    | (obtain ⟨t, rfl⟩ := r; exact q)
    | (cases r; exact q)
theorem inst_of {pins : List (Addr × Obj)} {σ : St} {H : Hp} {s : Shared} (I : Inv X pins σ H s) (e : H a = some (.ins C dx fs)) : ∃ od, PySem.W.InstAt s.heap a (PySem.W.instObj C dx) C (some od) := by
  obtain ⟨mA, O, _⟩ := ins_get I.hok e
  obtain ⟨od, J, _⟩ := O.look
  exact ⟨od, J⟩
/-- both of the class at C -/
def rOwn (C : Addr) (sp : Sp) : R2 := fun x y H Q => ∃ a dx fs b dy gs, x = .ref a ∧ y = .ref b ∧ H a = some (.ins C dx fs) ∧ H b = some (.ins C dy gs) ∧ sp [.ref a, .ref b] H Q E0
/-- the left one of the class at C, the right one an int -/
def rOwnI (C : Addr) (sp : Sp) : R2 := fun x y H Q => ∃ a dx fs i, x = .ref a ∧ y = .int i ∧ H a = some (.ins C dx fs) ∧ sp [.ref a, .int i] H Q E0
/-- the left one of the class at C, the right one anything -/
def rOwnA (C : Addr) (sp : Sp) : R2 := fun x y H Q => ∃ a dx fs, x = .ref a ∧ H a = some (.ins C dx fs) ∧ sp [.ref a, y] H Q E0
theorem op_own {op : Operator} (F : FnOk X.prog X.w X.K X.mg X.base (L2.CX X.prog X.w) k f fd ps sp) (hr : Room k X.A) (hb : Binds X.K fd ps []) (hc : PySem.W.selfFirst X.K C = true) (hs : Spc X.K C (PySem.dunder op.info.2) f) : OpR X (binaryOp op) (rOwn C sp) := by
  rintro pins s σ H x y v u Q I rx ry ⟨a, dx, fs, b, dy, gs, rfl, rfl, ha, hbb, q⟩
  cases rx
  cases ry
  obtain ⟨od, J⟩ := inst_of I ha
  obtain ⟨od2, J2⟩ := inst_of I hbb
  obtain ⟨m, fr⟩ := I.fr
  refine PySem.W.binop_K fr I.mod.kin J J2.type hc hs.at_ hs.fn (thn (run_fn (us := [.ref a, .ref b]) (vs := [.ref a, .ref b]) (dvs := []) F hr hb .nil passL I (.cons rfl (.cons rfl .nil)) q) ?_)
  rintro u s1 ⟨w, H1, I1, rw', q1⟩
  exact cmpBack rw' ⟨w, H1, I1, rw', q1⟩
theorem op_ownI {op : Operator} {fo ro rc : Option Value} (F : FnOk X.prog X.w X.K X.mg X.base (L2.CX X.prog X.w) k f fd ps sp) (hr : Room k X.A) (hb : Binds X.K fd ps []) (hc : PySem.W.selfFirst X.K C = true) (hs : Spc X.K C (PySem.dunder op.info.2) f)
    (hrf : PySem.W.findIn X.K (.ref C) (PySem.dunderR op.info.2) = some rc) (hp : rc = none ∨ ∃ g : Addr, rc = some (.ref g)) (h1 : PySem.W.findIn X.K (.type "int") (PySem.dunder op.info.2) = some fo)
    (h2 : PySem.W.findIn X.K (.type "int") (PySem.dunderR op.info.2) = some ro) (hsub : PySem.W.subIn X.K (.type "int") (.ref C) = some false) : OpR X (binaryOp op) (rOwnI C sp) := by
  rintro pins s σ H x y v u Q I rx ry ⟨a, dx, fs, i, rfl, rfl, ha, q⟩
  cases rx
  obtain ⟨t, rfl⟩ := ry
  obtain ⟨od, J⟩ := inst_of I ha
  obtain ⟨m, fr⟩ := I.fr
  refine PySem.W.ksp_binT (T := "int") fr I.mod.kin J rfl hc hs.at_ hs.fn hrf hp h1 h2 hsub (thn (run_fn (us := [.ref a, .int i t]) (vs := [.ref a, .int i]) (dvs := []) F hr hb .nil passL I (.cons rfl (.cons ⟨t, rfl⟩ .nil)) q) ?_)
  rintro u s1 ⟨w, H1, I1, rw', q1⟩
  exact cmpBack rw' ⟨w, H1, I1, rw', q1⟩
theorem iop_own {op : Operator} (F : FnOk X.prog X.w X.K X.mg X.base (L2.CX X.prog X.w) k f fd ps sp) (hr : Room k X.A) (hb : Binds X.K fd ps []) (hc : PySem.W.selfFirst X.K C = true) (hs : Spc X.K C (PySem.dunderI op.info.2) f) : OpR X (inplaceOp op) (rOwnA C sp) := by
  rintro pins s σ H x y v u Q I rx ry ⟨a, dx, fs, rfl, ha, q⟩
  cases rx
  obtain ⟨od, J⟩ := inst_of I ha
  obtain ⟨m, fr⟩ := I.fr
  refine PySem.W.ksp_inplace fr I.mod.kin J hc hs.at_ hs.fn (thn (run_fn (us := [.ref a, u]) (vs := [.ref a, y]) (dvs := []) F hr hb .nil passL I (.cons rfl (.cons ry .nil)) q) ?_)
  rintro u s1 ⟨w, H1, I1, rw', q1⟩
  exact cmpBack rw' ⟨w, H1, I1, rw', q1⟩
theorem rc_own {op : CmpOp} (F : FnOk X.prog X.w X.K X.mg X.base (L2.CX X.prog X.w) k f fd ps sp) (hr : Room k X.A) (hb : Binds X.K fd ps []) (hn : PySem.W.notFirst X.K C (.ref C) = true) (hs : Spc X.K C (cmpInfo op).2.1 f) : OpR X (richCompare op) (rOwn C sp) := by
  rintro pins s σ H x y v u Q I rx ry ⟨a, dx, fs, b, dy, gs, rfl, rfl, ha, hbb, q⟩
  cases rx
  cases ry
  obtain ⟨od, J⟩ := inst_of I ha
  obtain ⟨od2, J2⟩ := inst_of I hbb
  obtain ⟨m, fr⟩ := I.fr
  refine PySem.W.cmp_K hr.units0 fr I.mod.kin J J2.type hn hs.at_ hs.fn (thn (run_fn (us := [.ref a, .ref b]) (vs := [.ref a, .ref b]) (dvs := []) F hr hb .nil passL I (.cons rfl (.cons rfl .nil)) q) ?_)
  rintro u s1 ⟨w, H1, I1, rw', q1⟩
  exact cmpBack rw' ⟨w, H1, I1, rw', q1⟩

/-- o[i] by an own __getitem__ -/
def tOwnIx (C : Addr) (sp : Sp) (E : St → XK) (ta tb : TE) : TE := fun σ H Q => ta σ H fun x H1 => tb σ H1 fun y H2 => ∃ a dx fs, x = .ref a ∧ H2 a = some (.ins C dx fs) ∧ sp [.ref a, y] H2 Q (E σ)
/-- o[i] = v by an own __setitem__ -/
def sOwnPut (C : Addr) (sp : Sp) (E : St → XK) (to ti tv : TE) : TS := fun D σ H => tv σ H fun v H1 => to σ H1 fun x H2 => ti σ H2 fun y H3 => ∃ a dx fs, x = .ref a ∧ H3 a = some (.ins C dx fs) ∧ sp [.ref a, y, v] H3 (fun _ H4 => D.nx σ H4) (E σ)
end
section
variable {X : Cx} {CX : CXT} {k : Nat} {f C : Addr} {fd : FuncData} {ps : List Str} {sp : Sp} {E : St → XK} {o i value : Expr} {to ti tv : TE} {pos pos' : Pos}
theorem pe_ownIx (F : FnOk X.prog X.w X.K X.mg X.base CX k f fd ps sp) (hr : Room (k + 1) X.A) (hb : Binds X.K fd ps []) (hx : ∀ σ, PassesAt CX X σ (E σ)) (hs : Spc X.K C "__getitem__" f) (hf : PySem.W.fnIn X.K f = true) (ho : PE X o to) (hi : PE X i ti)
    (hsl : ∀ x v, subscripted i true (.ref x) v = runValue (.builtin "lifetime.subscript" ⟨[.ref x, v], []⟩) := by intro _ _; rfl) : PE X (.Subscript o i pos) (tOwnIx C sp E to ti) := by
  refine ⟨fun pins s σ H Q I h => Subscript_ (binT ho hi I h ?_)⟩
  rintro v u s2 x y H2 I2 rx ry ⟨a, dx, fs, rfl, ha, q⟩
  cases rx
  obtain ⟨od, J⟩ := inst_of I2 ha
  obtain ⟨m, fr⟩ := I2.fr
  refine PySem.W.sub_K fr I2.mod.kin J hs.at_ hf hs.fn ?_ (hsl a u)
  have rv : Vals [V.ref a, y] [Value.ref a, u] := .cons rfl (.cons ry .nil)
  refine wpAny_call (codeAny_mono (F.run X.A.in1 X.stack s2 H2 ⟨[.ref a, u], []⟩ [.ref a, u] [.ref a, y] Q (E σ) hr.in1 I2.env0.in1 (hb s2 [.ref a, u] I2.kIn ?_) rv q) fun r s' hq => back_of (hx σ) I2 hq)
  exact (F.len _ _ _ _ q)
theorem ps_ownPut (F : FnOk X.prog X.w X.K X.mg X.base CX k f fd ps sp) (hr : Room k X.A) (hb : Binds X.K fd ps []) (hx : ∀ σ, PassesAt CX X σ (E σ)) (hs : Spc X.K C "__setitem__" f) (hq : PySem.W.noSeq X.K C = true) (ho : PE X o to) (hi : PE X i ti) (hv : PE X value tv)
    (hsw : swapsWith value (some (.Subscript o i pos')) pos.line X.env = pure false) : PS X (.Assign [.Subscript o i pos'] value pos) (sOwnPut C sp E to ti tv) := by
  refine ⟨fun pins s σ H D I h => wpAny_Assign_Subscript (thn (hv.run pins s σ H _ I h) ?_) hsw⟩
  rintro r s1 ⟨v, H1, I1, rv, q1⟩
  refine thn (ho.run pins s1 σ H1 _ I1 q1) ?_
  rintro u s2 ⟨x, H2, I2, rx, q2⟩
  refine thn (hi.run pins s2 σ H2 _ I2 q2) ?_
  rintro iv s3 ⟨y, H3, I3, ry, a, dx, fs, rfl, ha, q3⟩
  cases rx
  obtain ⟨od, J⟩ := inst_of I3 ha
  obtain ⟨m, fr⟩ := I3.fr
  refine PySem.W.ksp_setItem fr I3.mod.kin J hq hs.at_ hs.fn ?_
  refine thn (run_fnSD (us := [.ref a, iv, r]) (vs := [.ref a, y, v]) (dvs := []) (E := E) F hr hb .nil (hx σ) I3 (.cons rfl (.cons ry (.cons rv .nil))) q3) ?_
  rintro _ s4 ⟨w, H4, I4, _, q4⟩
  exact ⟨σ, H4, I4, q4⟩
end
end L2.MP

set_option Elab.async false
set_option linter.all false
set_option maxRecDepth 100000
set_option maxHeartbeats 4000000
/-! The head: defs at any address that the written part tells, one Bool for all other facts, tables. -/
namespace L2.MP
open PySem PySem.Spec PyProof.Rows
/-- a def by the address that the written part gives it -/
structure DefM where
  adr : PySem.W.Frag → Addr
  name : Str
  qual : Str
  st : Stmt
  dfl : List He.Dv := []
  kwd : List (Str × He.Dv) := []
  fr : List Str := []
def dBody (s : Stmt) : List Stmt := defBody s
/-- a def's text; of its closure the names alone -/
abbrev FnV : Type := Option (Str × Str × Arguments × FuncBody × Scope × Addr × List Str × Addr)
def fnAt (K : PySem.W.Frag) (a : Addr) : FnV := match K.lookup a with
  | some ⟨_, _, .func fd, _⟩ => some (fd.name, fd.qualname, fd.params, fd.body, fd.scope, fd.globals, fd.closure.map (·.1), fd.builtins)
  | _ => none
def fdAt (K : PySem.W.Frag) (a : Addr) : FuncData := match K.lookup a with
  | some ⟨_, _, .func fd, _⟩ => fd
  | _ => PySem.W.fnOf "" "" (defArgs (.Pass ⟨0, 0, 0, 0⟩)) [] (defScope (.Pass ⟨0, 0, 0, 0⟩)) .none .none .none .none none .none .none
def DefM.val (d : DefM) : FnV := some (d.name, d.qual, defArgs d.st, .stmts (defBody d.st), defScope d.st, mainGlobals, d.fr, builtinsNs)
def DefM.dvs (K : PySem.W.Frag) (d : DefM) : List V := d.dfl.map (He.Dv.v K)
def DefM.kws (K : PySem.W.Frag) (d : DefM) : List (Str × V) := d.kwd.map fun q => (q.1, q.2.v K)
def DefM.ok (K : PySem.W.Frag) (d : DefM) : Bool := PySem.W.keepIn K (.ref (d.adr K)) && (match K.lookup (d.adr K) with
  | some ⟨_, _, .func fd, _⟩ => PySem.W.codeIn K fd.code d.qual && (He.dflB K fd.defaults (d.dvs K) && He.kwdB K fd.kwdefaults (d.kws K))
  | _ => false)
/-- a def of the text as it stands behind the top -/
abbrev FunM (K : PySem.W.Frag) (d : DefM) : Prop := FunD K d.name d.qual (defArgs d.st) (defBody d.st) (defScope d.st) (d.dvs K) (d.kws K) (d.adr K) (fdAt K (d.adr K))
theorem DefM.fun {K : PySem.W.Frag} {d : DefM} (hfr : d.fr = []) (e : fnAt K (d.adr K) = d.val) (c : d.ok K = true) : FunM K d := by
  obtain ⟨kp, c2⟩ := He.ba c
  revert e c2
  unfold FunM fnAt fdAt
  cases q : K.lookup (d.adr K) with
  | none => intro _ c2; cases c2
  | some o =>
    rcases o with ⟨oc, od, dt, osl⟩
    cases dt with
    | func fd =>
      rcases fd with ⟨n1, n2, n3, n4, n5, n6, n7, n8, n9, n10, n11, n12, n13, n14, n15⟩
      intro e c2
      have e2 : (some (n1, n2, n3, n4, n5, n6, n7.map (·.1), n15) : FnV) = some (d.name, d.qual, defArgs d.st, .stmts (defBody d.st), defScope d.st, mainGlobals, d.fr, builtinsNs) := e
      simp only [Option.some.injEq, Prod.mk.injEq] at e2
      rcases e2 with ⟨h1, h2, h3, h4, h5, h6, h7, h8⟩
      rw [hfr, List.map_eq_nil_iff] at h7
      subst h1 h2 h3 h4 h5 h6 h7 h8
      obtain ⟨k1, k2⟩ := He.ba c2
      obtain ⟨k3, k4⟩ := He.ba k2
      exact ⟨⟨oc, od, n8, n9, n10, n11, n12, n13, n14, osl, rfl, q, k1, He.dflB_ok k3, He.kwdB_ok k4⟩, kp⟩
    | _ => intro _ c2; cases c2
/-- a def that captures __class__ -/
structure FunC (K : PySem.W.Frag) (x qual : Str) (params : Arguments) (body : List Stmt) (scope : Scope) (f : Addr) (fd : FuncData) (c cc : Addr) : Prop where
  ex : ∃ (oc : Value) (od : Option Addr) (kV doc pm : Value) (an : Option Addr) (ct : Value) (osl : Array (Option Value)),
    fd = PySem.W.fnX x qual params body scope [("__class__", cc)] .none kV doc pm an (.ref c) ct ∧ K.lookup f = some ⟨oc, od, .func fd, osl⟩
  cd : PySem.W.codeIn K (.ref c) qual = true
  kp : PySem.W.keepIn K (.ref f) = true
def ccAt (K : PySem.W.Frag) (a : Addr) : Addr := match K.lookup a with
  | some ⟨_, _, .func fd, _⟩ => (match fd.closure with | (_, c) :: _ => c | _ => 0)
  | _ => 0
def cdAt (K : PySem.W.Frag) (a : Addr) : Addr := match K.lookup a with
  | some ⟨_, _, .func fd, _⟩ => (match fd.code with | .ref c => c | _ => 0)
  | _ => 0
abbrev FunMC (K : PySem.W.Frag) (d : DefM) : Prop := FunC K d.name d.qual (defArgs d.st) (defBody d.st) (defScope d.st) (d.adr K) (fdAt K (d.adr K)) (cdAt K (d.adr K)) (ccAt K (d.adr K))
theorem DefM.funC {K : PySem.W.Frag} {d : DefM} (hfr : d.fr = [("__class__" : Str)]) (hdf : d.dfl = []) (e : fnAt K (d.adr K) = d.val) (c : d.ok K = true) : FunMC K d := by
  obtain ⟨kp, c2⟩ := He.ba c
  revert e c2
  unfold FunMC fnAt fdAt ccAt cdAt
  cases q : K.lookup (d.adr K) with
  | none => intro _ c2; cases c2
  | some o =>
    rcases o with ⟨oc, od, dt, osl⟩
    cases dt with
    | func fd =>
      rcases fd with ⟨n1, n2, n3, n4, n5, n6, n7, n8, n9, n10, n11, n12, n13, n14, n15⟩
      intro e c2
      have e2 : (some (n1, n2, n3, n4, n5, n6, n7.map (·.1), n15) : FnV) = some (d.name, d.qual, defArgs d.st, .stmts (defBody d.st), defScope d.st, mainGlobals, d.fr, builtinsNs) := e
      simp only [Option.some.injEq, Prod.mk.injEq] at e2
      rcases e2 with ⟨h1, h2, h3, h4, h5, h6, h7, h8⟩
      rw [hfr] at h7
      obtain ⟨cc, rfl⟩ : ∃ cc : Addr, n7 = [(("__class__" : Str), cc)] := by
        rcases n7 with _ | ⟨⟨y, cc⟩, _ | ⟨z, r⟩⟩
        · cases h7
        · simp at h7
          exact ⟨cc, by rw [h7]⟩
        · simp at h7
      subst h1 h2 h3 h4 h5 h6 h8
      obtain ⟨k1, k2⟩ := He.ba c2
      obtain ⟨k3, k4⟩ := He.ba k2
      have k5 := He.dflB_ok k3
      rw [show d.dvs K = [] by unfold DefM.dvs; rw [hdf]; rfl] at k5
      have k6 : n8 = .none := by
        rcases k5 with ⟨_, z⟩ | ⟨z, _⟩
        · exact z
        · exact absurd rfl z
      obtain ⟨c1, rfl⟩ : ∃ c1, n13 = .ref c1 := by
        cases n13 with
        | ref c1 => exact ⟨c1, rfl⟩
        | _ => cases k1
      exact ⟨⟨oc, od, n9, n10, n11, n12, n14, osl, by rw [k6], q⟩, k1, kp⟩
    | _ => intro _ c2; cases c2
/-- the getter of the property m of the class named x -/
def pgA (x m : Str) (K : PySem.W.Frag) : Addr := match PySem.W.recIn K (He.ma K (He.ga K x) m) "property" with
  | some (.ref g :: _) => g
  | _ => 0
def propB (x m : Str) (K : PySem.W.Frag) : Bool := He.eqO (PySem.W.findIn K (.ref (He.ga K x)) m) (some (some (.ref (He.ma K (He.ga K x) m)))) &&
  (He.eqO (PySem.W.specialIn K (.ref (He.ma K (He.ga K x) m)) "__get__") (some (some (.builtin "property.__get__"))) && (decide (PySem.W.takesIn K (.ref (He.ma K (He.ga K x) m)) = some true) &&
    (match PySem.W.recIn K (He.ma K (He.ga K x) m) "property" with
    | some (.ref _ :: _) => true
    | _ => false)))
theorem propB_ok {x m : Str} {K : PySem.W.Frag} (h : propB x m K = true) : PropOf K (He.ga K x) m (He.ma K (He.ga K x) m) (pgA x m K) := by
  obtain ⟨h1, h⟩ := He.ba h
  obtain ⟨h2, h⟩ := He.ba h
  obtain ⟨h3, h4⟩ := He.ba h
  refine ⟨He.eqO_ok h1, He.eqO_ok h2, of_decide_eq_true h3, ?_⟩
  unfold pgA
  split at h4
  · rename_i g rest q
    rw [q]
    exact ⟨rest, rfl⟩
  · cases h4
def spcB (x m : Str) (K : PySem.W.Frag) : Bool := He.eqO (PySem.W.findIn K (.ref (He.ga K x)) m) (some (some (.ref (He.ma K (He.ga K x) m)))) && PySem.W.isFn K (.ref (He.ma K (He.ga K x) m))
theorem spcB_ok {x m : Str} {K : PySem.W.Frag} (h : spcB x m K = true) : Spc K (He.ga K x) m (He.ma K (He.ga K x) m) := by
  obtain ⟨h1, h2⟩ := He.ba h
  exact ⟨He.eqO_ok h1, h2⟩
/-- the Hook: all defs' texts, one Bool, tables with text keys -/
abbrev AlM : Type := List FnV × Bool × List (Option (List (Option (Str × Int))))
def obsM (fn : List DefM) (ex : PySem.W.Frag → Bool) (ts : List He.Tab) (K : PySem.W.Frag) : AlM := (fn.map (fun d => fnAt K (d.adr K)), (fn.all fun d => d.ok K) && ex K, ts.map fun t => He.dicW K (t.1 K))
def valM (fn : List DefM) (ts : List He.Tab) (w : World) : AlM := (fn.map DefM.val, true, ts.map fun t => some (He.keysIn w.params t.2))
structure SaysM (fn : List DefM) (ex : PySem.W.Frag → Bool) (ts : List He.Tab) (w : World) (K : PySem.W.Frag) : Prop where
  eq : obsM fn ex ts K = valM fn ts w
theorem SaysM.at_ {fn : List DefM} {ex : PySem.W.Frag → Bool} {ts : List He.Tab} {w : World} {K : PySem.W.Frag} (c : SaysM fn ex ts w K) (i : Nat) {d : DefM} (h : fn[i]? = some d := by rfl) : fnAt K (d.adr K) = d.val ∧ d.ok K = true := by
  have e1 : fn.map (fun d => fnAt K (d.adr K)) = fn.map DefM.val := congrArg (fun z : AlM => z.1) c.eq
  have e2 : ((fn.all fun d => d.ok K) && ex K) = true := congrArg (fun z : AlM => z.2.1) c.eq
  obtain ⟨h1, _⟩ := He.ba e2
  refine ⟨?_, List.all_eq_true.mp h1 d (List.mem_of_getElem? h)⟩
  have q := congrArg (fun l => l[i]?) e1
  simp only [List.getElem?_map, h, Option.map_some, Option.some.injEq] at q
  exact q
theorem SaysM.fun {fn : List DefM} {ex : PySem.W.Frag → Bool} {ts : List He.Tab} {w : World} {K : PySem.W.Frag} (c : SaysM fn ex ts w K) (i : Nat) {d : DefM} (hfr : d.fr = []) (h : fn[i]? = some d := by rfl) : FunM K d :=
  DefM.fun hfr (c.at_ i h).1 (c.at_ i h).2
theorem SaysM.funC {fn : List DefM} {ex : PySem.W.Frag → Bool} {ts : List He.Tab} {w : World} {K : PySem.W.Frag} (c : SaysM fn ex ts w K) (i : Nat) {d : DefM} (hfr : d.fr = [("__class__" : Str)]) (hdf : d.dfl = []) (h : fn[i]? = some d := by rfl) : FunMC K d :=
  DefM.funC hfr hdf (c.at_ i h).1 (c.at_ i h).2
theorem SaysM.more {fn : List DefM} {ex : PySem.W.Frag → Bool} {ts : List He.Tab} {w : World} {K : PySem.W.Frag} (c : SaysM fn ex ts w K) : ex K = true :=
  (He.ba (congrArg (fun z : AlM => z.2.1) c.eq : ((fn.all fun d => d.ok K) && ex K) = true)).2
theorem SaysM.tab {fn : List DefM} {ex : PySem.W.Frag → Bool} {ts : List He.Tab} {w : World} {K : PySem.W.Frag} (c : SaysM fn ex ts w K) (i : Nat) {t : He.Tab} (h : ts[i]? = some t := by rfl) : ∃ es n, KDict K w (t.1 K) es n := by
  have e : (ts.map fun t => He.dicW K (t.1 K)) = ts.map fun t => some (He.keysIn w.params t.2) := congrArg (fun z : AlM => z.2.2) c.eq
  have q := congrArg (fun l => l[i]?) e
  simp only [List.getElem?_map, h, Option.map_some, Option.some.injEq] at q
  exact He.dicW_ok q
def hookM (n : Nat) (fn : List DefM) (ex : PySem.W.Frag → Bool) (ts : List He.Tab) : PySem.W.Hook where
  α := AlM
  obs := fun s => obsM fn ex ts (He.frT s.heap.get? (He.asD s.heap.get? n))
  val := fun w => valM fn ts w
  says := fun w h => ∃ K : PySem.W.Frag, K.In h ∧ SaysM fn ex ts w K
  of := fun _ _ e => ⟨_, He.frT_in, ⟨e⟩⟩
  keeps := fun _ _ _ ⟨K, hK, c⟩ k => ⟨K, PySem.W.Frag.In.keeps hK k, c⟩
def obsMG (n : Nat) (fn : List DefM) (ex : PySem.W.Frag → Bool) (ts : List He.Tab) (s : PySem.W.SharedT) : AlM := obsM fn ex ts (He.frT (HandSHeadRun.getT s) (He.asD (HandSHeadRun.getT s) n))
theorem obsMG_eq (n : Nat) (fn : List DefM) (ex : PySem.W.Frag → Bool) (ts : List He.Tab) (s : PySem.W.SharedT) : obsMG n fn ex ts s = (hookM n fn ex ts).obs s.abs := by
  have e : HandSHeadRun.getT s = s.abs.heap.get? := funext (HandSHeadRun.getT_eq s)
  show obsM fn ex ts (He.frT (HandSHeadRun.getT s) (He.asD (HandSHeadRun.getT s) n)) = obsM fn ex ts (He.frT s.abs.heap.get? (He.asD s.abs.heap.get? n))
  rw [e]
end L2.MP

set_option Elab.async false
set_option linter.all false
set_option maxRecDepth 100000
set_option maxHeartbeats 4000000
/-! Named readings of the operators and built-in functions that the programs use. -/
namespace L2.MP
open PySem PySem.Spec PyProof.Rows
section
variable {X : Cx}
/-! ### names -/
theorem pe_gint {x : Str} {i : Int} {pos : Pos} (hg : Gl X x) (h : ∃ t, X.mg x = some (.int i t)) (hd : (x == ("__debug__" : Str)) = false := by decide) : PE X (.Name x pos) (tC (.int i)) := by
  obtain ⟨t, h⟩ := h
  exact pe_glob hg h ⟨t, rfl⟩ hd
theorem pe_gstr {x z : Str} {pos : Pos} (hg : Gl X x) (h : ∃ t, X.mg x = some (.str z t)) (hd : (x == ("__debug__" : Str)) = false := by decide) : PE X (.Name x pos) (tC (.str z)) := by
  obtain ⟨t, h⟩ := h
  exact pe_glob hg h ⟨t, rfl⟩ hd
/-! ### numbers -/
def rSubI : R2 := rI0 fun i j => .int (i - j)
def rAddI : R2 := rI0 fun i j => .int (i + j)
def rFdivI : R2 := rI CDiv fun i j => .int (i / j)
def rModI : R2 := rI (fun _ j => 0 < j) fun i j => .int (i % j)
def rPowI : R2 := rI CPow fun i j => .int (i ^ j.toNat)
def rNegI : V → Hp → VK → Prop := rU fun i => .int (-i)
theorem op_subI : OpR X (binaryOp .Sub) rSubI := op_sub
theorem op_fdivI : OpR X (binaryOp .FloorDiv) rFdivI := op_fdiv
theorem op_modI : OpR X (binaryOp .Mod) rModI := op_mod
theorem op_powI : OpR X (binaryOp .Pow) rPowI := op_pow
theorem un_negI : UnR X (unaryOp .USub) rNegI := un_neg
theorem iop_addI : OpR X (inplaceOp .Add) rAddI := iop_add
def rLtI : R2 := rI0 fun i j => .bl (decide (i < j))
def rLeI : R2 := rI0 fun i j => .bl (decide (i ≤ j))
def rGtI : R2 := rI0 fun i j => .bl (decide (j < i))
def rGeI : R2 := rI0 fun i j => .bl (decide (j ≤ i))
theorem op_ltI : OpR X (compareOp .Lt) rLtI := op_lt
theorem op_leI : OpR X (compareOp .LtE) rLeI := op_le
theorem op_gtI : OpR X (compareOp .Gt) rGtI := op_gt
theorem op_geI : OpR X (compareOp .GtE) rGeI := op_ge
/-! ### plus and times of any kind -/
def rAddA (K : PySem.W.Frag) : R2 := fun x y H Q => match x, y with
  | .int i, .int j => Q (.int (i + j)) H
  | .str i, .str j => i.length + j.length ≤ sizeLine ∧ Q (.str (i ++ j)) H
  | .ref a, .ref b => rCat (.ref a) (.ref b) H Q ∨ rCatA K (.ref a) (.ref b) H Q
  | _, _ => False
theorem op_addA : OpR X (binaryOp .Add) (rAddA X.K) := by
  intro pins s σ H x y v u Q I rx ry h
  cases x <;> cases y <;> first
    | exact op_add pins s σ H _ _ v u Q I rx ry ⟨_, _, rfl, rfl, h⟩
    | exact op_add_str pins s σ H _ _ v u Q I rx ry ⟨_, _, rfl, rfl, h.1, h.2⟩
    | exact h.elim (op_cat pins s σ H _ _ v u Q I rx ry) (op_catA pins s σ H _ _ v u Q I rx ry)
    | exact h.elim
def rMulA : R2 := fun x y H Q => match x, y with
  | .int i, .int j => CMul i j ∧ Q (.int (i * j)) H
  | .str z, .int n => MulOk z n ∧ Q (.str (Txt.mul z n)) H
  | _, _ => False
theorem op_mulA : OpR X (binaryOp .Mult) rMulA := by
  intro pins s σ H x y v u Q I rx ry h
  cases x <;> cases y <;> first
    | exact op_mul pins s σ H _ _ v u Q I rx ry ⟨_, _, rfl, rfl, h.1, h.2⟩
    | (obtain ⟨h1, q⟩ := h
       obtain ⟨t, rfl⟩ := rx
       obtain ⟨t', rfl⟩ := ry
       exact SB.mul h1 fun t2 k => ⟨.str _, H, I.tok _, ⟨_, rfl⟩, q⟩)
    | exact h.elim
/-! ### equal or not, of scalars and of nested data -/
def rEqA (K : PySem.W.Frag) : R2 := fun x y H Q => rEq x y H Q ∨ rEqD K x y H Q
def rNeA (K : PySem.W.Frag) : R2 := fun x y H Q => rNe x y H Q ∨ rNeD K x y H Q
theorem op_eqA (hu : X.A.units + 64 < cLine) : OpR X (compareOp .Eq) (rEqA X.K) := orO op_eq (op_eqD hu)
theorem op_neA (hu : X.A.units + 64 < cLine) : OpR X (compareOp .NotEq) (rNeA X.K) := orO op_ne (op_neD hu)
def rIsNone : R2 := fun x y H Q => y = .non ∧ Q (.bl (decide (x = .non))) H
def rNotNone : R2 := fun x y H Q => y = .non ∧ Q (.bl (!decide (x = .non))) H
theorem op_isNone : OpR X (compareOp .Is) rIsNone := op_isN
theorem op_notNone : OpR X (compareOp .IsNot) rNotNone := op_notN
/-! ### in -/
def rInDict (neg : Bool) : R2 := fun x y H Q => ∃ a o, y = .ref a ∧ DGet H a x o ∧ Q (.bl (if neg then !o.isSome else o.isSome)) H
theorem op_inDict (hu : X.A.units + 1 < cLine) : OpR X (compareOp .In) (rInDict false) := by
  rintro pins s σ H x y v u Q I rx ry ⟨a, o, rfl, g, q⟩
  cases ry
  exact d_in hu I g rx fun s' I' => ⟨.bl o.isSome, H, I', rfl, q⟩
theorem op_notInDict (hu : X.A.units + 1 < cLine) : OpR X (compareOp .NotIn) (rInDict true) := by
  rintro pins s σ H x y v u Q I rx ry ⟨a, o, rfl, g, q⟩
  cases ry
  exact d_notIn hu I g rx fun s' I' => ⟨.bl (!o.isSome), H, I', rfl, q⟩
def rInA (K : PySem.W.Frag) (neg : Bool) : R2 := fun x y H Q => rIn K neg x y H Q ∨ rInDict neg x y H Q
theorem op_inA (hu : X.A.units + 1 < cLine) : OpR X (compareOp .In) (rInA X.K false) := orO op_in_seq (op_inDict hu)
theorem op_notInA (hu : X.A.units + 1 < cLine) : OpR X (compareOp .NotIn) (rInA X.K true) := orO op_notIn_seq (op_notInDict hu)
/-! ### built-in functions -/
def rAbsI : List V → Hp → VK → Prop := fun xs H Q => match xs with
  | [.int i] => Q (.int (if i < 0 then -i else i)) H
  | _ => False
theorem call_absI : CallR X (.builtin "abs") rAbsI := wkC call_abs fun xs H Q q => by
  rcases xs with _ | ⟨x, _ | ⟨y, r⟩⟩
  · exact q.elim
  · cases x <;> first | exact ⟨_, rfl, q⟩ | exact q.elim
  · cases x <;> exact q.elim
def rMax2I : List V → Hp → VK → Prop := fun xs H Q => match xs with
  | [.int i, .int j] => Q (.int (if j > i then j else i)) H
  | _ => False
theorem two_of {P : List V → Prop} {F : Int → Int → Prop} {xs : List V} (h : match xs with | [.int i, .int j] => F i j | _ => False) : ∃ i j, xs = [.int i, .int j] ∧ F i j := by
  split at h
  · exact ⟨_, _, rfl, h⟩
  · exact h.elim
theorem call_max2I (hc : X.calm = true) : CallR X (.builtin "max") rMax2I := wkC (call_max2 hc) fun xs H Q q => two_of (P := fun _ => True) q
def rMin2I : List V → Hp → VK → Prop := fun xs H Q => match xs with
  | [.int i, .int j] => Q (.int (if j < i then j else i)) H
  | _ => False
theorem call_min2I (hc : X.calm = true) : CallR X (.builtin "min") rMin2I := wkC (call_min2 hc) fun xs H Q q => two_of (P := fun _ => True) q
def rIntA : List V → Hp → VK → Prop := fun xs H Q => match xs with
  | [.int i] => Q (.int i) H
  | [.bl k] => Q (.int (if k then 1 else 0)) H
  | _ => False
theorem call_intA : CallR X (.type "int") rIntA := wkC call_int1 fun xs H Q q => by
  unfold rIntA at q
  split at q
  · exact .inl ⟨_, rfl, q⟩
  · exact .inr ⟨_, rfl, q⟩
  · exact q.elim
def rLenA (K : PySem.W.Frag) : List V → Hp → VK → Prop := fun xs H Q => ∃ x n, xs = [x] ∧ LenV K x H n ∧ Q (.int n) H
theorem call_lenA : CallR X (.builtin "len") (rLenA X.K) := call_len
def rLenD : List V → Hp → VK → Prop := fun xs H Q => ∃ a kvs, xs = [V.ref a] ∧ H a = some (.dK kvs) ∧ Q (.int kvs.length) H
theorem call_lenDI : CallR X (.builtin "len") rLenD := call_lenD
def rListA (K : PySem.W.Frag) : List V → Hp → VK → Prop := fun xs H Q => ∃ p ys, xs = [.ref p] ∧ (SqL K H p ys ∨ SqT K H p ys) ∧ ∀ l, H l = none → Q (.ref l) (upd H l (.lst ys))
theorem call_listA : CallR X (.type "list") (rListA X.K) := call_list_of
def rTupleA (K : PySem.W.Frag) : List V → Hp → VK → Prop := fun xs H Q => ∃ p ys, xs = [.ref p] ∧ ((SqL K H p ys ∧ ∀ l, H l = none → Q (.ref l) (upd H l (.tup ys))) ∨ (SqT K H p ys ∧ Q (.ref p) H))
theorem call_tupleA : CallR X (.type "tuple") (rTupleA X.K) := call_tuple_of
def rStrI : List V → Hp → VK → Prop := fun xs H Q => ∃ i, xs = [.int i] ∧ i.natAbs.log2 < 1920 ∧ Q (.str (toString i)) H
theorem call_strI : CallR X (.type "str") rStrI := call_str_int
/-! ### texts -/
def rSplitA : V → List V → Hp → VK → Prop := fun x xs H Q => ∃ a b, x = V.str a ∧ xs = [V.str b] ∧ (b.length == 0) = false ∧ a.length + 2 ≤ sizeLine ∧ rNewStrs (Txt.split a b) H Q
theorem pe_splitA {o e : Expr} {to te : TE} {apos pos : Pos} (ho : PE X o to) (he : PE X e te) (h1 : starEach [e] X.env = [(false, eval e X.env)] := by rfl) (h2 : attributeBase o "split" X.env (eval o X.env) = eval o X.env := by rfl)
    (h3 : (apos.endLine == pos.line) = true := by rfl) : PE X (.Call (.Attribute o "split" apos) [e] [] pos) (tM1 rSplitA to te) := pe_split ho he h1 h2 h3
def rJoinA (K : PySem.W.Frag) : V → List V → Hp → VK → Prop := fun x xs H Q => ∃ a p ys, x = V.str a ∧ xs = [V.ref p] ∧ (SqL K H p (ys.map V.str) ∨ SqT K H p (ys.map V.str)) ∧ (ys.map (·.length)).sum + ys.length * a.length ≤ 16777216 ∧ Q (V.str (Txt.join a ys)) H
theorem pe_joinA {o e : Expr} {to te : TE} {apos pos : Pos} (ho : PE X o to) (he : PE X e te) (h1 : starEach [e] X.env = [(false, eval e X.env)] := by rfl) (h2 : attributeBase o "join" X.env (eval o X.env) = eval o X.env := by rfl)
    (h3 : (apos.endLine == pos.line) = true := by rfl) : PE X (.Call (.Attribute o "join" apos) [e] [] pos) (tM1 (rJoinA X.K) to te) := pe_join ho he h1 h2 h3
def rSlAny (K : PySem.W.Frag) : V → Option Int → Option Int → Hp → VK → Prop := fun x lo hi H Q => rSlL K x lo hi H Q ∨ rSlA K x lo hi H Q ∨ rSlS x lo hi H Q
theorem sl_Any : SlR X (rSlAny X.K) := sl_list.or (sl_tupA.or sl_str)
/-! ### raising -/
def tRaiseE (E : XK) (cls : Value) : TS := fun _ _ H => E cls none H
end
theorem passL0 {X : Cx} {σ : St} : PassesAt (L2.CX X.prog X.w) X σ E0 := fun pins H s e s' I c => passL pins σ H s e s' I c
/-! ### facts by Bools, the end -/
def excM (x : Str) (K : PySem.W.Frag) : Bool := PySem.W.excIn K (He.ga K x) He.veBase "ValueError.__new__" && (PySem.W.keepIn K (.ref (He.ga K x)) && (decide (PySem.W.subIn K (.ref (He.ga K x)) (.type "BaseException") = some true) && decide (PySem.W.typeIn K (.ref (He.ga K x)) = some (.type "type"))))
theorem excM_ok {x : Str} {K : PySem.W.Frag} (h : excM x K = true) : PySem.W.excIn K (He.ga K x) He.veBase "ValueError.__new__" = true ∧ PySem.W.keepIn K (.ref (He.ga K x)) = true ∧ PySem.W.subIn K (.ref (He.ga K x)) (.type "BaseException") = some true ∧ PySem.W.typeIn K (.ref (He.ga K x)) = some (.type "type") := by
  obtain ⟨h1, h⟩ := He.ba h
  obtain ⟨h2, h⟩ := He.ba h
  obtain ⟨h3, h4⟩ := He.ba h
  exact ⟨h1, h2, of_decide_eq_true h3, of_decide_eq_true h4⟩
def orIntB (x : Str) (K : PySem.W.Frag) : Bool := (PySem.W.findIn K (.type "int") "__or__").isSome && ((PySem.W.findIn K (.type "int") "__ror__").isSome && (decide (PySem.W.subIn K (.type "int") (.ref (He.ga K x)) = some false) &&
  (match PySem.W.findIn K (.ref (He.ga K x)) "__ror__" with
  | some none => true
  | some (some (.ref _)) => true
  | _ => false)))
theorem orIntB_ok {x : Str} {K : PySem.W.Frag} (h : orIntB x K = true) : (∃ fo, PySem.W.findIn K (.type "int") "__or__" = some fo) ∧ (∃ ro, PySem.W.findIn K (.type "int") "__ror__" = some ro) ∧ PySem.W.subIn K (.type "int") (.ref (He.ga K x)) = some false ∧
    (∃ rc, PySem.W.findIn K (.ref (He.ga K x)) "__ror__" = some rc ∧ (rc = none ∨ ∃ g : Addr, rc = some (.ref g))) := by
  obtain ⟨h1, h⟩ := He.ba h
  obtain ⟨h2, h⟩ := He.ba h
  obtain ⟨h3, h4⟩ := He.ba h
  refine ⟨Option.isSome_iff_exists.mp h1, Option.isSome_iff_exists.mp h2, of_decide_eq_true h3, ?_⟩
  split at h4
  · rename_i q; exact ⟨none, q, .inl rfl⟩
  · rename_i g q; exact ⟨some (.ref g), q, .inr ⟨g, rfl⟩⟩
  · cases h4
theorem op_ownI2 {X : Cx} {k : Nat} {f C : Addr} {fd : FuncData} {ps : List Str} {sp : Sp} (hf : (∃ fo, PySem.W.findIn X.K (.type "int") "__or__" = some fo) ∧ (∃ ro, PySem.W.findIn X.K (.type "int") "__ror__" = some ro) ∧ PySem.W.subIn X.K (.type "int") (.ref C) = some false ∧
    (∃ rc, PySem.W.findIn X.K (.ref C) "__ror__" = some rc ∧ (rc = none ∨ ∃ g : Addr, rc = some (.ref g))))
    (F : FnOk X.prog X.w X.K X.mg X.base (L2.CX X.prog X.w) k f fd ps sp) (hr : Room k X.A) (hb : Binds X.K fd ps []) (hc : PySem.W.selfFirst X.K C = true) (hs : Spc X.K C "__or__" f) : OpR X (binaryOp .BitOr) (rOwnI C sp) := by
  obtain ⟨⟨fo, h1⟩, ⟨ro, h2⟩, h3, rc, h4, h5⟩ := hf
  exact op_ownI (op := .BitOr) F hr hb hc hs h4 h5 h1 h2 h3
theorem fact_of {l : List (PySem.W.Frag → Bool)} {K : PySem.W.Frag} (h : (l.all fun f => f K) = true) (i : Nat) {f : PySem.W.Frag → Bool} (e : l[i]? = some f := by rfl) : f K = true :=
  List.all_eq_true.mp h f (List.mem_of_getElem? e)
/-- a def from which nothing that is raised comes -/
theorem fn_close {P : Program} {w : World} {K : PySem.W.Frag} {mg : Str → Option Value} {base : Heap} {k : Nat} {f : Addr} {fd : FuncData} {ps : List Str} {sp : Sp} (F : FnOk P w K mg base (L2.CX P w) k f fd ps sp) :
    FnOk P w K mg base CX0 k f fd ps (fun vs H Q _ => sp vs H Q E0) := by
  refine ⟨fun vs H Q _ h => F.len vs H Q E0 h, fun A outer s H args us vs Q E hr he hb hv h => codeAny_mono (F.run A outer s H args us vs Q E0 hr he hb hv h) fun r s' hq => ?_⟩
  rcases r with e | fl
  · obtain ⟨_, _, _, _, _, _, _, _, _, _, _, _, z⟩ := (show L2.CX P w outer H s E0 e s' from hq)
    exact z.elim
  · cases fl <;> exact hq
end L2.MP

set_option Elab.async false
set_option linter.all false
set_option maxRecDepth 100000
set_option maxHeartbeats 4000000
/-! Reading step by step: one lemma a combinator, and the tactic that takes them. -/
namespace L2.MP
open PySem PySem.Spec PyProof.Rows
/-- all that is tracked stays -/
def Ex (H H' : Hp) : Prop := ∀ a o, H a = some o → H' a = some o
theorem Ex.refl (H : Hp) : Ex H H := fun _ _ h => h
theorem Ex.trans {H H1 H2 : Hp} (a : Ex H H1) (b : Ex H1 H2) : Ex H H2 := fun x o h => b x o (a x o h)
theorem Ex.new {H : Hp} {p : Addr} {o : HO} (h : H p = none) : Ex H (upd H p o) := fun a u e => by rw [upd_ne (ne_of_none e h)]; exact e
theorem Ex.new' {H H' : Hp} {p : Addr} {o : HO} (e : Ex H H') (h : H p = none) : Ex H (upd H' p o) := fun a u ha => by rw [upd_ne (ne_of_none ha h)]; exact e a u ha
theorem Ex.at {H H' : Hp} {a : Addr} {o : HO} (e : Ex H H') (h : H a = some o) : H' a = some o := e a o h
theorem Ex.none {H H' : Hp} {a : Addr} (e : Ex H H') (h : H' a = none) : H a = none := by
  cases q : H a with
  | none => rfl
  | some o => rw [e a o q] at h; cases h
theorem Ex.sqL {K : PySem.W.Frag} {H H' : Hp} {a : Addr} {xs : List V} (e : Ex H H') (h : SqL K H a xs) : SqL K H' a xs := Same.seq e h
theorem Ex.sqT {K : PySem.W.Frag} {H H' : Hp} {a : Addr} {xs : List V} (e : Ex H H') (h : SqT K H a xs) : SqT K H' a xs := by
  rcases h with (h | ⟨o, h⟩) | h
  · exact .inl (.inl (e _ _ h))
  · exact .inl (.inr ⟨o, e _ _ h⟩)
  · exact .inr h
theorem up_new {H : Hp} {p a : Addr} {o u : HO} (hp : H p = none) (h : H a = some u) : upd H p o a = some u := (Ex.new hp).at h
theorem up_ne {H : Hp} {p a : Addr} {o u : HO} (hn : a ≠ p) (h : H a = some u) : upd H p o a = some u := by rw [upd_ne hn]; exact h
theorem up_none {H : Hp} {p a : Addr} {o : HO} (h : upd H p o a = none) : H a = none := by
  by_cases e : a = p
  · subst e; rw [upd_same] at h; cases h
  · rw [upd_ne e] at h; exact h
theorem sqL_of {K : PySem.W.Frag} {H : Hp} {a : Addr} {xs : List V} (h : H a = some (.lst xs)) : SqL K H a xs := .inl (.inl h)
theorem sqT_of {K : PySem.W.Frag} {H : Hp} {a : Addr} {xs : List V} (h : H a = some (.tup xs)) : SqT K H a xs := .inl (.inl h)
theorem sqL_ne {K : PySem.W.Frag} {H : Hp} {p a : Addr} {o : HO} {xs : List V} (hn : a ≠ p) (h : SqL K H a xs) : SqL K (upd H p o) a xs := by
  rcases h with (h | ⟨u, h⟩) | h
  · exact .inl (.inl (up_ne hn h))
  · exact .inl (.inr ⟨u, up_ne hn h⟩)
  · exact .inr h
theorem sqT_ne {K : PySem.W.Frag} {H : Hp} {p a : Addr} {o : HO} {xs : List V} (hn : a ≠ p) (h : SqT K H a xs) : SqT K (upd H p o) a xs := by
  rcases h with (h | ⟨u, h⟩) | h
  · exact .inl (.inl (up_ne hn h))
  · exact .inl (.inr ⟨u, up_ne hn h⟩)
  · exact .inr h
theorem up_sqL {K : PySem.W.Frag} {H : Hp} {p a : Addr} {o : HO} {xs : List V} (hp : H p = none) (h : SqL K H a xs) : SqL K (upd H p o) a xs := (Ex.new hp).sqL h
theorem up_sqT {K : PySem.W.Frag} {H : Hp} {p a : Addr} {o : HO} {xs : List V} (hp : H p = none) (h : SqT K H a xs) : SqT K (upd H p o) a xs := (Ex.new hp).sqT h
theorem sz_of {n : Nat} (h : n ≤ 100000) : n ≤ sizeLine := Nat.le_trans h (by decide)
theorem szl_of {n : Nat} (h : n < 100000) : n < sizeLine := Nat.lt_of_lt_of_le h (by decide)
/-- the field f of instances of C is read plainly -/
class HasF (K : PySem.W.Frag) (C : Addr) (f : Str) : Prop where
  cls : Cls K C
  na : NoAttr K C f
class Lk (fs : List (Str × V)) (f : Str) (v : outParam V) : Prop where
  eq : fs.lookup f = some v
class LkN (fs : List (Str × V)) (f : Str) : Prop where
  eq : fs.lookup f = none
class Pf (f : Str) (v : V) (fs : List (Str × V)) (gs : outParam (List (Str × V))) : Prop where
  eq : putF f v fs = gs
  sm : fs.length < 1000

/-- the names of a turn, written out -/
class StC (ns : List Str) (vs : List V) (σ : outParam St) : Prop where
  eq : start ns vs = σ
class SetC (σ : St) (i : Nat) (o : Option V) (σ' : outParam St) : Prop where
  eq : σ.set i o = σ'
class GetC (σ : St) (i : Nat) (v : outParam V) : Prop where
  eq : σ[i]? = some (some v)
instance : StC [] [] [] := ⟨rfl⟩
instance {n : Str} {ns : List Str} {σ : St} [c : StC ns [] σ] : StC (n :: ns) [] (none :: σ) := ⟨by rw [← c.eq]; simp [start, List.replicate_succ]⟩
instance {n : Str} {ns : List Str} {v : V} {vs : List V} {σ : St} [c : StC ns vs σ] : StC (n :: ns) (v :: vs) (some v :: σ) := ⟨by rw [← c.eq]; simp [start]⟩
instance {a o : Option V} {l : St} : SetC (a :: l) 0 o (o :: l) := ⟨rfl⟩
instance {a o : Option V} {l l' : St} {i : Nat} [c : SetC l i o l'] : SetC (a :: l) (i + 1) o (a :: l') := ⟨by rw [← c.eq]; rfl⟩
instance {v : V} {l : St} : GetC (some v :: l) 0 v := ⟨rfl⟩
instance {v : V} {a : Option V} {l : St} {i : Nat} [c : GetC l i v] : GetC (a :: l) (i + 1) v := ⟨by rw [← c.eq]; rfl⟩
section
variable {K : PySem.W.Frag} {σ : St} {H : Hp} {Q : VK} {te ta tb : TE} {tr : TA} {v x y : V} {i : Nat} {n b c : St → Hp → Prop} {r : VK} {t u : TS} {tt tu : TT} {BQ : Bool → Hp → Prop} {AQ : List V → Hp → Prop} {vs : List V}
/-! statements -/
theorem k_seq (h : t ⟨u ⟨n, r, b, c⟩, r, b, c⟩ σ H) : tSeq t u ⟨n, r, b, c⟩ σ H := h
instance w_k_seq  : W (tSeq t u ⟨n, r, b, c⟩ σ H) (t ⟨u ⟨n, r, b, c⟩, r, b, c⟩ σ H) := ⟨fun z => k_seq z⟩
theorem k_next (h : n σ H) : tNext ⟨n, r, b, c⟩ σ H := h
instance w_k_next  : W (tNext ⟨n, r, b, c⟩ σ H) (n σ H) := ⟨fun z => k_next z⟩
theorem k_brk (h : b σ H) : tBreak ⟨n, r, b, c⟩ σ H := h
instance w_k_brk  : W (tBreak ⟨n, r, b, c⟩ σ H) (b σ H) := ⟨fun z => k_brk z⟩
theorem k_cont (h : c σ H) : tCont ⟨n, r, b, c⟩ σ H := h
instance w_k_cont  : W (tCont ⟨n, r, b, c⟩ σ H) (c σ H) := ⟨fun z => k_cont z⟩
theorem k_drop (h : te σ H fun _ H1 => n σ H1) : tDrop te ⟨n, r, b, c⟩ σ H := h
instance w_k_drop  : W (tDrop te ⟨n, r, b, c⟩ σ H) (te σ H fun _ H1 => n σ H1) := ⟨fun z => k_drop z⟩
theorem k_ret (h : te σ H r) : tRet te ⟨n, r, b, c⟩ σ H := h
instance w_k_ret  : W (tRet te ⟨n, r, b, c⟩ σ H) (te σ H r) := ⟨fun z => k_ret z⟩
theorem k_retN (h : r .non H) : tRetN ⟨n, r, b, c⟩ σ H := h
instance w_k_retN  : W (tRetN ⟨n, r, b, c⟩ σ H) (r .non H) := ⟨fun z => k_retN z⟩
theorem k_if (h : tt σ H fun k H1 => if k = true then t ⟨n, r, b, c⟩ σ H1 else u ⟨n, r, b, c⟩ σ H1) : tIfS tt t u ⟨n, r, b, c⟩ σ H := h
instance w_k_if  : W (tIfS tt t u ⟨n, r, b, c⟩ σ H) (tt σ H fun k H1 => if k = true then t ⟨n, r, b, c⟩ σ H1 else u ⟨n, r, b, c⟩ σ H1) := ⟨fun z => k_if z⟩
def Asg (i : Nat) (σ : St) (n : St → Hp → Prop) : VK := fun z H1 => n (σ.set i (some z)) H1
theorem k_asg (h : te σ H (Asg i σ n)) : tAsg te (gName i) ⟨n, r, b, c⟩ σ H := h
instance w_k_asg  : W (tAsg te (gName i) ⟨n, r, b, c⟩ σ H) (te σ H (Asg i σ n)) := ⟨fun z => k_asg z⟩
theorem k_asgS {σ' : St} [c : SetC σ i (some x) σ'] (q : n σ' H) : Asg i σ n x H := by show n _ H; rw [c.eq]; exact q
instance w_k_asgS {σ' : St} [c : SetC σ i (some x) σ'] : W (Asg i σ n x H) (n σ' H) := ⟨fun z => k_asgS z⟩
theorem k_aug {ti : TIp} [g : GetC σ i x] (h : te σ H fun y H1 => ti x y H1 (Asg i σ n)) : tAug i te ti ⟨n, r, b, c⟩ σ H := ⟨x, g.eq, h⟩
instance w_k_aug {ti : TIp} [g : GetC σ i x] : W (tAug i te ti ⟨n, r, b, c⟩ σ H) (te σ H fun y H1 => ti x y H1 (Asg i σ n)) := ⟨fun z => k_aug z⟩
theorem o_addIp {p q' : Int} (q : Q (.int (p + q')) H) : rAddI (.int p) (.int q') H Q := ⟨p, q', rfl, rfl, q⟩
instance w_o_addIp {p q' : Int} : W (rAddI (.int p) (.int q') H Q) (Q (.int (p + q')) H) := ⟨fun z => o_addIp z⟩
theorem k_start {T : TS} {D : Ends} {ns : List Str} {vs : List V} {σ' : St} [c : StC ns vs σ'] (q : T D σ' H) : T D (start ns vs) H := by rw [c.eq]; exact q
theorem k_raise {E : XK} {cls : Value} (h : E cls none H) : tRaiseE E cls ⟨n, r, b, c⟩ σ H := h
instance w_k_raise {E : XK} {cls : Value} : W (tRaiseE E cls ⟨n, r, b, c⟩ σ H) (E cls none H) := ⟨fun z => k_raise z⟩
def RPut (K : PySem.W.Frag) (f : Str) (x y : V) (H : Hp) (k : Hp → Prop) : Prop := ∃ a C dx fs, x = .ref a ∧ H a = some (.ins C dx fs) ∧ Cls K C ∧ NoAttr K C f ∧ fs.length < 1000 ∧ k (upd H a (.ins C dx (putF f y fs)))
theorem k_fldp {f : Str} {tv : TE} (h : tv σ H fun y H1 => ta σ H1 fun x H2 => RPut K f x y H2 (fun H3 => n σ H3)) : sFld K ta tv f ⟨n, r, b, c⟩ σ H := h
instance w_k_fldp {f : Str} {tv : TE} : W (sFld K ta tv f ⟨n, r, b, c⟩ σ H) (tv σ H fun y H1 => ta σ H1 fun x H2 => RPut K f x y H2 (fun H3 => n σ H3)) := ⟨fun z => k_fldp z⟩
theorem k_rput {f : Str} {a C dx : Addr} {fs gs : List (Str × V)} {k : Hp → Prop} (h : H a = some (.ins C dx fs)) (i : HasF K C f) (j : Pf f y fs gs) (q : k (upd H a (.ins C dx gs))) : RPut K f (.ref a) y H k :=
  ⟨a, C, dx, fs, rfl, h, i.cls, i.na, j.sm, by rw [j.eq]; exact q⟩
/-! tests -/
def Bq (BQ : Bool → Hp → Prop) (x : V) (H : Hp) : Prop := ∃ k, x = .bl k ∧ BQ k H
theorem k_test (h : te σ H (Bq BQ)) : tTest te σ H BQ := h
instance w_k_test  : W (tTest te σ H BQ) (te σ H (Bq BQ)) := ⟨fun z => k_test z⟩
theorem k_tB (h : te σ H (Bq BQ)) : tB te σ H BQ := h
instance w_k_tB  : W (tB te σ H BQ) (te σ H (Bq BQ)) := ⟨fun z => k_tB z⟩
theorem k_bl {k : Bool} (h : BQ k H) : Bq BQ (.bl k) H := ⟨k, rfl, h⟩
instance w_k_bl {k : Bool} : W (Bq BQ (.bl k) H) (BQ k H) := ⟨fun z => k_bl z⟩
def RAndT (tu : TT) (σ : St) (BQ : Bool → Hp → Prop) (k : Bool) (H : Hp) : Prop := if k = true then tu σ H BQ else BQ false H
def ROrT (tu : TT) (σ : St) (BQ : Bool → Hp → Prop) (k : Bool) (H : Hp) : Prop := if k = true then BQ true H else tu σ H BQ
theorem k_and (h : tt σ H (RAndT tu σ BQ)) : tAnd tt tu σ H BQ := h
instance w_k_and  : W (tAnd tt tu σ H BQ) (tt σ H (RAndT tu σ BQ)) := ⟨fun z => k_and z⟩
theorem k_or (h : tt σ H (ROrT tu σ BQ)) : tOr tt tu σ H BQ := h
instance w_k_or  : W (tOr tt tu σ H BQ) (tt σ H (ROrT tu σ BQ)) := ⟨fun z => k_or z⟩
theorem k_not (h : tt σ H fun k H1 => BQ (!k) H1) : tNot tt σ H BQ := h
instance w_k_not  : W (tNot tt σ H BQ) (tt σ H fun k H1 => BQ (!k) H1) := ⟨fun z => k_not z⟩
theorem k_itT {A B : Prop} (h : A) : if true = true then A else B := by rw [if_pos rfl]; exact h
instance w_k_itT {A B : Prop} : W (if true = true then A else B) (A) := ⟨fun z => k_itT z⟩
theorem k_itF {A B : Prop} (h : B) : if false = true then A else B := by rw [if_neg Bool.false_ne_true]; exact h
instance w_k_itF {A B : Prop} : W (if false = true then A else B) (B) := ⟨fun z => k_itF z⟩
theorem k_itdT {p A B : Prop} [Decidable p] (hp : p) (h : A) : if decide p = true then A else B := by rw [decide_eq_true hp]; exact k_itT h
theorem k_itdF {p A B : Prop} [Decidable p] (hp : ¬ p) (h : B) : if decide p = true then A else B := by rw [decide_eq_false hp]; exact k_itF h
theorem k_itnT {p A B : Prop} [Decidable p] (hp : ¬ p) (h : A) : if (!decide p) = true then A else B := by rw [decide_eq_false hp]; exact k_itT h
theorem k_itnF {p A B : Prop} [Decidable p] (hp : p) (h : B) : if (!decide p) = true then A else B := by rw [decide_eq_true hp]; exact k_itF h
theorem k_itd {p A B : Prop} [Decidable p] (h1 : p → A) (h2 : ¬ p → B) : if decide p = true then A else B := by
  by_cases h : p
  · exact k_itdT h (h1 h)
  · exact k_itdF h (h2 h)
theorem k_inot {k : Bool} {A B : Prop} (h : if k = true then B else A) : if (!k) = true then A else B := by
  cases k
  · exact k_itT (by rw [if_neg Bool.false_ne_true] at h; exact h)
  · exact k_itF (by rw [if_pos rfl] at h; exact h)
instance w_k_inot {k : Bool} {A B : Prop} : W (if (!k) = true then A else B) (if k = true then B else A) := ⟨fun z => k_inot z⟩
theorem k_itb {k : Bool} {A B : Prop} (h1 : k = true → A) (h2 : k = false → B) : if k = true then A else B := by
  cases k
  · exact k_itF (h2 rfl)
  · exact k_itT (h1 rfl)
theorem k_randtP {e z : Bool} (h2 : ∀ Q' : Bool → Hp → Prop, Q' z H → tu σ H Q') (q : BQ (e && z) H) : RAndT tu σ BQ e H := by cases e; exact k_itF q; exact k_itT (h2 _ q)
theorem k_rortP {e z : Bool} (h2 : ∀ Q' : Bool → Hp → Prop, Q' z H → tu σ H Q') (q : BQ (e || z) H) : ROrT tu σ BQ e H := by cases e; exact k_itF (h2 _ q); exact k_itT q
theorem k_randtS {e : Bool} (h : if e = true then tu σ H BQ else BQ false H) : RAndT tu σ BQ e H := h
theorem k_rortS {e : Bool} (h : if e = true then BQ true H else tu σ H BQ) : ROrT tu σ BQ e H := h
/-! expressions -/
theorem k_var [h : GetC σ i v] (q : Q v H) : tVar i σ H Q := ⟨v, h.eq, q⟩
instance w_k_var [h : GetC σ i v] : W (tVar i σ H Q) (Q v H) := ⟨fun z => k_var z⟩
theorem k_c (q : Q v H) : tC v σ H Q := q
instance w_k_c  : W (tC v σ H Q) (Q v H) := ⟨fun z => k_c z⟩
theorem k_op {ro : R2} (h : ta σ H fun x H1 => tb σ H1 fun y H2 => ro x y H2 Q) : tOp ro ta tb σ H Q := h
instance w_k_op {ro : R2} : W (tOp ro ta tb σ H Q) (ta σ H fun x H1 => tb σ H1 fun y H2 => ro x y H2 Q) := ⟨fun z => k_op z⟩
theorem k_un {ro : V → Hp → VK → Prop} (h : ta σ H fun x H1 => ro x H1 Q) : tUn ro ta σ H Q := h
instance w_k_un {ro : V → Hp → VK → Prop} : W (tUn ro ta σ H Q) (ta σ H fun x H1 => ro x H1 Q) := ⟨fun z => k_un z⟩
theorem k_nil (q : AQ [] H) : tNil σ H AQ := q
instance w_k_nil  : W (tNil σ H AQ) (AQ [] H) := ⟨fun z => k_nil z⟩
theorem k_cons (h : ta σ H fun x H1 => tr σ H1 fun xs H2 => AQ (x :: xs) H2) : tCons ta tr σ H AQ := h
instance w_k_cons  : W (tCons ta tr σ H AQ) (ta σ H fun x H1 => tr σ H1 fun xs H2 => AQ (x :: xs) H2) := ⟨fun z => k_cons z⟩
theorem k_cb {ro : List V → Hp → VK → Prop} (h : tr σ H fun xs H1 => ro xs H1 Q) : tCB ro tr σ H Q := h
instance w_k_cb {ro : List V → Hp → VK → Prop} : W (tCB ro tr σ H Q) (tr σ H fun xs H1 => ro xs H1 Q) := ⟨fun z => k_cb z⟩
def RIfE (ta tb : TE) (σ : St) (Q : VK) (k : Bool) (H : Hp) : Prop := if k = true then ta σ H Q else tb σ H Q
theorem k_randtT (h : tu σ H BQ) : RAndT tu σ BQ true H := k_itT h
instance w_k_randtT  : W (RAndT tu σ BQ true H) (tu σ H BQ) := ⟨fun z => k_randtT z⟩
theorem k_randtF (h : BQ false H) : RAndT tu σ BQ false H := k_itF h
instance w_k_randtF  : W (RAndT tu σ BQ false H) (BQ false H) := ⟨fun z => k_randtF z⟩
theorem k_rortT (h : BQ true H) : ROrT tu σ BQ true H := k_itT h
instance w_k_rortT  : W (ROrT tu σ BQ true H) (BQ true H) := ⟨fun z => k_rortT z⟩
theorem k_rortF (h : tu σ H BQ) : ROrT tu σ BQ false H := k_itF h
instance w_k_rortF  : W (ROrT tu σ BQ false H) (tu σ H BQ) := ⟨fun z => k_rortF z⟩
theorem k_ifT {A B : Prop} {e : Bool} (h : e = true) (q : A) : if e = true then A else B := by rw [if_pos h]; exact q
theorem k_ifF {A B : Prop} {e : Bool} (h : e = false) (q : B) : if e = true then A else B := by rw [h]; exact k_itF q
theorem k_ifE (h : tt σ H (RIfE ta tb σ Q)) : tIf tt ta tb σ H Q := h
instance w_k_ifE  : W (tIf tt ta tb σ H Q) (tt σ H (RIfE ta tb σ Q)) := ⟨fun z => k_ifE z⟩
theorem k_rifI {e : Bool} {p p' : Int} (h1 : ∀ Q' : VK, Q' (.int p) H → ta σ H Q') (h2 : ∀ Q' : VK, Q' (.int p') H → tb σ H Q') (q : Q (.int (if e = true then p else p')) H) : RIfE ta tb σ Q e H := by cases e; exact k_itF (h2 _ q); exact k_itT (h1 _ q)
theorem k_rifS {e : Bool} (h : if e = true then ta σ H Q else tb σ H Q) : RIfE ta tb σ Q e H := h
def RAnd (k f : Hp → Prop) (x : V) (H : Hp) : Prop := ∃ c, x = .bl c ∧ if c = true then k H else f H
theorem k_rand {k f : Hp → Prop} {e : Bool} (h : if e = true then k H else f H) : RAnd k f (.bl e) H := ⟨e, rfl, h⟩
instance w_k_rand {k f : Hp → Prop} {e : Bool} : W (RAnd k f (.bl e) H) (if e = true then k H else f H) := ⟨fun z => k_rand z⟩
def RAndV (tb : TE) (σ : St) (Q : VK) (x : V) (H : Hp) : Prop := ∃ c, x = .bl c ∧ if c = true then tb σ H Q else Q (.bl false) H
def ROrV (tb : TE) (σ : St) (Q : VK) (x : V) (H : Hp) : Prop := ∃ c, x = .bl c ∧ if c = true then Q (.bl true) H else tb σ H Q
theorem k_andV (h : ta σ H (RAndV tb σ Q)) : tAndV ta tb σ H Q := h
instance w_k_andV  : W (tAndV ta tb σ H Q) (ta σ H (RAndV tb σ Q)) := ⟨fun z => k_andV z⟩
theorem k_orV (h : ta σ H (ROrV tb σ Q)) : tOrV ta tb σ H Q := h
instance w_k_orV  : W (tOrV ta tb σ H Q) (ta σ H (ROrV tb σ Q)) := ⟨fun z => k_orV z⟩
theorem k_randP {e z : Bool} (h2 : ∀ Q' : VK, Q' (.bl z) H → tb σ H Q') (q : Q (.bl (e && z)) H) : RAndV tb σ Q (.bl e) H := ⟨e, rfl, by cases e; exact k_itF q; exact k_itT (h2 _ q)⟩
theorem k_rorP {e z : Bool} (h2 : ∀ Q' : VK, Q' (.bl z) H → tb σ H Q') (q : Q (.bl (e || z)) H) : ROrV tb σ Q (.bl e) H := ⟨e, rfl, by cases e; exact k_itF (h2 _ q); exact k_itT q⟩
theorem k_randS {e : Bool} (h : if e = true then tb σ H Q else Q (.bl false) H) : RAndV tb σ Q (.bl e) H := ⟨e, rfl, h⟩
theorem k_rorS {e : Bool} (h : if e = true then Q (.bl true) H else tb σ H Q) : ROrV tb σ Q (.bl e) H := ⟨e, rfl, h⟩
theorem k_randT (h : tb σ H Q) : RAndV tb σ Q (.bl true) H := k_randS (k_itT h)
instance w_k_randT  : W (RAndV tb σ Q (.bl true) H) (tb σ H Q) := ⟨fun z => k_randT z⟩
theorem k_randF (h : Q (.bl false) H) : RAndV tb σ Q (.bl false) H := k_randS (k_itF h)
instance w_k_randF  : W (RAndV tb σ Q (.bl false) H) (Q (.bl false) H) := ⟨fun z => k_randF z⟩
theorem k_rorT (h : Q (.bl true) H) : ROrV tb σ Q (.bl true) H := k_rorS (k_itT h)
instance w_k_rorT  : W (ROrV tb σ Q (.bl true) H) (Q (.bl true) H) := ⟨fun z => k_rorT z⟩
theorem k_rorF (h : tb σ H Q) : ROrV tb σ Q (.bl false) H := k_rorS (k_itF h)
instance w_k_rorF  : W (ROrV tb σ Q (.bl false) H) (tb σ H Q) := ⟨fun z => k_rorF z⟩
def RNot (Q : VK) (x : V) (H : Hp) : Prop := ∃ c, x = .bl c ∧ Q (.bl (!c)) H
theorem k_notV (h : ta σ H (RNot Q)) : tNotV ta σ H Q := h
instance w_k_notV  : W (tNotV ta σ H Q) (ta σ H (RNot Q)) := ⟨fun z => k_notV z⟩
theorem k_rnot {e : Bool} (h : Q (.bl (!e)) H) : RNot Q (.bl e) H := ⟨e, rfl, h⟩
instance w_k_rnot {e : Bool} : W (RNot Q (.bl e) H) (Q (.bl (!e)) H) := ⟨fun z => k_rnot z⟩
def NewT (xs : List V) (H : Hp) (Q : VK) : Prop := xs.length ≤ sizeLine ∧ ∀ p, H p = none → Q (.ref p) (upd H p (.tup xs))
def NewL (xs : List V) (H : Hp) (Q : VK) : Prop := xs.length ≤ sizeLine ∧ ∀ p, H p = none → Q (.ref p) (upd H p (.lst xs))
theorem k_tup (h : tr σ H fun xs H1 => NewT xs H1 Q) : tTup tr σ H Q := h
instance w_k_tup  : W (tTup tr σ H Q) (tr σ H fun xs H1 => NewT xs H1 Q) := ⟨fun z => k_tup z⟩
theorem k_lst (h : tr σ H fun xs H1 => NewL xs H1 Q) : tLst tr σ H Q := h
instance w_k_lst  : W (tLst tr σ H Q) (tr σ H fun xs H1 => NewL xs H1 Q) := ⟨fun z => k_lst z⟩
theorem k_newT (h : vs.length ≤ 100000) (q : ∀ p, H p = none → Q (.ref p) (upd H p (.tup vs))) : NewT vs H Q := ⟨sz_of h, q⟩
theorem k_newL (h : vs.length ≤ 100000) (q : ∀ p, H p = none → Q (.ref p) (upd H p (.lst vs))) : NewL vs H Q := ⟨sz_of h, q⟩
def RFld (K : PySem.W.Frag) (f : Str) (x : V) (H : Hp) (Q : VK) : Prop := ∃ a C dx fs v, x = .ref a ∧ H a = some (.ins C dx fs) ∧ Cls K C ∧ NoAttr K C f ∧ fs.lookup f = some v ∧ Q v H
theorem k_fld {f : Str} (h : ta σ H fun x H1 => RFld K f x H1 Q) : tFld K ta f σ H Q := h
instance w_k_fld {f : Str} : W (tFld K ta f σ H Q) (ta σ H fun x H1 => RFld K f x H1 Q) := ⟨fun z => k_fld z⟩
theorem k_rfld {f : Str} {a C dx : Addr} {fs : List (Str × V)} (h : H a = some (.ins C dx fs)) (i : HasF K C f) (j : Lk fs f v) (q : Q v H) : RFld K f (.ref a) H Q := ⟨a, C, dx, fs, v, rfl, h, i.cls, i.na, j.eq, q⟩
theorem k_call {sp : Sp} {dvs : List V} {E : St → XK} (h : tr σ H fun vs H1 => sp (vs ++ dvs) H1 Q (E σ)) : tCallSD sp dvs E tr σ H Q := h
instance w_k_call {sp : Sp} {dvs : List V} {E : St → XK} : W (tCallSD sp dvs E tr σ H Q) (tr σ H fun vs H1 => sp (vs ++ dvs) H1 Q (E σ)) := ⟨fun z => k_call z⟩
def RMk (C : Addr) (sp : Sp) (vs : List V) (E : XK) (H : Hp) (Q : VK) : Prop := ∀ x dx, H x = none → H dx = none → dx ≠ x → sp (.ref x :: vs) (upd (upd H dx (.own x)) x (.ins C dx [])) (fun v H2 => v = .non ∧ Q (.ref x) H2) E
theorem k_make {C : Addr} {sp : Sp} {dvs : List V} {E : St → XK} (h : tr σ H fun vs H1 => RMk C sp (vs ++ dvs) (E σ) H1 Q) : tMakeS C sp dvs E tr σ H Q := h
instance w_k_make {C : Addr} {sp : Sp} {dvs : List V} {E : St → XK} : W (tMakeS C sp dvs E tr σ H Q) (tr σ H fun vs H1 => RMk C sp (vs ++ dvs) (E σ) H1 Q) := ⟨fun z => k_make z⟩
def RProp (C : Addr) (sp : Sp) (dvs : List V) (E : XK) (x : V) (H : Hp) (Q : VK) : Prop := ∃ a dx fs, x = .ref a ∧ H a = some (.ins C dx fs) ∧ sp (.ref a :: dvs) H Q E
theorem k_prop {C : Addr} {sp : Sp} {dvs : List V} {E : XK} (h : ta σ H fun x H1 => RProp C sp dvs E x H1 Q) : tProp C sp dvs E ta σ H Q := h
instance w_k_prop {C : Addr} {sp : Sp} {dvs : List V} {E : XK} : W (tProp C sp dvs E ta σ H Q) (ta σ H fun x H1 => RProp C sp dvs E x H1 Q) := ⟨fun z => k_prop z⟩
theorem k_rprop {C a dx : Addr} {sp : Sp} {dvs : List V} {E : XK} {fs : List (Str × V)} (h : H a = some (.ins C dx fs)) (q : sp (.ref a :: dvs) H Q E) : RProp C sp dvs E (.ref a) H Q := ⟨a, dx, fs, rfl, h, q⟩
def RMeth (C : Addr) (m : Str) (x : V) (H : Hp) (k : Prop) : Prop := ∃ a dx fs, x = .ref a ∧ H a = some (.ins C dx fs) ∧ fs.lookup m = none ∧ k
theorem k_meth {C : Addr} {m : Str} {sp : Sp} {dvs : List V} {E : St → XK} (h : ta σ H fun x H1 => RMeth C m x H1 (tr σ H1 fun vs H2 => sp (x :: (vs ++ dvs)) H2 Q (E σ))) : tMethS C m sp dvs E ta tr σ H Q := h
instance w_k_meth {C : Addr} {m : Str} {sp : Sp} {dvs : List V} {E : St → XK} : W (tMethS C m sp dvs E ta tr σ H Q) (ta σ H fun x H1 => RMeth C m x H1 (tr σ H1 fun vs H2 => sp (x :: (vs ++ dvs)) H2 Q (E σ))) := ⟨fun z => k_meth z⟩
theorem k_rmeth {C a dx : Addr} {m : Str} {fs : List (Str × V)} {k : Prop} (h : H a = some (.ins C dx fs)) (j : LkN fs m) (q : k) : RMeth C m (.ref a) H k := ⟨a, dx, fs, rfl, h, j.eq, q⟩
theorem k_own {C a dx e dy : Addr} {sp : Sp} {fs gs : List (Str × V)} (h1 : H a = some (.ins C dx fs)) (h2 : H e = some (.ins C dy gs)) (q : sp [.ref a, .ref e] H Q E0) : rOwn C sp (.ref a) (.ref e) H Q := ⟨a, dx, fs, e, dy, gs, rfl, rfl, h1, h2, q⟩
theorem k_ownI {C a dx : Addr} {m : Int} {sp : Sp} {fs : List (Str × V)} (h1 : H a = some (.ins C dx fs)) (q : sp [.ref a, .int m] H Q E0) : rOwnI C sp (.ref a) (.int m) H Q := ⟨a, dx, fs, m, rfl, rfl, h1, q⟩
theorem k_ownA {C a dx : Addr} {sp : Sp} {fs : List (Str × V)} (h1 : H a = some (.ins C dx fs)) (q : sp [.ref a, y] H Q E0) : rOwnA C sp (.ref a) y H Q := ⟨a, dx, fs, rfl, h1, q⟩
/-! operators on values -/
variable {p q' : Int} {s z : Str} {k1 k2 : Bool}
theorem o_addI (q : Q (.int (p + q')) H) : rAddA K (.int p) (.int q') H Q := q
instance w_o_addI  : W (rAddA K (.int p) (.int q') H Q) (Q (.int (p + q')) H) := ⟨fun z => o_addI z⟩
theorem o_addS (h : s.length + z.length ≤ 100000) (q : Q (.str (s ++ z)) H) : rAddA K (.str s) (.str z) H Q := ⟨sz_of h, q⟩
theorem o_addL {a e : Addr} {xs ys : List V} (h1 : H a = some (.lst xs)) (h2 : H e = some (.lst ys)) (h : xs.length + ys.length ≤ 100000) (q : ∀ p, H p = none → Q (.ref p) (upd H p (.lst (xs ++ ys)))) : rAddA K (.ref a) (.ref e) H Q :=
  .inl ⟨a, e, xs, ys, rfl, rfl, h1, h2, sz_of h, q⟩
theorem o_subI (q : Q (.int (p - q')) H) : rSubI (.int p) (.int q') H Q := ⟨p, q', rfl, rfl, q⟩
instance w_o_subI  : W (rSubI (.int p) (.int q') H Q) (Q (.int (p - q')) H) := ⟨fun z => o_subI z⟩
theorem o_mulI (h : CMul p q') (q : Q (.int (p * q')) H) : rMulA (.int p) (.int q') H Q := ⟨h, q⟩
theorem o_fdiv (h : CDiv p q') (q : Q (.int (p / q')) H) : rFdivI (.int p) (.int q') H Q := ⟨p, q', rfl, rfl, h, q⟩
theorem o_mod (h : 0 < q') (q : Q (.int (p % q')) H) : rModI (.int p) (.int q') H Q := ⟨p, q', rfl, rfl, h, q⟩
theorem o_lt (q : Q (.bl (decide (p < q'))) H) : rLtI (.int p) (.int q') H Q := ⟨p, q', rfl, rfl, q⟩
instance w_o_lt  : W (rLtI (.int p) (.int q') H Q) (Q (.bl (decide (p < q'))) H) := ⟨fun z => o_lt z⟩
theorem o_le (q : Q (.bl (decide (p ≤ q'))) H) : rLeI (.int p) (.int q') H Q := ⟨p, q', rfl, rfl, q⟩
instance w_o_le  : W (rLeI (.int p) (.int q') H Q) (Q (.bl (decide (p ≤ q'))) H) := ⟨fun z => o_le z⟩
theorem o_gt (q : Q (.bl (decide (q' < p))) H) : rGtI (.int p) (.int q') H Q := ⟨p, q', rfl, rfl, q⟩
instance w_o_gt  : W (rGtI (.int p) (.int q') H Q) (Q (.bl (decide (q' < p))) H) := ⟨fun z => o_gt z⟩
theorem o_ge (q : Q (.bl (decide (q' ≤ p))) H) : rGeI (.int p) (.int q') H Q := ⟨p, q', rfl, rfl, q⟩
instance w_o_ge  : W (rGeI (.int p) (.int q') H Q) (Q (.bl (decide (q' ≤ p))) H) := ⟨fun z => o_ge z⟩
theorem dInt {a b : Int} : decide (V.int a = V.int b) = decide (a = b) := by simp
theorem dBl {a b : Bool} : decide (V.bl a = V.bl b) = decide (a = b) := by simp
theorem dStr {a b : Str} : decide (V.str a = V.str b) = decide (a = b) := by simp
theorem o_eqI (q : Q (.bl (decide (p = q'))) H) : rEqA K (.int p) (.int q') H Q := .inl ⟨rfl, by rw [dInt]; exact q⟩
instance w_o_eqI  : W (rEqA K (.int p) (.int q') H Q) (Q (.bl (decide (p = q'))) H) := ⟨fun z => o_eqI z⟩
theorem o_eqB (q : Q (.bl (decide (k1 = k2))) H) : rEqA K (.bl k1) (.bl k2) H Q := .inl ⟨rfl, by rw [dBl]; exact q⟩
instance w_o_eqB  : W (rEqA K (.bl k1) (.bl k2) H Q) (Q (.bl (decide (k1 = k2))) H) := ⟨fun z => o_eqB z⟩
theorem o_eqS (q : Q (.bl (decide (s = z))) H) : rEqA K (.str s) (.str z) H Q := .inl ⟨rfl, by rw [dStr]; exact q⟩
instance w_o_eqS  : W (rEqA K (.str s) (.str z) H Q) (Q (.bl (decide (s = z))) H) := ⟨fun z => o_eqS z⟩
theorem o_neI (q : Q (.bl (!decide (p = q'))) H) : rNeA K (.int p) (.int q') H Q := .inl ⟨rfl, by rw [dInt]; exact q⟩
instance w_o_neI  : W (rNeA K (.int p) (.int q') H Q) (Q (.bl (!decide (p = q'))) H) := ⟨fun z => o_neI z⟩
theorem o_neB (q : Q (.bl (!decide (k1 = k2))) H) : rNeA K (.bl k1) (.bl k2) H Q := .inl ⟨rfl, by rw [dBl]; exact q⟩
instance w_o_neB  : W (rNeA K (.bl k1) (.bl k2) H Q) (Q (.bl (!decide (k1 = k2))) H) := ⟨fun z => o_neB z⟩
theorem o_neS (q : Q (.bl (!decide (s = z))) H) : rNeA K (.str s) (.str z) H Q := .inl ⟨rfl, by rw [dStr]; exact q⟩
instance w_o_neS  : W (rNeA K (.str s) (.str z) H Q) (Q (.bl (!decide (s = z))) H) := ⟨fun z => o_neS z⟩
theorem o_isN (q : Q (.bl (decide (x = .non))) H) : rIsNone x .non H Q := ⟨rfl, q⟩
instance w_o_isN  : W (rIsNone x .non H Q) (Q (.bl (decide (x = .non))) H) := ⟨fun z => o_isN z⟩
theorem o_notN (q : Q (.bl (!decide (x = .non))) H) : rNotNone x .non H Q := ⟨rfl, q⟩
instance w_o_notN  : W (rNotNone x .non H Q) (Q (.bl (!decide (x = .non))) H) := ⟨fun z => o_notN z⟩
theorem o_max (q : Q (.int (if q' > p then q' else p)) H) : rMax2I [.int p, .int q'] H Q := q
instance w_o_max  : W (rMax2I [.int p, .int q'] H Q) (Q (.int (if q' > p then q' else p)) H) := ⟨fun z => o_max z⟩
theorem o_min (q : Q (.int (if q' < p then q' else p)) H) : rMin2I [.int p, .int q'] H Q := q
instance w_o_min  : W (rMin2I [.int p, .int q'] H Q) (Q (.int (if q' < p then q' else p)) H) := ⟨fun z => o_min z⟩
theorem o_intI (q : Q (.int p) H) : rIntA [.int p] H Q := q
instance w_o_intI  : W (rIntA [.int p] H Q) (Q (.int p) H) := ⟨fun z => o_intI z⟩
theorem o_intB (q : Q (.int (if k1 then 1 else 0)) H) : rIntA [.bl k1] H Q := q
instance w_o_intB  : W (rIntA [.bl k1] H Q) (Q (.int (if k1 then 1 else 0)) H) := ⟨fun z => o_intB z⟩
theorem o_abs (q : Q (.int (if p < 0 then -p else p)) H) : rAbsI [.int p] H Q := q
instance w_o_abs  : W (rAbsI [.int p] H Q) (Q (.int (if p < 0 then -p else p)) H) := ⟨fun z => o_abs z⟩
theorem o_ixL {a : Addr} {xs : List V} (h : SqL K H a xs) (e : atI xs p = some v) (q : Q v H) : rIx K (.ref a) (.int p) H Q := .inl ⟨a, xs, p, v, rfl, rfl, h, e, q⟩
theorem o_ixT {a : Addr} {xs : List V} (h : SqT K H a xs) (e : atI xs p = some v) (q : Q v H) : rIx K (.ref a) (.int p) H Q := .inr (.inl ⟨a, xs, p, v, rfl, rfl, h, e, q⟩)
theorem o_lenL {a : Addr} {xs : List V} (h : SqL K H a xs) (q : Q (.int xs.length) H) : rLenA K [.ref a] H Q := ⟨.ref a, xs.length, rfl, .inl ⟨xs, h, rfl⟩, q⟩
theorem o_lenT {a : Addr} {xs : List V} (h : SqT K H a xs) (q : Q (.int xs.length) H) : rLenA K [.ref a] H Q := ⟨.ref a, xs.length, rfl, .inr ⟨xs, h, rfl⟩, q⟩
/-! isinstance -/
theorem o_isi {c : V} {tv uv : Value} {k : Bool} (h1 : ClsV c uv) (h2 : TyX K H x tv) (h3 : PySem.W.kitOne K tv uv = some k) (q : Q (.bl k) H) : rIsi K [x, c] H Q := ⟨x, c, tv, uv, k, rfl, h1, h2, h3, q⟩
end
end L2.MP
namespace L2.MP
open PySem PySem.Spec PyProof.Rows
/-! ### looking up in written attribute lists -/
theorem lk0 {f : Str} {v : V} {r : List (Str × V)} : ((f, v) :: r).lookup f = some v := by rw [List.lookup_cons, beq_self_eq_true]
theorem lkS {f k : Str} {u v : V} {r : List (Str × V)} (h : (f == k) = false) (e : r.lookup f = some v) : ((k, u) :: r).lookup f = some v := by rw [List.lookup_cons, h]; exact e
theorem lkN0 {f : Str} : ([] : List (Str × V)).lookup f = none := rfl
theorem lkNS {f k : Str} {u : V} {r : List (Str × V)} (h : (f == k) = false) (e : r.lookup f = none) : ((k, u) :: r).lookup f = none := by rw [List.lookup_cons, h]; exact e
theorem pf0 {f : Str} {v : V} : putF f v [] = [(f, v)] := rfl
theorem pfE {f : Str} {u v : V} {r : List (Str × V)} : putF f v ((f, u) :: r) = (f, v) :: r := by
  show (if f = f then (f, v) :: r else (f, u) :: putF f v r) = _
  rw [if_pos rfl]
theorem pfS {f k : Str} {u v : V} {r r' : List (Str × V)} (h : (k == f) = false) (e : putF f v r = r') : putF f v ((k, u) :: r) = (k, u) :: r' := by
  show (if k = f then (k, v) :: r else (k, u) :: putF f v r) = _
  rw [if_neg (fun z => by rw [z, beq_self_eq_true] at h; cases h), e]
/-! ### isinstance -/
class IsiC (K : PySem.W.Frag) (C : Addr) : Prop where
  cl : Cls K C
  ha : PySem.W.findIn K (.ref C) "__class__" = some (some (.builtin "object.__class__"))
  hn : PySem.W.specialIn K (.builtin "object.__class__") "__get__" = some (some (.builtin "getset_descriptor.__get__"))
  tk : PySem.W.takesIn K (.builtin "object.__class__") = some true
  hm : PySem.W.mroIn K C (.type "object") = some true
def isiB (x : Str) (K : PySem.W.Frag) : Bool := He.eqO (PySem.W.findIn K (.ref (He.ga K x)) "__class__") (some (some (.builtin "object.__class__"))) && (He.eqO (PySem.W.specialIn K (.builtin "object.__class__") "__get__") (some (some (.builtin "getset_descriptor.__get__"))) &&
  (decide (PySem.W.takesIn K (.builtin "object.__class__") = some true) && decide (PySem.W.mroIn K (He.ga K x) (.type "object") = some true)))
theorem isiB_ok {x : Str} {K : PySem.W.Frag} (cl : Cls K (He.ga K x)) (h : isiB x K = true) : IsiC K (He.ga K x) := by
  obtain ⟨h1, h⟩ := He.ba h
  obtain ⟨h2, h⟩ := He.ba h
  obtain ⟨h3, h4⟩ := He.ba h
  exact ⟨cl, He.eqO_ok h1, He.eqO_ok h2, of_decide_eq_true h3, of_decide_eq_true h4⟩
class Kit (K : PySem.W.Frag) (t c : Value) (k : outParam Bool) : Prop where
  eq : PySem.W.kitOne K t c = some k
/-- the built-in type of a plain value -/
class TyN (x : V) (T : outParam String) : Prop where
  ty : ∀ K H, TyX K H x (.type T)
instance : TyN .non "NoneType" := ⟨fun _ _ => .base .non⟩
instance {b : Bool} : TyN (.bl b) "bool" := ⟨fun _ _ => .base (.bl b)⟩
instance {i : Int} : TyN (.int i) "int" := ⟨fun _ _ => .base (.int i)⟩
instance {s : Str} : TyN (.str s) "str" := ⟨fun _ _ => .base (.str s)⟩
section
variable {K : PySem.W.Frag}
theorem kb {a b : String} {k : Bool} (h : kitB a b = some k) : Kit K (.type a) (.type b) k := ⟨kit_ty h⟩
instance : Kit K (.type "NoneType") (.type "int") false := kb (by decide +kernel)
instance : Kit K (.type "NoneType") (.type "bool") false := kb (by decide +kernel)
instance : Kit K (.type "NoneType") (.type "str") false := kb (by decide +kernel)
instance : Kit K (.type "NoneType") (.type "list") false := kb (by decide +kernel)
instance : Kit K (.type "NoneType") (.type "tuple") false := kb (by decide +kernel)
instance : Kit K (.type "bool") (.type "int") true := kb (by decide +kernel)
instance : Kit K (.type "bool") (.type "bool") true := kb (by decide +kernel)
instance : Kit K (.type "bool") (.type "str") false := kb (by decide +kernel)
instance : Kit K (.type "bool") (.type "list") false := kb (by decide +kernel)
instance : Kit K (.type "bool") (.type "tuple") false := kb (by decide +kernel)
instance : Kit K (.type "int") (.type "int") true := kb (by decide +kernel)
instance : Kit K (.type "int") (.type "bool") false := kb (by decide +kernel)
instance : Kit K (.type "int") (.type "str") false := kb (by decide +kernel)
instance : Kit K (.type "int") (.type "list") false := kb (by decide +kernel)
instance : Kit K (.type "int") (.type "tuple") false := kb (by decide +kernel)
instance : Kit K (.type "str") (.type "int") false := kb (by decide +kernel)
instance : Kit K (.type "str") (.type "bool") false := kb (by decide +kernel)
instance : Kit K (.type "str") (.type "str") true := kb (by decide +kernel)
instance : Kit K (.type "str") (.type "list") false := kb (by decide +kernel)
instance : Kit K (.type "str") (.type "tuple") false := kb (by decide +kernel)
instance : Kit K (.type "list") (.type "int") false := kb (by decide +kernel)
instance : Kit K (.type "list") (.type "bool") false := kb (by decide +kernel)
instance : Kit K (.type "list") (.type "str") false := kb (by decide +kernel)
instance : Kit K (.type "list") (.type "list") true := kb (by decide +kernel)
instance : Kit K (.type "list") (.type "tuple") false := kb (by decide +kernel)
instance : Kit K (.type "tuple") (.type "int") false := kb (by decide +kernel)
instance : Kit K (.type "tuple") (.type "bool") false := kb (by decide +kernel)
instance : Kit K (.type "tuple") (.type "str") false := kb (by decide +kernel)
instance : Kit K (.type "tuple") (.type "list") false := kb (by decide +kernel)
instance : Kit K (.type "tuple") (.type "tuple") true := kb (by decide +kernel)
variable {H : Hp} {Q : VK} {x : V} {a C dx D : Addr} {fs : List (Str × V)} {k : Bool} {T S : String}
theorem i_plain [t : TyN x T] [c : Kit K (.type T) (.type S) k] (q : Q (.bl k) H) : rIsi K [x, .ty S] H Q := o_isi (.ty S) (t.ty K H) c.eq q
theorem i_plainC [t : TyN x T] [c : Kit K (.type T) (.ref D) k] (q : Q (.bl k) H) : rIsi K [x, .ref D] H Q := o_isi (.own D) (t.ty K H) c.eq q
theorem i_insC (h : H a = some (.ins C dx fs)) (i : IsiC K C) (c : Kit K (.ref C) (.ref D) k) (q : Q (.bl k) H) : rIsi K [.ref a, .ref D] H Q := o_isi (.own D) (.base (.ins h i.cl i.ha i.hn i.tk i.hm)) c.eq q
theorem i_lst {xs : List V} (h : H a = some (.lst xs)) (c : Kit K (.type "list") (.type S) k) (q : Q (.bl k) H) : rIsi K [.ref a, .ty S] H Q := o_isi (.ty S) (.base (.lst h)) c.eq q
theorem i_tup {xs : List V} (h : H a = some (.tup xs)) (c : Kit K (.type "tuple") (.type S) k) (q : Q (.bl k) H) : rIsi K [.ref a, .ty S] H Q := o_isi (.ty S) (.base (.tup h)) c.eq q
end
end L2.MP
namespace L2.MP
open PySem PySem.Spec PyProof.Rows
/-! ### loops, turn by turn -/
section
variable {K : PySem.W.Frag} {σ : St} {H : Hp} {n b c : St → Hp → Prop} {r : VK} {i : Nat} {tb : TS} {tr : TA} {te : TE}
/-- cnt turns from x on -/
def RFor (i : Nat) (tb : TS) (n : St → Hp → Prop) (r : VK) : Nat → Int → St → Hp → Prop
  | 0, _ => n
  | m + 1, x => fun σ H => tb ⟨RFor i tb n r m (x + 1), r, n, RFor i tb n r m (x + 1)⟩ (σ.set i (some (.int x))) H
theorem k_forN (h : RFor i tb n r 0 x σ H) : n σ H := h
theorem rfor_ok {lo : Int} {cnt : Nat} (h : RFor i tb n r cnt lo σ H) {D : Ends} (e : D = ⟨n, r, b, c⟩) : ∃ W : Nat → Nat → St → Hp → Prop, (∃ m, W 0 m σ H) ∧ ∀ i' m σ H, W i' m σ H →
      ((Itr lo cnt).stop i' H ∧ D.nx σ H) ∨ ((Itr lo cnt).go i' H ∧ ∃ N : St → Hp → Prop, (∀ σ' H', N σ' H' → ∃ m', m' < m ∧ W (i' + 1) m' σ' H') ∧ ∀ x H', (Itr lo cnt).yld i' H x H' → gName i x σ H' fun σ2 H2 => tb { nx := N, rt := D.rt, bk := D.nx, ct := N } σ2 H2) := by
  subst e
  refine for_range (D := ⟨n, r, b, c⟩) (fun j σ H => j ≤ cnt ∧ RFor i tb n r (cnt - j) (lo + j) σ H) ⟨Nat.zero_le _, by simpa using h⟩ (fun j σ H hj ⟨_, q⟩ => ?_) (fun σ H ⟨_, q⟩ => ?_)
  · obtain ⟨m, hm⟩ : ∃ m, cnt - j = m + 1 := ⟨cnt - j - 1, by omega⟩
    rw [hm] at q
    have e1 : cnt - (j + 1) = m := by omega
    have e2 : lo + ((j + 1 : Nat) : Int) = lo + (j : Int) + 1 := by omega
    have ef : (fun σ H => j + 1 ≤ cnt ∧ RFor i tb n r (cnt - (j + 1)) (lo + ((j + 1 : Nat) : Int)) σ H) = RFor i tb n r m (lo + j + 1) := by
      funext σ H
      rw [e1, e2]
      exact propext ⟨fun z => z.2, fun z => ⟨hj, z⟩⟩
    show tb ⟨fun σ H => j + 1 ≤ cnt ∧ RFor i tb n r (cnt - (j + 1)) (lo + ((j + 1 : Nat) : Int)) σ H, r, n, fun σ H => j + 1 ≤ cnt ∧ RFor i tb n r (cnt - (j + 1)) (lo + ((j + 1 : Nat) : Int)) σ H⟩ _ _
    rw [ef]
    exact q
  · rw [Nat.sub_self] at q
    exact q
/-- what a for asks of its turns -/
def FW (J : It) (i : Nat) (tb : TS) (D : Ends) (σ : St) (H : Hp) : Prop := ∃ W : Nat → Nat → St → Hp → Prop, (∃ m, W 0 m σ H) ∧ ∀ i' m σ H, W i' m σ H →
  (J.stop i' H ∧ D.nx σ H) ∨ (J.go i' H ∧ ∃ N : St → Hp → Prop, (∀ σ' H', N σ' H' → ∃ m', m' < m ∧ W (i' + 1) m' σ' H') ∧ ∀ x H', J.yld i' H x H' → gName i x σ H' fun σ2 H2 => tb { D with nx := N, ct := N, bk := D.nx } σ2 H2)
def RR1 (i : Nat) (tb : TS) (D : Ends) (σ : St) (vs : List V) (H : Hp) : Prop := ∃ j : Int, vs = [.int j] ∧ -(2 ^ 62) ≤ j ∧ j < 2 ^ 62 ∧ FW (Itr 0 j.toNat) i tb D σ H
def RR2 (i : Nat) (tb : TS) (D : Ends) (σ : St) (vs : List V) (H : Hp) : Prop := ∃ lo hi : Int, vs = [.int lo, .int hi] ∧ (-(2 ^ 62) ≤ lo ∧ lo < 2 ^ 62 ∧ -(2 ^ 62) ≤ hi ∧ hi < 2 ^ 62) ∧ FW (Itr lo (hi - lo).toNat) i tb D σ H
def RL (K : PySem.W.Frag) (i : Nat) (tb : TS) (D : Ends) (σ : St) (x : V) (H : Hp) : Prop := ∃ a, x = .ref a ∧ (∃ xs, SqL K H a xs) ∧ FW (Itl K a) i tb D σ H
def RT (K : PySem.W.Frag) (i : Nat) (tb : TS) (D : Ends) (σ : St) (x : V) (H : Hp) : Prop := ∃ a, x = .ref a ∧ (∃ xs, SqT K H a xs) ∧ FW (Itt K a) i tb D σ H
theorem k_forR1 (h : tr σ H (RR1 i tb ⟨n, r, b, c⟩ σ)) : tFor (iRng1 tr) (gName i) tb ⟨n, r, b, c⟩ σ H := h
instance w_k_forR1  : W (tFor (iRng1 tr) (gName i) tb ⟨n, r, b, c⟩ σ H) (tr σ H (RR1 i tb ⟨n, r, b, c⟩ σ)) := ⟨fun z => k_forR1 z⟩
theorem k_forR2 (h : tr σ H (RR2 i tb ⟨n, r, b, c⟩ σ)) : tFor (iRng2 tr) (gName i) tb ⟨n, r, b, c⟩ σ H := h
instance w_k_forR2  : W (tFor (iRng2 tr) (gName i) tb ⟨n, r, b, c⟩ σ H) (tr σ H (RR2 i tb ⟨n, r, b, c⟩ σ)) := ⟨fun z => k_forR2 z⟩
theorem k_forL (h : te σ H (RL K i tb ⟨n, r, b, c⟩ σ)) : tFor (iList K te) (gName i) tb ⟨n, r, b, c⟩ σ H := h
instance w_k_forL  : W (tFor (iList K te) (gName i) tb ⟨n, r, b, c⟩ σ H) (te σ H (RL K i tb ⟨n, r, b, c⟩ σ)) := ⟨fun z => k_forL z⟩
theorem k_forT (h : te σ H (RT K i tb ⟨n, r, b, c⟩ σ)) : tFor (iTup K te) (gName i) tb ⟨n, r, b, c⟩ σ H := h
instance w_k_forT  : W (tFor (iTup K te) (gName i) tb ⟨n, r, b, c⟩ σ H) (te σ H (RT K i tb ⟨n, r, b, c⟩ σ)) := ⟨fun z => k_forT z⟩
/-- a range, all its turns written -/
theorem k_rr1 {j : Int} (h : -(2 ^ 62) ≤ j ∧ j < 2 ^ 62) (q : RFor i tb n r j.toNat 0 σ H) : RR1 i tb ⟨n, r, b, c⟩ σ [.int j] H := ⟨j, rfl, h.1, h.2, rfor_ok q rfl⟩
theorem k_rr2 {lo hi : Int} (h : -(2 ^ 62) ≤ lo ∧ lo < 2 ^ 62 ∧ -(2 ^ 62) ≤ hi ∧ hi < 2 ^ 62) (q : RFor i tb n r (hi - lo).toNat lo σ H) : RR2 i tb ⟨n, r, b, c⟩ σ [.int lo, .int hi] H := ⟨lo, hi, rfl, h, rfor_ok q rfl⟩
/-- a range by an invariant -/
theorem k_rr1I {j : Int} (h : 0 ≤ j ∧ j < 2 ^ 62) (P : Nat → St → Hp → Prop) (h0 : P 0 σ H) (ht : ∀ (m : Nat) σ H, (m : Int) < j → P m σ H → tb ⟨P (m + 1), r, n, P (m + 1)⟩ (σ.set i (some (.int m))) H) (hd : ∀ σ H, P j.toNat σ H → n σ H) : RR1 i tb ⟨n, r, b, c⟩ σ [.int j] H := by
  refine ⟨j, rfl, by omega, h.2, for_range (D := ⟨n, r, b, c⟩) P h0 (fun m σ H hm q => ?_) hd⟩
  have := ht m σ H (by omega) q
  show tb _ (σ.set i (some (.int (0 + (m : Int))))) H
  rw [Int.zero_add]
  exact this
/-- a list, turn by turn -/
def RForL (K : PySem.W.Frag) (a : Addr) (all : List V) (i : Nat) (tb : TS) (n : St → Hp → Prop) (r : VK) : List V → St → Hp → Prop
  | [] => fun σ H => SqL K H a all ∧ n σ H
  | x :: rest => fun σ H => SqL K H a all ∧ tb ⟨RForL K a all i tb n r rest, r, n, RForL K a all i tb n r rest⟩ (σ.set i (some x)) H
theorem RForL.sq {a : Addr} {all : List V} : ∀ {rest : List V} {σ : St} {H : Hp}, RForL K a all i tb n r rest σ H → SqL K H a all
  | [], _, _, h => h.1
  | _ :: _, _, _, h => h.1
theorem k_rl {a : Addr} {xs : List V} (h : SqL K H a xs) (q : RForL K a xs i tb n r xs σ H) : RL K i tb ⟨n, r, b, c⟩ σ (.ref a) H := by
  refine ⟨a, rfl, ⟨xs, h⟩, for_list (D := ⟨n, r, b, c⟩) (fun j σ H => RForL K a xs i tb n r (xs.drop j) σ H) q (fun j σ H _ z => z.sq) (fun j x σ H hj z => ?_) (fun σ H z => ?_)⟩
  · have e : xs.drop j = x :: xs.drop (j + 1) := by
      obtain ⟨hl, e⟩ := List.getElem?_eq_some_iff.mp hj
      rw [List.drop_eq_getElem_cons hl, e]
    rw [e] at z
    exact z.2
  · rw [List.drop_length] at z
    exact z.2
theorem k_rlI {a : Addr} {xs : List V} (h : SqL K H a xs) (P : Nat → St → Hp → Prop) (h0 : P 0 σ H) (hl : ∀ (m : Nat) σ H, m ≤ xs.length → P m σ H → SqL K H a xs)
    (ht : ∀ (m : Nat) x σ H, xs[m]? = some x → P m σ H → tb ⟨P (m + 1), r, n, P (m + 1)⟩ (σ.set i (some x)) H) (hd : ∀ σ H, P xs.length σ H → n σ H) : RL K i tb ⟨n, r, b, c⟩ σ (.ref a) H :=
  ⟨a, rfl, ⟨xs, h⟩, for_list (D := ⟨n, r, b, c⟩) P h0 hl (fun m x σ H hm q => ht m x σ H hm q) hd⟩
def RForT (K : PySem.W.Frag) (a : Addr) (all : List V) (i : Nat) (tb : TS) (n : St → Hp → Prop) (r : VK) : List V → St → Hp → Prop
  | [] => fun σ H => SqT K H a all ∧ n σ H
  | x :: rest => fun σ H => SqT K H a all ∧ tb ⟨RForT K a all i tb n r rest, r, n, RForT K a all i tb n r rest⟩ (σ.set i (some x)) H
theorem RForT.sq {a : Addr} {all : List V} : ∀ {rest : List V} {σ : St} {H : Hp}, RForT K a all i tb n r rest σ H → SqT K H a all
  | [], _, _, h => h.1
  | _ :: _, _, _, h => h.1
theorem k_rt {a : Addr} {xs : List V} (h : SqT K H a xs) (q : RForT K a xs i tb n r xs σ H) : RT K i tb ⟨n, r, b, c⟩ σ (.ref a) H := by
  refine ⟨a, rfl, ⟨xs, h⟩, for_tup (D := ⟨n, r, b, c⟩) (fun j σ H => RForT K a xs i tb n r (xs.drop j) σ H) q (fun j σ H _ z => z.sq) (fun j x σ H hj z => ?_) (fun σ H z => ?_)⟩
  · have e : xs.drop j = x :: xs.drop (j + 1) := by
      obtain ⟨hl, e⟩ := List.getElem?_eq_some_iff.mp hj
      rw [List.drop_eq_getElem_cons hl, e]
    rw [e] at z
    exact z.2
  · rw [List.drop_length] at z
    exact z.2
theorem k_turnL {a : Addr} {all rest : List V} {x : V} {σ' : St} (h : SqL K H a all) [c : SetC σ i (some x) σ'] (q : tb ⟨RForL K a all i tb n r rest, r, n, RForL K a all i tb n r rest⟩ σ' H) : RForL K a all i tb n r (x :: rest) σ H := ⟨h, by rw [c.eq]; exact q⟩
theorem k_doneL {a : Addr} {all : List V} (h : SqL K H a all) (q : n σ H) : RForL K a all i tb n r [] σ H := ⟨h, q⟩
theorem k_turnT {a : Addr} {all rest : List V} {x : V} {σ' : St} (h : SqT K H a all) [c : SetC σ i (some x) σ'] (q : tb ⟨RForT K a all i tb n r rest, r, n, RForT K a all i tb n r rest⟩ σ' H) : RForT K a all i tb n r (x :: rest) σ H := ⟨h, by rw [c.eq]; exact q⟩
theorem k_doneT {a : Addr} {all : List V} (h : SqT K H a all) (q : n σ H) : RForT K a all i tb n r [] σ H := ⟨h, q⟩
theorem k_turnR {m : Nat} {x x' : Int} {σ' : St} [c : SetC σ i (some (.int x)) σ'] (e : x + 1 = x') (q : tb ⟨RFor i tb n r m x', r, n, RFor i tb n r m x'⟩ σ' H) : RFor i tb n r (m + 1) x σ H := by
  subst e
  show tb _ _ H
  rw [c.eq]
  exact q
theorem k_doneR {x : Int} (q : n σ H) : RFor i tb n r 0 x σ H := q
instance w_k_doneR {x : Int} : W (RFor i tb n r 0 x σ H) (n σ H) := ⟨fun z => k_doneR z⟩
end
end L2.MP
namespace L2.MP
open PySem PySem.Spec PyProof.Rows
section
variable {K : PySem.W.Frag} {σ : St} {H : Hp} {n b c : St → Hp → Prop} {r : VK} {i : Nat} {tb : TS}
theorem k_rr1L (m : Nat) {j : Int} (e : j = (m : Int)) (hm : m < 2 ^ 62) (q : RFor i tb n r m 0 σ H) : RR1 i tb ⟨n, r, b, c⟩ σ [.int j] H := by
  subst e
  exact k_rr1 ⟨by omega, by omega⟩ (by rw [Int.toNat_natCast]; exact q)
/-- the law's cell of the script -/
def cellv (ns : List Int) (i : Int) : Int := ns.getD i.toNat 0
theorem cell_at {ns : List Int} {i : Int} (h0 : 0 ≤ i) (h : i < (ns.map V.int).length) : atI (ns.map V.int) i = some (.int (cellv ns i)) := by
  obtain ⟨m, rfl⟩ : ∃ m : Nat, i = (m : Int) := ⟨i.toNat, by omega⟩
  have hm : m < ns.length := by simpa using h
  rw [atI_nat (v := V.int (cellv ns m)) ?_]
  simp [cellv, List.getD, hm]
theorem cell_out {ns : List Int} {i : Int} (h0 : 0 ≤ i) (h : ¬ i < (ns.map V.int).length) : cellv ns i = 0 := by
  have hm : ns.length ≤ i.toNat := by simp at h; omega
  simp [cellv, List.getD, List.getElem?_eq_none hm]
end
end L2.MP
namespace L2.MP
open PySem PySem.Spec PyProof.Rows
section
variable {K : PySem.W.Frag} {H : Hp} {Q : VK} {v : V} {p : Int} {a : Addr} {xs : List V}
theorem atI_toNat {α : Type} {xs : List α} {v : α} (h0 : 0 ≤ p) (e : xs[p.toNat]? = some v) : atI xs p = some v := by
  obtain ⟨m, rfl⟩ : ∃ m : Nat, p = (m : Int) := ⟨p.toNat, by omega⟩
  exact atI_nat (by simpa using e)
theorem o_ixTn (h : SqT K H a xs) (h0 : 0 ≤ p) (e : xs[p.toNat]? = some v) (q : Q v H) : rIx K (.ref a) (.int p) H Q := o_ixT h (atI_toNat h0 e) q
theorem o_ixLn (h : SqL K H a xs) (h0 : 0 ≤ p) (e : xs[p.toNat]? = some v) (q : Q v H) : rIx K (.ref a) (.int p) H Q := o_ixL h (atI_toNat h0 e) q
end
end L2.MP

set_option Elab.async false
set_option linter.all false
set_option maxRecDepth 100000
set_option maxHeartbeats 4000000
/-! Steps for dicts, own subscripts, methods of texts and lists. -/
namespace L2.MP
open PySem PySem.Spec PyProof.Rows
class DNe (a b : Str) : Prop where
  ne : a ≠ b
class ValC (kvs : List (Key × V)) (s : Str) (v : outParam V) : Prop where
  eq : valV kvs (.inr s) = some v
instance {r : List (Key × V)} {s : Str} {v : V} : ValC ((.inr s, v) :: r) s v := ⟨valV_pos rfl⟩
instance {r : List (Key × V)} {s t : Str} {v u : V} [d : DNe t s] [c : ValC r s v] : ValC ((.inr t, u) :: r) s v := ⟨by rw [valV_neg (fun e => d.ne (Sum.inr.inj e))]; exact c.eq⟩
class TdS (trs : List (TE × TE)) (l : outParam (List (Str × Str))) : Prop where
  eq : trs = l.map fun p => (tC (.str p.1), tC (.str p.2))
instance : TdS [] [] := ⟨rfl⟩
instance {a b : Str} {r : List (TE × TE)} {l : List (Str × Str)} [c : TdS r l] : TdS ((tC (.str a), tC (.str b)) :: r) ((a, b) :: l) := ⟨by rw [c.eq]; rfl⟩
class PutC (kvs : List (Key × V)) (s : Str) (v : V) (out : outParam (List (Key × V))) : Prop where
  eq : putK kvs (.inr s) v = out
class NoC (kvs : List (Key × V)) (s : Str) : Prop where
  eq : (kvs.any fun kv => decide (kv.1 = .inr s)) = false
instance {s : Str} : NoC [] s := ⟨rfl⟩
instance {r : List (Key × V)} {s t : Str} {u : V} [d : DNe t s] [c : NoC r s] : NoC ((.inr t, u) :: r) s := ⟨by
  rw [List.any_cons, c.eq, Bool.or_false]
  exact decide_eq_false (fun e => d.ne (Sum.inr.inj e))⟩
theorem put_new {kvs : List (Key × V)} {s : Str} {v : V} (c : NoC kvs s) : putK kvs (.inr s) v = kvs ++ [(.inr s, v)] := by
  unfold putK
  rw [if_neg (by rw [c.eq]; decide)]
section
variable {K : PySem.W.Frag} {σ : St} {H : Hp} {Q : VK} {td ty tv te ta : TE} {tr : TA} {n b c : St → Hp → Prop} {r : VK} {x y v u : V} {a p : Addr} {s z : Str} {kvs gs : List (Key × V)}
def NewD (H : Hp) (Q : VK) : Prop := ∀ p, H p = none → Q (.ref p) (upd H p (.dK []))
theorem k_newK (h : NewD H Q) : tDNewK σ H Q := h
instance w_k_newK  : W (tDNewK σ H Q) (NewD H Q) := ⟨fun z => k_newK z⟩
theorem k_newD (q : ∀ p, H p = none → Q (.ref p) (upd H p (.dK []))) : NewD H Q := q
def RDGet (x y : V) (H : Hp) (Q : VK) : Prop := ∃ a v, x = .ref a ∧ DGet H a y (some v) ∧ Q v H
theorem k_dget (h : td σ H fun x H1 => ty σ H1 fun y H2 => RDGet x y H2 Q) : tDGet td ty σ H Q := h
instance w_k_dget  : W (tDGet td ty σ H Q) (td σ H fun x H1 => ty σ H1 fun y H2 => RDGet x y H2 Q) := ⟨fun z => k_dget z⟩
theorem k_rdget (h : H a = some (.dK kvs)) (e : valV kvs (.inr s) = some v) (q : Q v H) : RDGet (.ref a) (.str s) H Q := ⟨a, v, rfl, e ▸ DGet.k (k := .inr s) h, q⟩
def RDGet2 (x y z : V) (H : Hp) (Q : VK) : Prop := ∃ a, x = .ref a ∧ ∃ o, DGet H a y o ∧ Q (o.getD z) H
def RDG2 (ty tx : TE) (σ : St) (Q : VK) (x : V) (H : Hp) : Prop := ∃ a, x = .ref a ∧ IsD H a ∧ ty σ H fun y H2 => tx σ H2 fun z H3 => ∃ o, DGet H3 a y o ∧ Q (o.getD z) H3
theorem k_dget2 {tx : TE} (h : td σ H (RDG2 ty tx σ Q)) : tDGet2 td ty tx σ H Q := h
instance w_k_dget2 {tx : TE} : W (tDGet2 td ty tx σ H Q) (td σ H (RDG2 ty tx σ Q)) := ⟨fun z => k_dget2 z⟩
def RDo (a : Addr) (Q : VK) (y z : V) (H : Hp) : Prop := ∃ o, DGet H a y o ∧ Q (o.getD z) H
theorem k_rdg2 {tx : TE} (h : H a = some (.dK kvs)) (q : ty σ H fun y H2 => tx σ H2 fun z H3 => RDo a Q y z H3) : RDG2 ty tx σ Q (.ref a) H := ⟨a, rfl, .inl ⟨kvs, .inl h⟩, q⟩
theorem k_rdo {z : V} (h : H a = some (.dK kvs)) (q : Q ((valV kvs (.inr s)).getD z) H) : RDo a Q (.str s) z H := ⟨_, DGet.k (k := .inr s) h, q⟩
def RDPut (x y v : V) (H : Hp) (k : Hp → Prop) : Prop := ∃ a H4, x = .ref a ∧ DPut H a y v H4 ∧ k H4
theorem k_dput (h : tv σ H fun v H1 => td σ H1 fun x H2 => ty σ H2 fun y H3 => RDPut x y v H3 (fun H4 => n σ H4)) : sDPut td ty tv ⟨n, r, b, c⟩ σ H := h
instance w_k_dput  : W (sDPut td ty tv ⟨n, r, b, c⟩ σ H) (tv σ H fun v H1 => td σ H1 fun x H2 => ty σ H2 fun y H3 => RDPut x y v H3 (fun H4 => n σ H4)) := ⟨fun z => k_dput z⟩
theorem k_rdput {k : Hp → Prop} (h : H a = some (.dK kvs)) (hl : kvs.length ≤ 90000) (e : putK kvs (.inr s) v = gs) (q : k (upd H a (.dK gs))) : RDPut (.ref a) (.str s) v H k := ⟨a, _, rfl, DPut.k (k := .inr s) h (szl_of (by omega)), by rw [e]; exact q⟩
theorem k_rdputC {k : Hp → Prop} (h : H a = some (.dK kvs)) (hl : kvs.length ≤ 90000) (e : PutC kvs s v gs) (q : k (upd H a (.dK gs))) : RDPut (.ref a) (.str s) v H k := k_rdput h hl e.eq q
theorem k_rdgetC (h : H a = some (.dK kvs)) (e : ValC kvs s v) (q : Q v H) : RDGet (.ref a) (.str s) H Q := k_rdget h e.eq q
/-! a display of texts -/
def dS (l : List (Str × Str)) : List (Key × V) := l.map fun p => (.inr p.1, .str p.2)
theorem tPairs_S {σ : St} (l : List (Str × Str)) : ∀ {H : Hp} {R : List (V × V) → Hp → Prop}, R (l.map fun p => (V.str p.1, V.str p.2)) H → tPairs (l.map fun p => (tC (.str p.1), tC (.str p.2))) σ H R := by
  induction l with
  | nil => intro H R q; exact q
  | cons a l ih =>
    intro H R q
    show tPairs (l.map fun p => (tC (.str p.1), tC (.str p.2))) σ H fun ps H3 => R ((V.str a.1, V.str a.2) :: ps) H3
    exact ih q
def RDisp (l : List (Str × Str)) (H : Hp) (Q : VK) : Prop := ∀ p, H p = none → Q (.ref p) (upd H p (.dK (mergeK [] (dS l))))
theorem k_disp {trs : List (TE × TE)} {l : List (Str × Str)} [c : TdS trs l] (hl : l.length ≤ 15) (q : ∀ p, H p = none → Q (.ref p) (upd H p (.dK (mergeK [] (dS l))))) : tDisp trs σ H Q := by
  intro p hp
  rw [c.eq]
  refine tPairs_S l ⟨upd_same, dS l, ?_, by rw [dS, List.length_map]; exact hl, ?_⟩
  · rw [dS, List.map_map]; rfl
  · rw [upd_upd]; exact q p hp
/-! texts and lists -/
def RM1 (ro : V → List V → Hp → VK → Prop) (te : TE) (σ : St) (Q : VK) (x : V) (H : Hp) : Prop := (∃ a, x = .str a) ∧ te σ H fun y H2 => ro x [y] H2 Q
theorem k_m1 {ro : V → List V → Hp → VK → Prop} (h : td σ H (RM1 ro te σ Q)) : tM1 ro td te σ H Q := h
instance w_k_m1 {ro : V → List V → Hp → VK → Prop} : W (tM1 ro td te σ H Q) (td σ H (RM1 ro te σ Q)) := ⟨fun z => k_m1 z⟩
theorem k_rm1 {ro : V → List V → Hp → VK → Prop} (h : te σ H fun y H2 => ro (.str s) [y] H2 Q) : RM1 ro te σ Q (.str s) H := ⟨⟨s, rfl⟩, h⟩
instance w_k_rm1 {ro : V → List V → Hp → VK → Prop} : W (RM1 ro te σ Q (.str s) H) (te σ H fun y H2 => ro (.str s) [y] H2 Q) := ⟨fun z => k_rm1 z⟩
theorem o_split {l : List Str} (hz : (z.length == 0) = false) (hs : s.length ≤ 90000) (e : Txt.split s z = l) (hl : l.length ≤ 90000) (q : ∀ p, H p = none → Q (.ref p) (upd H p (.lst (l.map V.str)))) : rSplitA (.str s) [.str z] H Q :=
  ⟨s, z, rfl, rfl, hz, sz_of (by omega), by subst e; exact q⟩
def RBM (K : PySem.W.Frag) (T : String) (ro : V → List V → Hp → VK → Prop) (tr : TA) (σ : St) (Q : VK) (x : V) (H : Hp) : Prop := tyV K T x H ∧ tr σ H fun xs H2 => ro x xs H2 Q
theorem k_bm {ro : V → List V → Hp → VK → Prop} {T : String} (h : ta σ H (RBM K T ro tr σ Q)) : tBM K T ro ta tr σ H Q := h
instance w_k_bm {ro : V → List V → Hp → VK → Prop} {T : String} : W (tBM K T ro ta tr σ H Q) (ta σ H (RBM K T ro tr σ Q)) := ⟨fun z => k_bm z⟩
theorem k_rbmL {ro : V → List V → Hp → VK → Prop} {xs : List V} (h : SqL K H a xs) (q : tr σ H fun xs H2 => ro (.ref a) xs H2 Q) : RBM K "list" ro tr σ Q (.ref a) H := ⟨.inl ⟨rfl, xs, h⟩, q⟩
theorem o_append {xs : List V} (h : H a = some (.lst xs)) (hl : xs.length ≤ 90000) (q : Q .non (upd H a (.lst (xs ++ [y])))) : rAppend (.ref a) [y] H Q := ⟨a, xs, y, rfl, rfl, h, szl_of (by omega), q⟩
/-! own subscripts -/
def ROwnIx (C : Addr) (sp : Sp) (E : XK) (x y : V) (H : Hp) (Q : VK) : Prop := ∃ a dx fs, x = .ref a ∧ H a = some (.ins C dx fs) ∧ sp [.ref a, y] H Q E
theorem k_ownIx {C : Addr} {sp : Sp} {E : St → XK} (h : ta σ H fun x H1 => te σ H1 fun y H2 => ROwnIx C sp (E σ) x y H2 Q) : tOwnIx C sp E ta te σ H Q := h
instance w_k_ownIx {C : Addr} {sp : Sp} {E : St → XK} : W (tOwnIx C sp E ta te σ H Q) (ta σ H fun x H1 => te σ H1 fun y H2 => ROwnIx C sp (E σ) x y H2 Q) := ⟨fun z => k_ownIx z⟩
theorem k_rownIx {C dx : Addr} {sp : Sp} {E : XK} {fs : List (Str × V)} (h : H a = some (.ins C dx fs)) (q : sp [.ref a, y] H Q E) : ROwnIx C sp E (.ref a) y H Q := ⟨a, dx, fs, rfl, h, q⟩
def ROwnPut (C : Addr) (sp : Sp) (E : XK) (x y v : V) (H : Hp) (k : Hp → Prop) : Prop := ∃ a dx fs, x = .ref a ∧ H a = some (.ins C dx fs) ∧ sp [.ref a, y, v] H (fun _ H4 => k H4) E
theorem k_ownPut {C : Addr} {sp : Sp} {E : St → XK} (h : tv σ H fun v H1 => ta σ H1 fun x H2 => te σ H2 fun y H3 => ROwnPut C sp (E σ) x y v H3 (n σ)) : sOwnPut C sp E ta te tv ⟨n, r, b, c⟩ σ H := h
instance w_k_ownPut {C : Addr} {sp : Sp} {E : St → XK} : W (sOwnPut C sp E ta te tv ⟨n, r, b, c⟩ σ H) (tv σ H fun v H1 => ta σ H1 fun x H2 => te σ H2 fun y H3 => ROwnPut C sp (E σ) x y v H3 (n σ)) := ⟨fun z => k_ownPut z⟩
theorem k_rownPut {C dx : Addr} {sp : Sp} {E : XK} {fs : List (Str × V)} {k : Hp → Prop} (h : H a = some (.ins C dx fs)) (q : sp [.ref a, y, v] H (fun _ H4 => k H4) E) : ROwnPut C sp E (.ref a) y v H k := ⟨a, dx, fs, rfl, h, q⟩
/-! in -/
theorem allF (l : List Str) : (l.map V.str).all flatV = true := by
  induction l with
  | nil => rfl
  | cons a l ih => rw [List.map_cons, List.all_cons, ih]; rfl
theorem inS {s : Str} {l : List Str} : inV (.str s) (l.map V.str) = decide (s ∈ l) := by
  induction l with
  | nil => simp [inV]
  | cons a l ih =>
    rw [List.map_cons, inV, List.any_cons, ← inV, ih]
    by_cases e : a = s
    · subst e; simp [eqV]
    · have e' : s ≠ a := fun z => e z.symm
      simp [eqV, e, e']
theorem o_inT {l : List Str} (h : SqT K H a (l.map V.str)) (q : Q (.bl (decide (s ∈ l))) H) : rInA K false (.str s) (.ref a) H Q := .inl ⟨a, _, rfl, .inr h, rfl, (allF l), by rw [inS]; exact q⟩
theorem o_ninT {l : List Str} (h : SqT K H a (l.map V.str)) (q : Q (.bl (!decide (s ∈ l))) H) : rInA K true (.str s) (.ref a) H Q := .inl ⟨a, _, rfl, .inr h, rfl, (allF l), by rw [inS]; exact q⟩
theorem o_inL {l : List Str} (h : SqL K H a (l.map V.str)) (q : Q (.bl (decide (s ∈ l))) H) : rInA K false (.str s) (.ref a) H Q := .inl ⟨a, _, rfl, .inl h, rfl, (allF l), by rw [inS]; exact q⟩
theorem o_ninL {l : List Str} (h : SqL K H a (l.map V.str)) (q : Q (.bl (!decide (s ∈ l))) H) : rInA K true (.str s) (.ref a) H Q := .inl ⟨a, _, rfl, .inl h, rfl, (allF l), by rw [inS]; exact q⟩
/-! powers, fresh things -/
theorem o_pow18 (q : Q (.int 1000000000000000000) H) : rPowI (.int 10) (.int 18) H Q := ⟨10, 18, rfl, rfl, ⟨by decide, by decide, by decide⟩, q⟩
instance w_o_pow18  : W (rPowI (.int 10) (.int 18) H Q) (Q (.int 1000000000000000000) H) := ⟨fun z => o_pow18 z⟩
theorem o_pow9 (q : Q (.int 1000000000) H) : rPowI (.int 10) (.int 9) H Q := ⟨10, 9, rfl, rfl, ⟨by decide, by decide, by decide⟩, q⟩
instance w_o_pow9  : W (rPowI (.int 10) (.int 9) H Q) (Q (.int 1000000000) H) := ⟨fun z => o_pow9 z⟩
theorem o_pow30 (q : Q (.int 1000000000000000000000000000000) H) : rPowI (.int 10) (.int 30) H Q := ⟨10, 30, rfl, rfl, ⟨by decide, by decide, by decide⟩, q⟩
instance w_o_pow30  : W (rPowI (.int 10) (.int 30) H Q) (Q (.int 1000000000000000000000000000000) H) := ⟨fun z => o_pow30 z⟩
/-! a thing written twice -/
theorem k_rdputU {k : Hp → Prop} (hl : kvs.length ≤ 90000) (e : PutC kvs s v gs) (q : k (upd H a (.dK gs))) : RDPut (.ref a) (.str s) v (upd H a (.dK kvs)) k := k_rdputC upd_same hl e (by rw [upd_upd]; exact q)
theorem o_appendU {xs : List V} (hl : xs.length ≤ 90000) (q : Q .non (upd H a (.lst (xs ++ [y])))) : rAppend (.ref a) [y] (upd H a (.lst xs)) Q := o_append upd_same hl (by rw [upd_upd]; exact q)
theorem k_rputU {f : Str} {C dx : Addr} {fs hs : List (Str × V)} {k : Hp → Prop} (i : HasF K C f) (j : Pf f y fs hs) (q : k (upd H a (.ins C dx hs))) : RPut K f (.ref a) y (upd H a (.ins C dx fs)) k := k_rput upd_same i j (by rw [upd_upd]; exact q)
end
end L2.MP

set_option Elab.async false
set_option linter.all false
set_option maxRecDepth 100000
set_option maxHeartbeats 4000000
/-! The written tables of a book: the entries and their choices. -/
namespace L2.MP
open PySem PySem.Spec PyProof.Rows
abbrev ENT : List Str := [("work" : Str), ("write" : Str), ("meet" : Str), ("test" : Str), ("partly" : Str), ("value" : Str), ("path" : Str), ("loop" : Str), ("guard" : Str), ("call" : Str)]
instance : DNe ("work" : Str) ("write" : Str) := ⟨by decide +kernel⟩
instance : DNe ("work" : Str) ("meet" : Str) := ⟨by decide +kernel⟩
instance : DNe ("work" : Str) ("test" : Str) := ⟨by decide +kernel⟩
instance : DNe ("work" : Str) ("partly" : Str) := ⟨by decide +kernel⟩
instance : DNe ("work" : Str) ("value" : Str) := ⟨by decide +kernel⟩
instance : DNe ("work" : Str) ("path" : Str) := ⟨by decide +kernel⟩
instance : DNe ("work" : Str) ("loop" : Str) := ⟨by decide +kernel⟩
instance : DNe ("work" : Str) ("guard" : Str) := ⟨by decide +kernel⟩
instance : DNe ("work" : Str) ("call" : Str) := ⟨by decide +kernel⟩
instance : DNe ("write" : Str) ("work" : Str) := ⟨by decide +kernel⟩
instance : DNe ("write" : Str) ("meet" : Str) := ⟨by decide +kernel⟩
instance : DNe ("write" : Str) ("test" : Str) := ⟨by decide +kernel⟩
instance : DNe ("write" : Str) ("partly" : Str) := ⟨by decide +kernel⟩
instance : DNe ("write" : Str) ("value" : Str) := ⟨by decide +kernel⟩
instance : DNe ("write" : Str) ("path" : Str) := ⟨by decide +kernel⟩
instance : DNe ("write" : Str) ("loop" : Str) := ⟨by decide +kernel⟩
instance : DNe ("write" : Str) ("guard" : Str) := ⟨by decide +kernel⟩
instance : DNe ("write" : Str) ("call" : Str) := ⟨by decide +kernel⟩
instance : DNe ("meet" : Str) ("work" : Str) := ⟨by decide +kernel⟩
instance : DNe ("meet" : Str) ("write" : Str) := ⟨by decide +kernel⟩
instance : DNe ("meet" : Str) ("test" : Str) := ⟨by decide +kernel⟩
instance : DNe ("meet" : Str) ("partly" : Str) := ⟨by decide +kernel⟩
instance : DNe ("meet" : Str) ("value" : Str) := ⟨by decide +kernel⟩
instance : DNe ("meet" : Str) ("path" : Str) := ⟨by decide +kernel⟩
instance : DNe ("meet" : Str) ("loop" : Str) := ⟨by decide +kernel⟩
instance : DNe ("meet" : Str) ("guard" : Str) := ⟨by decide +kernel⟩
instance : DNe ("meet" : Str) ("call" : Str) := ⟨by decide +kernel⟩
instance : DNe ("test" : Str) ("work" : Str) := ⟨by decide +kernel⟩
instance : DNe ("test" : Str) ("write" : Str) := ⟨by decide +kernel⟩
instance : DNe ("test" : Str) ("meet" : Str) := ⟨by decide +kernel⟩
instance : DNe ("test" : Str) ("partly" : Str) := ⟨by decide +kernel⟩
instance : DNe ("test" : Str) ("value" : Str) := ⟨by decide +kernel⟩
instance : DNe ("test" : Str) ("path" : Str) := ⟨by decide +kernel⟩
instance : DNe ("test" : Str) ("loop" : Str) := ⟨by decide +kernel⟩
instance : DNe ("test" : Str) ("guard" : Str) := ⟨by decide +kernel⟩
instance : DNe ("test" : Str) ("call" : Str) := ⟨by decide +kernel⟩
instance : DNe ("partly" : Str) ("work" : Str) := ⟨by decide +kernel⟩
instance : DNe ("partly" : Str) ("write" : Str) := ⟨by decide +kernel⟩
instance : DNe ("partly" : Str) ("meet" : Str) := ⟨by decide +kernel⟩
instance : DNe ("partly" : Str) ("test" : Str) := ⟨by decide +kernel⟩
instance : DNe ("partly" : Str) ("value" : Str) := ⟨by decide +kernel⟩
instance : DNe ("partly" : Str) ("path" : Str) := ⟨by decide +kernel⟩
instance : DNe ("partly" : Str) ("loop" : Str) := ⟨by decide +kernel⟩
instance : DNe ("partly" : Str) ("guard" : Str) := ⟨by decide +kernel⟩
instance : DNe ("partly" : Str) ("call" : Str) := ⟨by decide +kernel⟩
instance : DNe ("value" : Str) ("work" : Str) := ⟨by decide +kernel⟩
instance : DNe ("value" : Str) ("write" : Str) := ⟨by decide +kernel⟩
instance : DNe ("value" : Str) ("meet" : Str) := ⟨by decide +kernel⟩
instance : DNe ("value" : Str) ("test" : Str) := ⟨by decide +kernel⟩
instance : DNe ("value" : Str) ("partly" : Str) := ⟨by decide +kernel⟩
instance : DNe ("value" : Str) ("path" : Str) := ⟨by decide +kernel⟩
instance : DNe ("value" : Str) ("loop" : Str) := ⟨by decide +kernel⟩
instance : DNe ("value" : Str) ("guard" : Str) := ⟨by decide +kernel⟩
instance : DNe ("value" : Str) ("call" : Str) := ⟨by decide +kernel⟩
instance : DNe ("path" : Str) ("work" : Str) := ⟨by decide +kernel⟩
instance : DNe ("path" : Str) ("write" : Str) := ⟨by decide +kernel⟩
instance : DNe ("path" : Str) ("meet" : Str) := ⟨by decide +kernel⟩
instance : DNe ("path" : Str) ("test" : Str) := ⟨by decide +kernel⟩
instance : DNe ("path" : Str) ("partly" : Str) := ⟨by decide +kernel⟩
instance : DNe ("path" : Str) ("value" : Str) := ⟨by decide +kernel⟩
instance : DNe ("path" : Str) ("loop" : Str) := ⟨by decide +kernel⟩
instance : DNe ("path" : Str) ("guard" : Str) := ⟨by decide +kernel⟩
instance : DNe ("path" : Str) ("call" : Str) := ⟨by decide +kernel⟩
instance : DNe ("loop" : Str) ("work" : Str) := ⟨by decide +kernel⟩
instance : DNe ("loop" : Str) ("write" : Str) := ⟨by decide +kernel⟩
instance : DNe ("loop" : Str) ("meet" : Str) := ⟨by decide +kernel⟩
instance : DNe ("loop" : Str) ("test" : Str) := ⟨by decide +kernel⟩
instance : DNe ("loop" : Str) ("partly" : Str) := ⟨by decide +kernel⟩
instance : DNe ("loop" : Str) ("value" : Str) := ⟨by decide +kernel⟩
instance : DNe ("loop" : Str) ("path" : Str) := ⟨by decide +kernel⟩
instance : DNe ("loop" : Str) ("guard" : Str) := ⟨by decide +kernel⟩
instance : DNe ("loop" : Str) ("call" : Str) := ⟨by decide +kernel⟩
instance : DNe ("guard" : Str) ("work" : Str) := ⟨by decide +kernel⟩
instance : DNe ("guard" : Str) ("write" : Str) := ⟨by decide +kernel⟩
instance : DNe ("guard" : Str) ("meet" : Str) := ⟨by decide +kernel⟩
instance : DNe ("guard" : Str) ("test" : Str) := ⟨by decide +kernel⟩
instance : DNe ("guard" : Str) ("partly" : Str) := ⟨by decide +kernel⟩
instance : DNe ("guard" : Str) ("value" : Str) := ⟨by decide +kernel⟩
instance : DNe ("guard" : Str) ("path" : Str) := ⟨by decide +kernel⟩
instance : DNe ("guard" : Str) ("loop" : Str) := ⟨by decide +kernel⟩
instance : DNe ("guard" : Str) ("call" : Str) := ⟨by decide +kernel⟩
instance : DNe ("call" : Str) ("work" : Str) := ⟨by decide +kernel⟩
instance : DNe ("call" : Str) ("write" : Str) := ⟨by decide +kernel⟩
instance : DNe ("call" : Str) ("meet" : Str) := ⟨by decide +kernel⟩
instance : DNe ("call" : Str) ("test" : Str) := ⟨by decide +kernel⟩
instance : DNe ("call" : Str) ("partly" : Str) := ⟨by decide +kernel⟩
instance : DNe ("call" : Str) ("value" : Str) := ⟨by decide +kernel⟩
instance : DNe ("call" : Str) ("path" : Str) := ⟨by decide +kernel⟩
instance : DNe ("call" : Str) ("loop" : Str) := ⟨by decide +kernel⟩
instance : DNe ("call" : Str) ("guard" : Str) := ⟨by decide +kernel⟩
/-! a new key -/
theorem put_cons {t s : Str} {u v : V} {r : List (Key × V)} (d : t ≠ s) : putK ((.inr t, u) :: r) (.inr s) v = (.inr t, u) :: putK r (.inr s) v := by
  have d' : ¬ (Sum.inr t : Key) = Sum.inr s := fun z => d (Sum.inr.inj z)
  unfold putK
  rw [List.any_cons, show decide ((Sum.inr t : Key) = Sum.inr s) = false from decide_eq_false d', Bool.false_or]
  split
  · rw [List.map_cons]
    congr 1
    show (if (Sum.inr t : Key) = Sum.inr s then (Sum.inr t, v) else (Sum.inr t, u)) = _
    rw [if_neg d']
  · rfl
instance {s : Str} {v : V} : PutC [] s v [(.inr s, v)] := ⟨rfl⟩
instance {t s : Str} {u v : V} {r r' : List (Key × V)} [d : DNe t s] [c : PutC r s v r'] : PutC ((.inr t, u) :: r) s v ((.inr t, u) :: r') := ⟨by rw [put_cons d.ne, c.eq]⟩
def CHT : List (Str × List Str) := [(("work" : Str), [("drop" : Str), ("left" : Str), ("short" : Str), ("join" : Str)]), (("write" : Str), [("raise" : Str), ("partly" : Str), ("skip" : Str), ("stop" : Str)]), (("meet" : Str), [("leave" : Str), ("raise" : Str)]),
  (("test" : Str), [("ignore" : Str), ("raise" : Str), ("stop" : Str)]), (("partly" : Str), [("pass" : Str), ("stop" : Str)]), (("value" : Str), [("show" : Str), ("blank" : Str), ("skip" : Str), ("stop" : Str)]), (("path" : Str), [("show" : Str), ("blank" : Str), ("skip" : Str), ("stop" : Str)])]
/-- the choices of an entry -/
def chs (e : Str) : List Str := (CHT.lookup e).getD [("forget" : Str), ("stick" : Str), ("stop" : Str)]
def strsB : List Str → List Value → Bool
  | [], [] => true
  | a :: l, .str b _ :: r => decide (a = b) && strsB l r
  | _, _ => false
theorem strsB_ok : ∀ {l : List Str} {r : List Value}, strsB l r = true → Vals (l.map V.str) r
  | [], [], _ => .nil
  | a :: l, .str b t :: r, h => by
    obtain ⟨h1, h2⟩ := He.ba h
    obtain rfl := of_decide_eq_true h1
    exact .cons ⟨t, rfl⟩ (strsB_ok h2)
  | [], _ :: _, h => by cases h
  | _ :: _, [], h => by cases h
def wtupB (a : Addr) (l : List Str) (K : PySem.W.Frag) : Bool := match K.lookup a with
  | some o => decide (o.cls = .type "tuple") && (match o.data with
    | .seq its _ => decide (its.size ≤ 1000) && strsB l its.toList
    | _ => false)
  | none => false
theorem wtupB_ok {a : Addr} {l : List Str} {K : PySem.W.Frag} (h : wtupB a l K = true) (H : Hp) : SqT K H a (l.map V.str) := by
  unfold wtupB at h
  split at h
  · rename_i o e
    obtain ⟨h1, h2⟩ := He.ba h
    split at h2
    · rename_i its n d
      obtain ⟨h3, h4⟩ := He.ba h2
      exact .inr ⟨o, its, n, e, of_decide_eq_true h1, d, Nat.le_trans (of_decide_eq_true h3) (by decide), strsB_ok h4⟩
    · cases h2
  · cases h
/-- where the choices of an entry stand -/
def chA (K : PySem.W.Frag) (e : Str) : Addr := match PySem.W.nsIn K (He.ga K "CHOICES") e with
  | some (some (.ref g)) => g
  | _ => 0
def chB (K : PySem.W.Frag) : Bool := ENT.all fun e => decide (PySem.W.nsIn K (He.ga K "CHOICES") e = some (some (.ref (chA K e)))) && wtupB (chA K e) (chs e) K
def entB (K : PySem.W.Frag) : Bool := wtupB (He.ga K "ENTRIES") ENT K
class BookK (K : PySem.W.Frag) : Prop where
  ent : entB K = true
  ch : chB K = true
class BookW (K : PySem.W.Frag) (w : World) : Prop where
  kd : ∃ es n, KDict K w (He.ga K "CHOICES") es n
section
variable {K : PySem.W.Frag} {w : World} {H : Hp} {Q : VK} {e s : Str}
theorem ent_sq [b : BookK K] : SqT K H (He.ga K "ENTRIES") (ENT.map V.str) := wtupB_ok b.ent H
theorem ch_sq [b : BookK K] (he : e ∈ ENT) : SqT K H (chA K e) ((chs e).map V.str) := wtupB_ok (He.ba (List.all_eq_true.mp b.ch e he)).2 H
theorem ch_kd [b : BookK K] [c : BookW K w] (he : e ∈ ENT) : KDct K w (He.ga K "CHOICES") e (.ref (chA K e)) := by
  obtain ⟨es, n, d⟩ := c.kd
  exact ⟨es, n, _, d.at_, d.lit, of_decide_eq_true (He.ba (List.all_eq_true.mp b.ch e he)).1, rfl⟩
def rIxW (K : PySem.W.Frag) (w : World) : R2 := rIxD K w
theorem k_ixW [BookK K] [BookW K w] (he : e ∈ ENT) (q : Q (.ref (chA K e)) H) : rIxW K w (.ref (He.ga K "CHOICES")) (.str e) H Q := ⟨_, e, _, rfl, rfl, ch_kd he, q⟩
theorem pe_ixW {X : Cx} {a b : Expr} {ta tb : TE} {pos : Pos} (ha : PE X a ta) (hb : PE X b tb) (hs : PlainIx b) : PE X (.Subscript a b pos) (tOp (rIxW X.K X.w) ta tb) := pe_ix ix_kdict ha hb hs
/-- in the choices of an entry; in the entries -/
theorem k_ninCh [BookK K] (he : e ∈ ENT) (q : Q (.bl (!decide (s ∈ chs e))) H) : rInA K true (.str s) (.ref (chA K e)) H Q := o_ninT (ch_sq he) q
theorem k_ninEnt [BookK K] (q : Q (.bl (!decide (s ∈ ENT))) H) : rInA K true (.str s) (.ref (He.ga K "ENTRIES")) H Q := o_ninT ent_sq q
theorem k_lenEnt [BookK K] (q : Q (.int 10) H) : rLenA K [.ref (He.ga K "ENTRIES")] H Q := o_lenT ent_sq q
/-! the book's dict: each entry with its choice -/
def bk (f : Str → Str) : List (Key × V) := ENT.map fun e => (Sum.inr e, V.str (f e))
def fset (f : Str → Str) (e c : Str) : Str → Str := fun x => if x = e then c else f x
theorem bk_get {f : Str → Str} (he : e ∈ ENT) : valV (bk f) (.inr e) = some (.str (f e)) := by
  unfold bk
  generalize ENT = l at he
  induction l with
  | nil => cases he
  | cons a l ih =>
    by_cases h : a = e
    · subst h; exact valV_pos rfl
    · rw [List.map_cons, valV_neg (fun z => h (Sum.inr.inj z))]
      exact ih ((List.mem_cons.mp he).resolve_left (fun z => h z.symm))
theorem bk_put {f : Str → Str} {c : Str} (he : e ∈ ENT) : putK (bk f) (.inr e) (.str c) = bk (fset f e c) := by
  unfold putK
  have h : ((bk f).any fun kv => decide (kv.1 = Sum.inr e)) = true := by
    rw [List.any_eq_true]
    exact ⟨(.inr e, .str (f e)), List.mem_map.mpr ⟨e, he, rfl⟩, by simp⟩
  rw [if_pos h]
  unfold bk
  rw [List.map_map]
  refine List.map_congr_left fun x _ => ?_
  show (if (Sum.inr x : Key) = Sum.inr e then ((Sum.inr x : Key), V.str c) else (Sum.inr x, V.str (f x))) = (Sum.inr x, V.str (fset f e c x))
  by_cases z : x = e
  · subst z; simp [fset]
  · simp [fset, z]
theorem bk_len {f : Str → Str} : (bk f).length = 10 := rfl
theorem fset_eq {f : Str → Str} {c : Str} : fset f e c e = c := if_pos rfl
theorem fset_ne {f : Str → Str} {c x : Str} (h : x ≠ e) : fset f e c x = f x := if_neg h
theorem k_bkget {f : Str → Str} {a : Addr} (h : H a = some (.dK (bk f))) (he : e ∈ ENT) (q : Q (.str (f e)) H) : RDGet (.ref a) (.str e) H Q := k_rdget h (bk_get he) q
theorem k_bkput {f : Str → Str} {a : Addr} {c : Str} {k : Hp → Prop} (h : H a = some (.dK (bk f))) (he : e ∈ ENT) (q : k (upd H a (.dK (bk (fset f e c))))) : RDPut (.ref a) (.str e) (.str c) H k :=
  k_rdput h (by rw [bk_len]; decide) (bk_put he) q
end
/-- the choices told as the law tells them -/
abbrev CHX : List (Str × Str) := [(("work" : Str), ("drop left short join" : Str)), (("write" : Str), ("raise partly skip stop" : Str)), (("meet" : Str), ("leave raise" : Str)), (("test" : Str), ("ignore raise stop" : Str)), (("partly" : Str), ("pass stop" : Str)), (("value" : Str), ("show blank skip stop" : Str)), (("path" : Str), ("show blank skip stop" : Str))]
def chT (e : Str) : Str := (CHX.lookup e).getD ("forget stick stop" : Str)
theorem ent_all {P : Str → Prop} (h : ∀ e ∈ ENT, P e) : ∀ e ∈ ENT, P e := h
theorem chx_ok : ∀ e ∈ ENT, ((valV (mergeK [] (dS CHX)) (.inr e)).getD (.str ("forget stick stop" : Str)) = .str (chT e) ∧ Txt.split (chT e) (" " : Str) = chs e) ∧ ((chT e).length ≤ 90 ∧ (chs e).length ≤ 4 ∧ 2 ≤ (chs e).length) := by
  intro e he
  simp only [ENT, List.mem_cons, List.not_mem_nil, or_false] at he
  rcases he with rfl | rfl | rfl | rfl | rfl | rfl | rfl | rfl | rfl | rfl <;> exact ⟨⟨by kernel_rfl, by kernel_rfl⟩, by decide +kernel⟩
/-! the top run holds a dict: the one question to the world that it asks, told both ways -/
abbrev wB (w : World) (b : Bool) : World := ⟨w.draws, { w.params with followText := fun r => if r = "special-get-raises" then b else w.params.followText r }⟩
theorem wB_eq (w : World) : wB w (w.params.followText "special-get-raises") = w := by
  have e : (fun r => if r = "special-get-raises" then w.params.followText "special-get-raises" else w.params.followText r) = w.params.followText := by
    funext r
    split
    · rename_i h; rw [h]
    · rfl
  unfold wB
  rw [e]
end L2.MP

set_option Elab.async false
set_option linter.all false
set_option maxRecDepth 100000
/-! MPCut: the head's run, looked at part by part. -/
namespace L2.MP
open PySem PySem.Spec PyProof.Rows
def AllP {α : Type} (P : List α → Prop) : List (List α) → Prop
  | [] => True
  | x :: l => P x ∧ AllP P l
/-- the defs of a part, as they stand -/
abbrev obF (p : List DefM) (K : PySem.W.Frag) : List FnV × Bool := (p.map (fun d => fnAt K (d.adr K)), p.all fun d => d.ok K)
abbrev obX (p : List (PySem.W.Frag → Bool)) (K : PySem.W.Frag) : Bool := p.all fun f => f K
abbrev obT (ts : List He.Tab) (K : PySem.W.Frag) : List (Option (List (Option (Str × Int)))) := ts.map fun t => He.dicW K (t.1 K)
theorem cutF {σ : Type} {s : σ} {KK : σ → PySem.W.Frag} : ∀ {fp : List (List DefM)}, AllP (fun p => (some s).map (fun s => obF p (KK s)) = some (p.map DefM.val, true)) fp → fp.flatten.map (fun d => fnAt (KK s) (d.adr (KK s))) = fp.flatten.map DefM.val ∧ (fp.flatten.all fun d => d.ok (KK s)) = true
  | [], _ => ⟨rfl, rfl⟩
  | p :: l, ⟨h, t⟩ => by
    have q := cutF t
    simp only [Option.map_some, Option.some.injEq, Prod.mk.injEq] at h
    rw [List.flatten_cons, List.map_append, List.map_append, List.all_append, q.1, q.2, h.1, h.2]
    exact ⟨rfl, rfl⟩
theorem cutX {σ : Type} {s : σ} {KK : σ → PySem.W.Frag} : ∀ {xp : List (List (PySem.W.Frag → Bool))}, AllP (fun p => (some s).map (fun s => obX p (KK s)) = some true) xp → (xp.flatten.all fun f => f (KK s)) = true
  | [], _ => rfl
  | p :: l, ⟨h, t⟩ => by
    have q := cutX t
    simp only [Option.map_some, Option.some.injEq] at h
    rw [List.flatten_cons, List.all_append, q, show (p.all fun f => f (KK s)) = true from h]
    rfl
theorem run_join {σ α β : Type} {o : Option σ} {f : σ → α} {g : σ → β} {KK : σ → PySem.W.Frag} {fn : List DefM} {exs : List (PySem.W.Frag → Bool)} {ts : List He.Tab} {w : World} {va : α} {vb : β} (fp : List (List DefM)) (xp : List (List (PySem.W.Frag → Bool)))
    (h0 : o.map (fun s => (f s, g s)) = some (va, vb)) (hF : AllP (fun p => o.map (fun s => obF p (KK s)) = some (p.map DefM.val, true)) fp) (hX : AllP (fun p => o.map (fun s => obX p (KK s)) = some true) xp)
    (hT : o.map (fun s => obT ts (KK s)) = some (ts.map fun t => some (He.keysIn w.params t.2))) (ef : fp.flatten = fn) (ex : xp.flatten = exs) :
    o.map (fun s => (f s, g s, obsM fn (fun K => exs.all fun f => f K) ts (KK s))) = some (va, vb, valM fn ts w) := by
  subst ef ex
  cases o with
  | none => cases h0
  | some s =>
    have q1 := cutF hF
    have q2 := cutX hX
    simp only [Option.map_some, Option.some.injEq, Prod.mk.injEq] at h0 hT ⊢
    refine ⟨h0.1, h0.2, ?_⟩
    unfold obsM valM
    rw [q1.1, q1.2]
    show (_, true && (xp.flatten.all fun f => f (KK s)), obT ts (KK s)) = _
    rw [q2, hT]
    rfl
/-- two looks at once -/
theorem two_looks {σ α β : Type} {o : Option σ} {f : σ → α} {g : σ → β} {a : α} {b : β} (h : o.map (fun s => (f s, g s)) = some (a, b)) : o.map f = some a ∧ o.map g = some b := by
  cases o with
  | none => cases h
  | some s =>
    simp only [Option.map_some, Option.some.injEq, Prod.mk.injEq] at h ⊢
    exact h
/-! ### the fragment by a list of addresses -/
def hookL (l : List Addr) (fn : List DefM) (ex : PySem.W.Frag → Bool) (ts : List He.Tab) : PySem.W.Hook where
  α := AlM
  obs := fun s => obsM fn ex ts (He.frT s.heap.get? l)
  val := fun w => valM fn ts w
  says := fun w h => ∃ K : PySem.W.Frag, K.In h ∧ SaysM fn ex ts w K
  of := fun _ _ e => ⟨_, He.frT_in, ⟨e⟩⟩
  keeps := fun _ _ _ ⟨K, hK, c⟩ k => ⟨K, PySem.W.Frag.In.keeps hK k, c⟩
def obsL (l : List Addr) (fn : List DefM) (ex : PySem.W.Frag → Bool) (ts : List He.Tab) (s : PySem.W.SharedT) : AlM := obsM fn ex ts (He.frT (HandSHeadRun.getT s) l)
theorem obsL_eq (l : List Addr) (fn : List DefM) (ex : PySem.W.Frag → Bool) (ts : List He.Tab) (s : PySem.W.SharedT) : obsL l fn ex ts s = (hookL l fn ex ts).obs s.abs := by
  have e : HandSHeadRun.getT s = s.abs.heap.get? := funext (HandSHeadRun.getT_eq s)
  show obsM fn ex ts (He.frT (HandSHeadRun.getT s) l) = obsM fn ex ts (He.frT s.abs.heap.get? l)
  rw [e]
end L2.MP

set_option Elab.async false
set_option linter.all false
set_option maxRecDepth 100000
set_option maxHeartbeats 4000000
/-! raise X(..) from Y(..): own classes with an own __init__, nothing handled. -/
namespace L2.MP
open PySem PySem.Spec PyProof.Rows
/-- what a raise with a cause leaves of the heap -/
def caused (h : Heap) (a b : Addr) : Heap := (h.update a (Obj.mapFields fun vs => vs.setIfInBounds 3 (.ref b))).update a (Obj.mapFields fun vs => vs.setIfInBounds 4 (.bool true))
abbrev excRec (C : Addr) (d : Option Addr) (t1 : Addr) : Obj := { cls := .ref C, dict := d, data := .fields #[.ref t1, .none, .none, .none, .bool false, .none] }
theorem caused_at {h : Heap} {a b C t1 : Addr} {d : Option Addr} (ha : h.get? a = some (excRec C d t1)) :
    h.get? a = some (excRec C d t1) ∧ (h.update a (Obj.mapFields fun vs => vs.setIfInBounds 3 (.ref b))).get? a = some { cls := .ref C, dict := d, data := .fields #[.ref t1, .none, .none, .ref b, .bool false, .none] } ∧
    (caused h a b).get? a = some { cls := .ref C, dict := d, data := .fields #[.ref t1, .none, .none, .ref b, .bool true, .none] } := by
  have q3 := Heap.get?_update_self (Obj.mapFields fun vs => vs.setIfInBounds 3 (.ref b)) ha (Obj.isFreed_of_fields (vs := #[.ref t1, .none, .none, .ref b, .bool false, .none]) rfl)
  have q4 := Heap.get?_update_self (Obj.mapFields fun vs => vs.setIfInBounds 4 (.bool true)) q3 (Obj.isFreed_of_fields (vs := #[.ref t1, .none, .none, .ref b, .bool true, .none]) rfl)
  exact ⟨ha, q3, q4⟩
theorem caused_ne {h : Heap} {a b x : Addr} (n : a ≠ x) : (caused h a b).get? x = h.get? x := (Heap.get?_update_other _ _ n).trans (Heap.get?_update_other _ _ n)
theorem sz_ofR {n : Nat} (h : n ≤ 1000) : n ≤ sizeLine := Nat.le_trans h (by decide)
theorem raise_fromC {prog : Program} {w : World} {A : Around} {E : Value → Shared → Prop} {env : Env} {s : Shared} {x c : Sem Value} {Q : Flow → Shared → Prop} (hh : A.handled = none)
    (h : wpAny (model prog w) A x (fun v s₁ => wpAny (model prog w) A c (fun v2 s₂ => ∃ (a C t1 b Cb tb : Addr) (d db : Option Addr), v = .ref a ∧ v2 = .ref b ∧ s₂.heap.get? a = some (excRec C d t1) ∧ s₂.heap.get? b = some (excRec Cb db tb) ∧
      PySem.W.Looks (model prog w) s₂.heap (isSubtype (.ref C) (.type "BaseException")) true ∧ PySem.W.Looks (model prog w) s₂.heap (isSubtype (.ref Cb) (.type "BaseException")) true ∧
      PySem.W.Looks (model prog w) (caused s₂.heap a b) (typeOf (.ref C)) (.type "type") ∧ E (.ref a) { s₂ with heap := caused s₂.heap a b }) E s₁) E s) :
    wpAny (model prog w) A (raiseStmt env (some x) (some c)) Q E s := by
  have nt : ∀ {Q' : Bool → Shared → Prop} {u : Shared} {p : Addr} {o : Obj} {vs : Array Value}, u.heap.get? p = some o → o.data = .fields vs → Q' false u → wpAny (model prog w) A (isType (.ref p)) Q' E u := fun {Q' u p o vs} g e q => by
    simp only [isType, loadHead]
    refine wpAny_bind (wpAny_loadPart g ?_)
    rw [e]
    exact wpAny_pure q
  have isI : ∀ {u : Heap} {p C : Addr} {o : Obj}, u.get? p = some o → o.cls = .ref C → PySem.W.Looks (model prog w) u (isSubtype (.ref C) (.type "BaseException")) true → PySem.W.Looks (model prog w) u (isInstance (.ref p) (.type "BaseException")) true := fun {u p C o} g e L => by
    have LT : PySem.W.Looks (model prog w) u (typeOf (.ref p)) (.ref C) := fun A Q E s k q => wpAny_typeOf_ref (k _ _ g) (by rw [e]; exact q)
    exact LT.andThen L
  unfold raiseStmt; dsimp only
  refine wpAny_bind (wpAny_mono h (fun v s₁ h₁ => wpAny_bind (wpAny_holding ?_)) fun _ _ z => z)
  refine wpAny_mono h₁ (fun v2 s₂ h₂ => wpAny_bind (wpAny_pure ?_)) fun _ _ z => z
  obtain ⟨a, C, t1, b, Cb, tb, d, db, rfl, rfl, ha, hb, L1, L2, L3, hE⟩ := h₂
  obtain ⟨_, ha3, ha4⟩ := caused_at (b := b) ha
  dsimp only
  refine wpAny_bind (wpAny_holding ?_); unfold excFromValue isExcClass
  refine wpAny_bind (wpAny_bind (nt ha rfl ?_)); simp only [Bool.false_eq_true, if_false]
  refine wpAny_pure ?_; simp only [Bool.false_eq_true, if_false]
  refine wpAny_bind ((isI ha rfl L1).here ?_); simp only [if_true]
  refine wpAny_pure ?_
  rw [if_neg (show ¬ (Value.ref b == Value.none) = true from by intro z; cases beq_iff_eq.mp z)]
  refine wpAny_bind (wpAny_holding ?_)
  refine wpAny_bind (wpAny_bind (nt hb rfl ?_)); simp only [Bool.false_eq_true, if_false]
  refine wpAny_pure ?_; simp only [Bool.false_eq_true, if_false]
  refine wpAny_bind ((isI hb rfl L2).here ?_); simp only [if_true]
  refine wpAny_pure ?_
  refine wpAny_bind (wpAny_setField ha rfl (show 3 < 6 by decide) (wpAny_bind (wpAny_setField ha3 rfl (show 4 < 6 by decide) ?_)))
  refine wpAny_bind (nt ha4 rfl ?_); simp only [Bool.false_eq_true, if_false]
  have LT4 : PySem.W.Looks (model prog w) (caused s₂.heap a b) (typeOf (.ref a)) (.ref C) := fun A Q E s k q => wpAny_typeOf_ref (k _ _ ha4) q
  unfold raisedInstance
  refine wpAny_bind (wpAny_bind (LT4.here (wpAny_bind (L3.here ?_)))); rw [if_pos (beq_self_eq_true _)]
  refine wpAny_pure ?_; unfold setFlight raiseNew
  refine wpAny_bind (wpAny_bind (wpAny_field ha4 rfl (show _ = some Value.none from rfl) ?_)); rw [if_neg (show ¬ (Value.none != Value.none) = true by decide)]
  refine wpAny_pure (wpAny_bind (wpAny_handled ?_)); rw [hh]
  first | exact wpAny_throw hE | exact wpAny_bind (wpAny_pure (wpAny_throw hE))
/-- an expression that makes an exception of an own class with an own __init__: it is new, and tracked -/
abbrev TX := St → Hp → (Addr → Addr → Addr → List (Str × V) → Hp → Prop) → Prop
def PMkT (X : Cx) (e : Expr) (t : TX) : Prop := ∀ (pins : List (Addr × Obj)) (s : Shared) (σ : St) (H : Hp) (Q : Addr → Addr → Addr → List (Str × V) → Hp → Prop), Inv X pins σ H s → t σ H Q →
  wpAny (model X.prog X.w) X.A (eval e X.env) (fun u s' => ∃ (a C d : Addr) (fs : List (Str × V)) (H' : Hp), u = .ref a ∧ Inv X pins σ H' s' ∧ X.s_0.heap.objs.size ≤ a ∧ a ∉ X.ex ∧ (∀ p ∈ X.pn ++ pins, p.1 ≠ a) ∧ H' a = some (exo a C (some d)) ∧ H' d = some (exd d fs) ∧ Raises X (.ref C) ∧ Q a C d fs H') X.xe s
def tMkT (C : Addr) (sp : Sp) (dvs : List V) (ta : TA) : TX := fun σ H Q => ta σ H fun vs H1 => vs.length ≤ 1000 ∧ ∀ a, H1 a = none → sp (.ref a :: (vs ++ dvs)) (upd H1 a (exo a C none))
  (fun v H2 => v = .non ∧ ∃ (d : Addr) (fs : List (Str × V)), H2 a = some (exo a C (some d)) ∧ H2 d = some (exd d fs) ∧ Q a C d fs H2) (fun _ _ _ => False)
section
variable {X : Cx} {es : List Expr} {e c : Expr} {ta : TA} {p pos : Pos}
theorem pmk_T {CX : CXT} {x : Str} {C fI : Addr} {k : Nat} {fd : FuncData} {ps : List Str} {sp : Sp} {ds : List Value} {dvs : List V} (T : OexC X.K C) (iC : PySem.W.findIn X.K (.ref C) "__init__" = some (some (.ref fI))) (tI : PySem.W.typeIn X.K (.ref fI) = some (.type "function"))
    (F1 : FnOk X.prog X.w X.K X.mg X.base CX k fI fd ps sp) (hr : Room (k + 1) X.A) (hb : Binds X.K fd ps ds) (hd : Vals dvs ds) (hx : Passes CX X (fun _ _ _ => False)) (hex : X.ex = []) (hg : Gl X x) (hm : X.mg x = some (.ref C)) (ha : PA X (e :: es) ta)
    (hdb : (x == ("__debug__" : Str)) = false := by decide) (hse : starEach (e :: es) X.env = (false, eval e X.env) :: starEach es X.env := by rfl) (hpl : (backTo pos (starEach es X.env)).any (·.1) = false := by rfl) :
    PMkT X (.Call (.Name x p) (e :: es) [] pos) (tMkT C sp dvs ta) := by
  intro pins s σ H Q I h
  have T' := T
  obtain ⟨nm, q, N, bs, bm, sn, sub, ab, col, dd, k0, k1, k2, k3, k5, hC, hbm⟩ := T.cls
  refine wpAny_Call_Name_kw (ld_glob I hg hm (PySem.W.callWith_K (h₀ := X.base) I.ok.mod.kin T.kC (thn (ha.run pos pins s σ H _ I h) ?_) hse hpl) hdb)
  rintro us ⟨hp, g, dr, tk, os⟩ ⟨vs, H1, I1, r1, hz, q1⟩
  refine ⟨I1.kIn, ?_⟩
  have hq := q1 (hp.objs.size + 1) (I1.hok.fresh (Nat.le_succ _))
  have hget : ((hp.push (PySem.W.kdv_tup us)).push (PySem.HandSPX.excO C hp.objs.size)).get? (hp.objs.size + 1) = some (PySem.HandSPX.excO C hp.objs.size) := by heap_get
  have I2 := I1.laid (t' := tk) (a := hp.objs.size + 1) (o := exo (hp.objs.size + 1) C none) (h' := (hp.push (PySem.W.kdv_tup us)).push (PySem.HandSPX.excO C hp.objs.size)) (fun b o ob => Heap.get?_push_of_some _ (Heap.get?_push_of_some _ ob)) (Nat.le_succ _) (exo_ok hget)
  have r2 : Vals (V.ref (hp.objs.size + 1) :: (vs ++ dvs)) (Value.ref (hp.objs.size + 1) :: (us ++ ds)) := .cons rfl (r1.append hd)
  have hl : (Value.ref (hp.objs.size + 1) :: us ++ ds).length = ps.length := r2.length.symm.trans (F1.len _ _ _ _ hq)
  have hus : us.length ≤ sizeLine := by rw [← r1.length]; exact sz_ofR hz
  refine wpAny_call (PySem.HandSPX.call_own F.excBase_ValueError (fun Y => PySem.HandSPX.refsVE_contains Y bm hbm) (I1.kIn _ _ hC) (PySem.W.looks_findIn I1.kIn iC) (fun self => PySem.W.bind_fn I1.kIn self tI) hus ?_)
  refine codeAny_mono (F1.run _ X.stack _ _ ⟨Value.ref (hp.objs.size + 1) :: us, []⟩ (Value.ref (hp.objs.size + 1) :: (us ++ ds)) _ _ (fun _ _ _ => False) (hr.make C us []) (I2.env0.make C us []) (hb _ (Value.ref (hp.objs.size + 1) :: us) I2.kIn hl) r2 hq) fun r s' hq' => ?_
  rcases r with er | fl
  · exact hx pins σ _ _ er s' I2 hq'
  · cases fl with
    | ret u =>
      obtain ⟨v, H', I3, rv, ev, d, fs, ea, ed, q3⟩ := I2.after hq'
      subst ev
      refine ⟨rv, hp.objs.size + 1, C, d, fs, H', rfl, I3, Nat.le_trans I1.sz (Nat.le_succ _), by rw [hex]; simp, fun p hp' z => ?_, ea, ed, raises_own T'.exC T'.tyC, q3⟩
      have := (I1.pin p hp').1
      exact absurd (Heap.lt_size this) (by rw [z]; exact Nat.not_lt.mpr (Nat.le_succ _))
    | _ => exact hq'.elim
end
theorem exd_frz {e : Addr} {fs : List (Str × V)} {o : Obj} {u : HO} : exd e fs ≠ .frz o u := fun z => by have z' : HO.ext _ = HO.frz o u := z; cases z'
theorem exd_tbl {e : Addr} {fs : List (Str × V)} {ps : Array Value} : exd e fs ≠ .tbl ps := fun z => by have z' : HO.ext _ = HO.tbl ps := z; cases z'
section
variable {X : Cx} {pins : List (Addr × Obj)} {σ : St} {H : Hp} {s : Shared} {a C d : Addr} {fs : List (Str × V)}
/-- a new exception is let go -/
theorem letgo (I : Inv X pins σ H s) (ea : H a = some (exo a C (some d))) (ed : H d = some (exd d fs)) (hn : X.s_0.heap.objs.size ≤ a) (hp : ∀ p ∈ X.pn ++ pins, p.1 ≠ a) :
    ∃ G : Heap, Inv X pins σ (upd (del H a) d (.xd fs)) { s with heap := G } ∧ (∀ b, b ≠ a → G.get? b = s.heap.get? b) ∧ G.get? a = none := by
  obtain ⟨G, q1, q2⟩ := restrict s.heap fun b => decide (b ≠ a)
  have gk : ∀ b, b ≠ a → G.get? b = s.heap.get? b := fun b hb => q1 b (decide_eq_true hb)
  have ga : G.get? a = none := q2 a (by simp)
  obtain ⟨t0, hoe⟩ := exo_at I.hok ea
  obtain ⟨mA, hns, rel⟩ := exd_at I.hok ed
  have na : ∀ {b : Addr}, H b = none → b ≠ a := fun {b} z e => by rw [e, ea] at z; cases z
  have nd : ∀ {b : Addr}, H b = none → b ≠ d := fun {b} z e => by rw [e, ed] at z; cases z
  have hda : d ≠ a := fun z => by
    obtain ⟨o, es, ep, e1, e2, _⟩ := hns
    rw [z, hoe] at e1
    cases Option.some.inj e1
    cases e2
  have no : ∀ {b : Addr} {o : Obj}, X.s_0.heap.get? b = some o → b ≠ a := fun z => Nat.ne_of_lt (Nat.lt_of_lt_of_le (Heap.lt_size z) hn)
  have gn : ∀ {b : Addr}, H b = none → upd (del H a) d (.xd fs) b = none := fun {b} z => by rw [upd_ne (nd z), del_ne (na z)]; exact z
  have cell : ∀ {x : Str} {c : Addr} {v : Option Value}, X.env.cells.lookup x = some c → s.heap.IsCell c v → G.IsCell c v := fun {x c v} e z => by
    obtain ⟨o, ho, hd⟩ := z
    exact ⟨o, (gk c (na (I.freeC x c e))).trans ho, hd⟩
  refine ⟨G, ⟨I.ok, I.os, I.bare, ⟨fun b o e n hb hx => (gk b (no e)).trans (I.base.keep b o e n hb hx), fun b o e n hb hx => ?_, fun b o e n hx => gn (I.base.free b o e n hx), fun b o e hx => ?_, fun b xs e => ?_, fun b o u e => ?_, fun b ps e => ?_⟩, ?_, fun x c e => ?_, gn I.free, fun x c e => gn (I.freeC x c e), fun p h => ?_, fun b o z => ?_, I.len⟩, gk, ga⟩
  · obtain ⟨sl, z⟩ := I.base.slot b o e n hb hx
    exact ⟨sl, (gk b (no e)).trans z⟩
  · obtain ⟨o', z⟩ := I.base.there b o e hx
    exact ⟨o', (gk b (no e)).trans z⟩
  · have z := I.base.tups b xs e
    rw [upd_ne (at_ne ed z exd_tup), del_ne (at_ne ea z exo_tup)]
    exact z
  · have z := I.base.frzs b o u e
    rw [upd_ne (at_ne ed z exd_frz), del_ne (at_ne ea z exo_frz)]
    exact z
  · obtain ⟨m, z⟩ := I.base.tbls b ps e
    exact ⟨m, by rw [upd_ne (at_ne ed z exd_tbl), del_ne (at_ne ea z exo_tbl)]; exact z⟩
  · obtain ⟨m, ⟨o, es, ep, ho, r⟩, hl⟩ := I.loc
    refine ⟨m, ⟨o, es, ep, (gk _ (na I.free)).trans ho, r⟩, fun i x v e1 e2 e3 => ?_⟩
    obtain ⟨u, ru, lk⟩ := hl i x v e1 e2 e3
    refine ⟨u, ru, lk.imp id fun ⟨k, c, ec, z⟩ => ⟨k, c, ec, cell ec z⟩⟩
  · obtain ⟨v, z⟩ := I.cell x c e
    exact ⟨v, cell e z⟩
  · obtain ⟨e1, n1, l1, f1, c1⟩ := I.pin p h
    exact ⟨(gk _ (hp p h)).trans e1, gn n1, l1, f1, c1⟩
  · by_cases hbd : b = d
    · subst hbd
      rw [upd_same] at z
      cases z
      exact ⟨mA, hns.at fun o y => (gk b hda).trans y, rel⟩
    · rw [upd_ne hbd] at z
      have hba : b ≠ a := fun e => by rw [e, del_same] at z; cases z
      rw [del_ne hba] at z
      have key : ∀ c, c = b ∨ H c = some (.own b) → c ≠ a := fun c hc => hc.elim (fun e => by rw [e]; exact hba) fun e => at_ne ea e exo_own
      refine (I.hok b o z).stay (fun c v hc y => (gk c (key c hc)).trans y) (fun c hc => ?_) fun c xs hc => ?_
      · rw [upd_ne (at_ne ed hc exd_own), del_ne (at_ne ea hc exo_own)]
        exact hc
      · rw [upd_ne (at_ne ed hc exd_tup), del_ne (at_ne ea hc exo_tup)]
        exact hc
end
section
variable {X : Cx} {W : WX} {e c : Expr} {t u : TX} {pos : Pos}
def tRaiseF (W : WX) (t u : TX) : TS := fun _ σ H => t σ H fun a C d fs H1 => u σ H1 fun _ _ _ _ H2 => H2 a = some (exo a C (some d)) ∧ H2 d = some (exd d fs) ∧ W (.ref C) (some d) σ (upd (del H2 a) d (.xd fs))
theorem ps_raiseFrom (hc : X.calm = true) (tk : Takes X W) (he : PMkT X e t) (hu : PMkT X c u) : PS X (.Raise (some e) (some c) pos) (tRaiseF W t u) := by
  refine ⟨fun pins s σ H D I h => ?_⟩
  show wpAny _ _ (do standAt pos; raiseStmt X.env (some (do let v ← eval e X.env; standAt pos; pure v)) (some (do let v ← eval c X.env; standAt pos; pure v))) _ _ _
  refine wpAny_bind (wpAny_standAt (raise_fromC (I.ok.hd hc) (wpAny_bind (thn (he pins s σ H _ I h) fun v s1 hv => wpAny_bind (wpAny_standAt (wpAny_pure ?_))))))
  obtain ⟨a, C, d, fs, H1, rfl, I1, ha, hax, hap, ea, ed, ra, q1⟩ := hv
  refine wpAny_bind (thn (hu pins s1 σ H1 _ I1 q1) fun v2 s2 hv2 => wpAny_bind (wpAny_standAt (wpAny_pure ?_)))
  obtain ⟨b, C', d', fs', H2, rfl, I2, hb, hbx, hbp, eb, ed', rb, ea2, ed2, w⟩ := hv2
  obtain ⟨t1, oa⟩ := exo_at I2.hok ea2
  obtain ⟨tb, ob⟩ := exo_at I2.hok eb
  obtain ⟨G, J, gk, ga⟩ := letgo I2 ea2 ed2 ha hap
  have k3 : ∀ x o, G.get? x = some o → (caused s2.heap a b).get? x = some o := fun x o z => by
    have n : x ≠ a := fun e => by rw [e, ga] at z; cases z
    rw [caused_ne (Ne.symm n), ← gk x n]
    exact z
  obtain ⟨_, _, oa4⟩ := caused_at (b := b) oa
  refine ⟨a, C, t1, b, C', tb, some d, some d', rfl, rfl, oa, ob, (ra _ s2.heap I2.kIn).1, (rb _ s2.heap I2.kIn).1, (ra _ _ (J.kIn.keeps k3)).2, tk _ _ (XE.new (s' := { s2 with heap := caused s2.heap a b }) J k3 ga oa4 ⟨rfl, rfl⟩ rfl rfl ?_ rfl I2.bare w)⟩
  have hda : d ≠ a := fun z => by
    rw [z, ea2] at ed2
    obtain ⟨mA, ⟨o, es, ep, e1, e2, _⟩, _⟩ := exd_at I2.hok (show H2 d = some (exd d fs) by rw [z, ea2]; exact ed2)
    rw [z, oa] at e1
    cases Option.some.inj e1
    cases e2
  rw [upd_ne (Ne.symm hda), del_same]
end
/-! the facts of such a class -/
def oexO (C : Addr) : Option Obj → Bool
  | some ⟨.type ty, _, .cls cd, sl⟩ => decide (ty = "type") && (match cd.mro, sl.toList with
    | .ref C' :: bm, [_, _, _, _, some (.builtin n), _] => decide (C' = C) && (decide (n = "ValueError.__new__") && (!cd.hasDel && (cd.hasDict && PySem.HandSPX.refsVE bm)))
    | _, _ => false)
  | _ => false
def oexB (x : Str) (K : PySem.W.Frag) : Bool := oexO (He.ga K x) (K.lookup (He.ga K x)) && (He.eqO (PySem.W.findIn K (.ref (He.ga K x)) "__setattr__") (some (some (.builtin "object.__setattr__"))) &&
  (decide (PySem.W.subIn K (.ref (He.ga K x)) (.type "BaseException") = some true) && (decide (PySem.W.typeIn K (.ref (He.ga K x)) = some (.type "type")) && PySem.W.keepIn K (.ref (He.ga K x)))))
theorem oexO_ok {C : Addr} {o : Option Obj} (h : oexO C o = true) : ∃ nm q N bs bm sn sub ab col dd k0 k1 k2 k3 k5, o = some (excClassObj nm q C N bs bm true sn sub ab col dd k0 k1 k2 k3 k5 "ValueError.__new__") ∧ PySem.HandSPX.refsVE bm = true := by
  unfold oexO at h
  split at h
  · rename_i ty dd cd sl
    obtain ⟨h1, h2⟩ := He.ba h
    have hty := of_decide_eq_true h1
    subst hty
    split at h2
    · rename_i C' bm k0 k1 k2 k3 n k5 hm hs
      obtain ⟨q1, q⟩ := He.ba h2
      obtain ⟨q2, q⟩ := He.ba q
      obtain ⟨q3, q⟩ := He.ba q
      obtain ⟨q4, q5⟩ := He.ba q
      have e1 := of_decide_eq_true q1
      have e2 := of_decide_eq_true q2
      subst e1 e2
      rcases cd with ⟨nm, bs, mro, ns, qn, hd, sn, sub, ab, col, del⟩
      dsimp only at hm q3 q4
      subst hm q4
      cases del
      · obtain ⟨l⟩ := sl
        have hs' : l = [k0, k1, k2, k3, some (.builtin "ValueError.__new__"), k5] := hs
        subst hs'
        exact ⟨nm, qn, ns, bs, bm, sn, sub, ab, col, dd, k0, k1, k2, k3, k5, rfl, q5⟩
      · cases q3
    · cases h2
  · cases h
theorem oexB_ok {x : Str} {K : PySem.W.Frag} (h : oexB x K = true) : OexC K (He.ga K x) := by
  obtain ⟨h1, h⟩ := He.ba h
  obtain ⟨h2, h⟩ := He.ba h
  obtain ⟨h3, h⟩ := He.ba h
  obtain ⟨h4, h5⟩ := He.ba h
  exact ⟨oexO_ok h1, He.eqO_ok h2, of_decide_eq_true h3, of_decide_eq_true h4, h5⟩
end L2.MP
namespace L2.MP
open PySem PySem.Spec PyProof.Rows
section
variable {K : PySem.W.Frag} {σ : St} {H : Hp} {D : Ends} {C a d : Addr} {sp : Sp} {dvs vs : List V} {ta : TA} {t u : TX} {W : WX} {fs : List (Str × V)}
def RMkT (C : Addr) (sp : Sp) (dvs vs : List V) (H1 : Hp) (Q : Addr → Addr → Addr → List (Str × V) → Hp → Prop) : Prop := vs.length ≤ 1000 ∧ ∀ a, H1 a = none → sp (.ref a :: (vs ++ dvs)) (upd H1 a (exo a C none))
  (fun v H2 => v = .non ∧ ∃ (d : Addr) (fs : List (Str × V)), H2 a = some (exo a C (some d)) ∧ H2 d = some (exd d fs) ∧ Q a C d fs H2) (fun _ _ _ => False)
theorem k_mkT {Q : Addr → Addr → Addr → List (Str × V) → Hp → Prop} (h : ta σ H fun vs H1 => RMkT C sp dvs vs H1 Q) : tMkT C sp dvs ta σ H Q := h
def RF2 (W : WX) (σ : St) (a C d : Addr) (fs : List (Str × V)) (H2 : Hp) : Prop := H2 a = some (exo a C (some d)) ∧ H2 d = some (exd d fs) ∧ W (.ref C) (some d) σ (upd (del H2 a) d (.xd fs))
theorem k_raiseF (h : t σ H fun a C d fs H1 => u σ H1 fun _ _ _ _ H2 => RF2 W σ a C d fs H2) : tRaiseF W t u D σ H := h
/-- the wish of an except clause -/
theorem k_wAs {c cls : Value} {i : Nat} {ts : Addr → Value → Option Addr → TS} {Wout : WX} {d : Option Addr} {n b ct : St → Hp → Prop} {r : VK} (hx : PySem.W.exmOne K cls c = some true)
    (q : ∀ a, H a = none → ts a cls d ⟨fun σ' H' => n (σ'.set i none) H', r, fun σ' H' => b (σ'.set i none) H', fun σ' H' => ct (σ'.set i none) H'⟩ (σ.set i (some (.ref a))) H) : wAs K c i ts Wout ⟨n, r, b, ct⟩ cls d σ H := ⟨true, hx, fun _ => q, fun z => nomatch z⟩
/-- n.f of the caught one -/
def RXf (a : Addr) (cls : Value) (d : Option Addr) (C : Addr) (f : Str) (x : V) (H1 : Hp) (Q : VK) : Prop := x = .ref a ∧ cls = .ref C ∧ ∃ (dd : Addr) (fs : List (Str × V)) (v : V), d = some dd ∧ H1 dd = some (.xd fs) ∧ fs.lookup f = some v ∧ Q v H1
theorem k_xf {te : TE} {f : Str} {cls : Value} {dd : Option Addr} {Q : VK} (h : te σ H fun x H1 => RXf a cls dd C f x H1 Q) : tXf a cls dd C f te σ H Q := h
theorem k_rxf {f : Str} {dd : Addr} {v : V} {Q : VK} (h : H dd = some (.xd fs)) (l : fs.lookup f = some v) (q : Q v H) : RXf a (.ref C) (some dd) C f (.ref a) H Q := ⟨rfl, rfl, dd, fs, v, rfl, h, l, q⟩
theorem k_rxf1 {f : Str} {dd : Addr} {v : V} {Q : VK} (h : H dd = some (.xd [(f, v)])) (q : Q v H) : RXf a (.ref C) (some dd) C f (.ref a) H Q := k_rxf h (by rw [List.lookup_cons, beq_self_eq_true]) q
theorem k_mk1 {f : Str} {v : V} {Q : Addr → Addr → Addr → List (Str × V) → Hp → Prop}
    (hsp : ∀ (a : Addr) (H1 : Hp) (Q' : VK), H1 a = some (exo a C none) → (∀ d, H1 d = none → d ≠ a → Q' .non (upd (upd H1 d (exd d [(f, v)])) a (exo a C (some d)))) → sp [.ref a, v] H1 Q' (fun _ _ _ => False))
    (q : ∀ a d H', H a = none → Ex H H' → H' a = some (exo a C (some d)) → H' d = some (exd d [(f, v)]) → H d = none → Q a C d [(f, v)] H') : RMkT C sp [] [v] H Q := by
  refine ⟨Nat.le_of_ble_eq_true rfl, fun a ha => hsp a _ _ upd_same fun d hd hn => ⟨rfl, d, _, upd_same, by rw [upd_ne hn, upd_same], q a d _ ha ?_ upd_same (by rw [upd_ne hn, upd_same]) (up_none hd)⟩⟩
  exact Ex.new' (Ex.new' (Ex.new ha) (up_none hd)) ha
theorem k_rf2 (ha : H a = some (exo a C (some d))) (hd : H d = some (exd d fs)) (q : ∀ H', (∀ x o, x ≠ a → x ≠ d → H x = some o → H' x = some o) → H' d = some (.xd fs) → W (.ref C) (some d) σ H') : RF2 W σ a C d fs H :=
  ⟨ha, hd, q _ (fun x o h1 h2 h => by rw [upd_ne h2, del_ne h1]; exact h) upd_same⟩
end
end L2.MP

set_option Elab.async false
set_option linter.all false
set_option maxRecDepth 100000
set_option maxHeartbeats 4000000
/-! isinstance of a caught exception that has a dict of its own. -/
namespace L2.MP
open PySem PySem.W PySem.Spec PySem.Calls PyProof.Rows
section
variable {prog : Program} {w : World} {A : Around} {E : Value → Shared → Prop} {s : Shared} {K : Frag} {x D : Addr} {ox : Obj} {od : Option Obj}
theorem found_class (T : ExcC K D) : findObj K D od "__class__" = some (.bind (.builtin "getset_descriptor.__get__") (.builtin "object.__class__")) := by
  obtain ⟨cd, hc, _⟩ := any_some T.hd
  unfold findObj; rw [hc, Option.bind_some, T.ha, Option.bind_some]; simp [T.hn, T.ht]
theorem class_of_exc (T : ExcC K D) {Q : Option Value → Shared → Prop} (X : K.In s.heap) (I : InstAt s.heap x ox D od) (q : Q (some (.ref D)) { s with toks := s.toks + 1 }) : wpAny (model prog w) A (getAttr? (.ref x) "__class__") Q E s := by
  obtain ⟨hp, gs, dr, tk, os⟩ := s
  have T0 := I.type (M := model prog w)
  have F1 := looks_findIn (M := model prog w) X T.hg
  have F2 := looks_findIn (M := model prog w) X T.hk
  have F3 := looks_find (M := model prog w) X I (found_class (od := od) T)
  have isx : Looks (model prog w) hp (isInstance (.ref x) (.type "BaseException")) true := T0.andThen (looks_subIn X T.hs)
  have n2 : (Value.builtin "BaseException.__getattribute__" == Value.builtin "object.__getattribute__") = false := by decide +kernel
  unfold getAttr? getAttrBy? getAttrBy; refine wpAny_bind (wpAny_mkText (wpAny_bind (wpAny_attempt (wpAny_holding (wpAny_bind (T0.at (wpAny_bind (F1.at ?_))))))))
  show wpAny _ _ (if (onTheHeap (Value.ref D) && Value.builtin "BaseException.__getattribute__" == Value.builtin "object.__getattribute__") = true then _ else _) _ _ _
  rw [show (onTheHeap (Value.ref D) && Value.builtin "BaseException.__getattribute__" == Value.builtin "object.__getattribute__") = false by rw [n2]; rfl, if_neg Bool.false_ne_true]
  unfold getAttrByItsOwn hookBefore; refine wpAny_bind ?_; rw [if_pos (show onTheHeap (Value.ref D) = true from rfl)]
  refine F2.at (wpAny_bind (wpAny_attempt (wpAny_holding ?_))); unfold callGetattribute
  rw [show (false && onTheHeap (Value.builtin "BaseException.__getattribute__")) = false from rfl, if_neg Bool.false_ne_true]; unfold boundAndCalled
  rw [PySem.F.excAttr_ValueError.ga.bind (.ref x)]; refine wpAny_bind (wpAny_pure ?_)
  show wpAny _ _ (call (.builtin "BaseException.__getattribute__") [.ref x, .str "__class__" tk]) _ _ _
  refine wpAny_call (codeAny_call_builtin PySem.F.excAttr_ValueError.ga.plain PySem.F.entry_bexc_ga (@check_slot (model prog w) _ _ ⟨hp, gs, dr, tk + 1, os⟩ "BaseException.__getattribute__" "BaseException" "__getattribute__" (.ref x) [.str "__class__" tk] [] _ (by decide +kernel) (by decide +kernel) isx (PySem.F.args_bexc_ga (.ref x) (.str "__class__" tk)) ?_))
  unfold Builtin.«object.__getattribute__»; refine wpAny_bind (wpAny_of_eq (a := ((Value.ref x : Value), [Value.str "__class__" tk])) (by first | rfl | (simp only [slotArgs]; rfl)) ?_)
  refine wpAny_bind (wpAny_pure (wpAny_bind (T0.at (wpAny_bind (F3.at ?_)))))
  show wpAny _ _ (holding [Value.builtin "object.__class__"] (call (.builtin "getset_descriptor.__get__") [.builtin "object.__class__", .ref x, .ref D]) >>= ret) _ _ _
  refine wpAny_bind (wpAny_holding (wpAny_call (class_get (s := ⟨hp, gs, dr, tk + 1, os⟩) (ox := ox) (od := od) X I T.hm (wpAny_pure ?_))))
  show wpAny _ _ (handedOut (.ref D)) _ _ _; rw [handedOut_of (v := .ref D) rfl]
  first | exact wpAny_pure (wpAny_pure q) | exact wpAny_pure q | exact wpAny_pure (wpAny_bind (wpAny_pure (wpAny_pure q)))
theorem kitx_of_exc (T : ExcC K D) : KitX K (.ref x) (.ref D) (fun h => ∃ od, InstAt h x ox D od) where
  ty := fun _ _ _ ⟨_, I⟩ => I.type
  it := fun _ _ X _ => by
    obtain ⟨cd, hc, _⟩ := any_some T.hd
    unfold clsIn at hc; split at hc
    · rename_i c' d' cd' sl' ho
      intro A' Q' E' s' k q
      unfold isType loadHead; exact wpAny_bind (wpAny_loadPart (k _ _ (X _ _ ho)) (wpAny_pure q))
    · cases hc
  ne := fun h tp dd its n sl X htp => by
    obtain ⟨cd, hc, _⟩ := any_some T.hd
    refine Bool.eq_false_iff.mpr fun q => ?_
    cases Value.ref.inj (beq_iff_eq.mp q)
    unfold clsIn at hc; split at hc
    · rename_i c' d' cd' sl' ho
      cases (X _ _ ho).symm.trans htp
    · cases hc
  ca := fun X ⟨od, I⟩ k => class_of_exc T X I k
end
end L2.MP
namespace L2.MP
open PySem PySem.Spec PyProof.Rows
/-- isinstance(e, c): e the exception that the suite holds, its dict tracked as an exception's -/
def rIsED (K : PySem.W.Frag) (D a dd : Addr) : List V → Hp → VK → Prop := fun xs H Q => ∃ (c : V) (cv : Value) (b : Bool) (fs : List (Str × V)), xs = [.ref a, c] ∧ (∀ u, RelV c u → u = cv) ∧ H dd = some (.xd fs) ∧ PySem.W.kitOne K (.ref D) cv = some b ∧ Q (.bl b) H
theorem call_isED {X : Cx} {a D dd : Addr} {oe : Obj} {pn : List (Addr × Obj)} (C : ExcC X.K D) (hz : Zc (.ref D) (some dd) oe) (hf : ∃ vs, oe.data = .fields vs) : CallR (X.suite a ((a, oe) :: pn)) (.builtin "isinstance") (rIsED X.K D a dd) := by
  intro pins s σ H xs us Q I r h
  obtain ⟨c, cv, b, fs, rfl, hcv, hd, e, q⟩ := h
  rcases r with _ | ⟨rx, _ | ⟨rt, _ | _⟩⟩
  cases rx
  cases hcv _ rt
  obtain ⟨hget, _⟩ := I.pin (a, oe) (List.mem_append.mpr (.inl List.mem_cons_self))
  obtain ⟨vs, hv⟩ := hf
  have hx : ObjOk X.prog X.w H s.heap dd (.xd fs) := I.hok dd _ hd
  obtain ⟨mA, ⟨o, es, ep, ho, _⟩, _⟩ := hx
  have J : ∃ od, PySem.W.InstAt s.heap a oe D od := ⟨some o, hget, hz.1, by unfold PySem.W.notCls; rw [hv] <;> rfl, by rw [hz.2]; exact ho⟩
  exact PySem.W.kia_one (kitx_of_exc C) I.kIn J e (fun z => nomatch z) fun tk => ⟨.bl b, H, I.kept (t' := tk) fun _ _ z => z, rfl, q⟩
/-- of whatever class and dict the suite's exception is; with a class or a tuple of classes -/
def rIsX (K : PySem.W.Frag) (a : Addr) (cls : Value) (d : Option Addr) (D : Addr) : List V → Hp → VK → Prop := fun xs H Q => cls = .ref D ∧ (d = none ∨ ∃ dd fs, d = some dd ∧ H dd = some (.xd fs)) ∧
  ((∃ (c : V) (cv : Value) (b : Bool), xs = [.ref a, c] ∧ ClsV c cv ∧ PySem.W.kitOne K (.ref D) cv = some b ∧ Q (.bl b) H) ∨ ∃ (tp : Addr) (cs : List V) (ws : List Value) (b : Bool), xs = [.ref a, .ref tp] ∧ H tp = some (.tup cs) ∧ Paired ClsV cs ws ∧ PySem.W.kitAny K (.ref D) ws = some b ∧ Q (.bl b) H)
theorem call_isX {X : Cx} {a D : Addr} {cls : Value} {d : Option Addr} {oe : Obj} {pn : List (Addr × Obj)} (C : ExcC X.K D) (hz : Zc cls d oe) (hf : ∃ vs, oe.data = .fields vs) : CallR (X.suite a ((a, oe) :: pn)) (.builtin "isinstance") (rIsX X.K a cls d D) := by
  rintro pins s σ H xs us Q I r ⟨rfl, hd, h⟩
  obtain ⟨hget, _⟩ := I.pin (a, oe) (List.mem_append.mpr (.inl List.mem_cons_self))
  obtain ⟨vs, hv⟩ := hf
  have nc : PySem.W.notCls oe = true := by unfold PySem.W.notCls; rw [hv] <;> rfl
  have J : ∃ od, PySem.W.InstAt s.heap a oe D od := by
    rcases hd with rfl | ⟨dd, fs, rfl, hd⟩
    · exact ⟨none, hget, hz.1, nc, by rw [hz.2]; trivial⟩
    · have hx : ObjOk X.prog X.w H s.heap dd (.xd fs) := I.hok dd _ hd
      obtain ⟨mA, ⟨o, es, ep, ho, _⟩, _⟩ := hx
      exact ⟨some o, hget, hz.1, nc, by rw [hz.2]; exact ho⟩
  rcases h with ⟨c, cv, b, rfl, hcv, e, q⟩ | ⟨tp, cs, ws, b, rfl, hT, hcs, e, q⟩
  · rcases r with _ | ⟨rx, _ | ⟨rt, _ | _⟩⟩
    cases rx
    cases hcv.eq rt
    exact PySem.W.kia_one (kitx_of_exc C) I.kIn J e (fun z => nomatch z) fun tk => ⟨.bl b, H, I.tok tk, rfl, q⟩
  · rcases r with _ | ⟨rx, _ | ⟨rt, _ | _⟩⟩
    cases rx
    cases rt
    obtain ⟨_, its, rv, o, h1, h2, n, h3⟩ := (show ObjOk X.prog X.w H s.heap tp (.tup cs) from I.hok tp _ hT)
    cases ClsV.all hcs rv
    rcases o with ⟨oc, od, dt, sl⟩
    dsimp only at h2 h3
    subst h2 h3
    exact PySem.W.kia_tup (kitx_of_exc C) I.kIn J h1 e (fun z => nomatch z) fun tk => ⟨.bl b, H, I.tok tk, rfl, q⟩
section
variable {K : PySem.W.Frag} {H : Hp} {Q : VK} {a D E : Addr} {d : Option Addr} {b : Bool} {S : String} {cs : List V} {ws : List Value} {tp : Addr}
/-- what is known of the exception's dict -/
class XdC (H : Hp) (d : Option Addr) : Prop where
  ok : d = none ∨ ∃ dd fs, d = some dd ∧ H dd = some (.xd fs)
instance : XdC H none := ⟨.inl rfl⟩
theorem i_excC (hd : d = none ∨ ∃ dd fs, d = some dd ∧ H dd = some (.xd fs)) (c : Kit K (.ref D) (.ref E) b) (q : Q (.bl b) H) : rIsX K a (.ref D) d D [.ref a, .ref E] H Q := ⟨rfl, hd, .inl ⟨_, _, b, rfl, .own E, c.eq, q⟩⟩
theorem i_excT (hd : d = none ∨ ∃ dd fs, d = some dd ∧ H dd = some (.xd fs)) (c : Kit K (.ref D) (.type S) b) (q : Q (.bl b) H) : rIsX K a (.ref D) d D [.ref a, .ty S] H Q := ⟨rfl, hd, .inl ⟨_, _, b, rfl, .ty S, c.eq, q⟩⟩
class PairC (cs : List V) (ws : outParam (List Value)) : Prop where
  eq : Paired ClsV cs ws
instance : PairC [] [] := ⟨.nil⟩
instance {C : Addr} [c : PairC cs ws] : PairC (.ref C :: cs) (.ref C :: ws) := ⟨.cons (.own C) c.eq⟩
class KitA (K : PySem.W.Frag) (t : Value) (ws : List Value) (b : outParam Bool) : Prop where
  eq : PySem.W.kitAny K t ws = some b
instance {t : Value} : KitA K t [] false := ⟨rfl⟩
instance {t c : Value} [k : Kit K t c false] [r : KitA K t ws b] : KitA K t (c :: ws) b := ⟨kitAny_cons k.eq (fun _ => r.eq) (fun z => nomatch z)⟩
theorem i_excA (hd : d = none ∨ ∃ dd fs, d = some dd ∧ H dd = some (.xd fs)) (h : H tp = some (.tup cs)) (p : PairC cs ws) (c : KitA K (.ref D) ws b) (q : Q (.bl b) H) : rIsX K a (.ref D) d D [.ref a, .ref tp] H Q := ⟨rfl, hd, .inr ⟨tp, cs, ws, b, rfl, h, p.eq, c.eq, q⟩⟩
end
def excCB (x : Str) (K : PySem.W.Frag) : Bool := decide (PySem.W.findIn K (.ref (He.ga K x)) "__getattribute__" = some (some (.builtin "BaseException.__getattribute__"))) && (decide (PySem.W.findIn K (.ref (He.ga K x)) "__getattr__" = some none) && (decide (PySem.W.subIn K (.ref (He.ga K x)) (.type "BaseException") = some true) &&
  (PySem.W.hasDictIn K (He.ga K x) && (decide (PySem.W.findIn K (.ref (He.ga K x)) "__class__" = some (some (.builtin "object.__class__"))) && (decide (PySem.W.specialIn K (.builtin "object.__class__") "__get__" = some (some (.builtin "getset_descriptor.__get__"))) && (decide (PySem.W.takesIn K (.builtin "object.__class__") = some true) &&
    decide (PySem.W.mroIn K (He.ga K x) (.type "object") = some true)))))))
theorem excCB_ok {x : Str} {K : PySem.W.Frag} (h : excCB x K = true) : ExcC K (He.ga K x) := by
  obtain ⟨h1, h⟩ := He.ba h
  obtain ⟨h2, h⟩ := He.ba h
  obtain ⟨h3, h⟩ := He.ba h
  obtain ⟨h4, h⟩ := He.ba h
  obtain ⟨h5, h⟩ := He.ba h
  obtain ⟨h6, h⟩ := He.ba h
  obtain ⟨h7, h8⟩ := He.ba h
  exact ⟨of_decide_eq_true h1, of_decide_eq_true h2, of_decide_eq_true h3, h4, of_decide_eq_true h5, of_decide_eq_true h6, of_decide_eq_true h7, of_decide_eq_true h8⟩
end L2.MP

set_option Elab.async false
set_option linter.all false
set_option maxRecDepth 100000
set_option maxHeartbeats 4000000
namespace L2.MP
open PySem PySem.Spec PyProof.Rows
/-! ### the text -/
abbrev prog : Program := PySem.Challenge.pw_stickymarks_k38_menu_books
def top (i : Nat) : Stmt := prog.main.body.getD i (.Pass ⟨0, 0, 0, 0⟩)
inductive Fn where
  | Book_init | Book_getitem | Book_setitem | Book_copied | Menu_init | Menu_contains | Menu_numbered | Menu_books | law_cell | law_draws | law_entries | law_choices | law_picks | law_book | law_options | law_menu_books | law_read_book | law_bent | law_refused | law
abbrev Gm := Fn → Sp
abbrev st_Book_init : Stmt := inClass (top 8) 0
abbrev N_Book_init : List Str := [("self" : Str), ("work" : Str), ("write" : Str), ("meet" : Str), ("test" : Str), ("partly" : Str), ("value" : Str), ("path" : Str), ("loop" : Str), ("guard" : Str), ("call" : Str), ("told" : Str), ("at" : Str)]
abbrev st_Book_getitem : Stmt := inClass (top 8) 2
abbrev N_Book_getitem : List Str := [("self" : Str), ("entry" : Str)]
abbrev st_Book_setitem : Stmt := inClass (top 8) 3
abbrev N_Book_setitem : List Str := [("self" : Str), ("entry" : Str), ("choice" : Str)]
abbrev st_Book_copied : Stmt := inClass (top 8) 9
abbrev N_Book_copied : List Str := [("self" : Str)]
abbrev st_Menu_init : Stmt := inClass (top 12) 0
abbrev N_Menu_init : List Str := [("self" : Str), ("base" : Str), ("options" : Str), ("entry" : Str), ("told" : Str), ("choice" : Str)]
abbrev st_Menu_contains : Stmt := inClass (top 12) 1
abbrev N_Menu_contains : List Str := [("self" : Str), ("book" : Str), ("entry" : Str)]
abbrev st_Menu_numbered : Stmt := inClass (top 12) 2
abbrev N_Menu_numbered : List Str := [("self" : Str), ("number" : Str), ("made" : Str), ("rest" : Str), ("entry" : Str), ("told" : Str)]
abbrev st_Menu_books : Stmt := inClass (top 12) 3
abbrev N_Menu_books : List Str := [("self" : Str), ("number" : Str)]
abbrev st_law_cell : Stmt := top 14
abbrev N_law_cell : List Str := [("_law_script" : Str), ("_law_k" : Str)]
abbrev st_law_draws : Stmt := top 15
abbrev N_law_draws : List Str := [("_law_cell_here" : Str), ("_law_many" : Str), ("_law_salt" : Str), ("_law_size" : Str), ("_law_rest" : Str), ("_law_draws_here" : Str), ("_law_k" : Str), ("_law_mixed" : Str)]
abbrev st_law_entries : Stmt := top 16
abbrev N_law_entries : List Str := []
abbrev st_law_choices : Stmt := top 17
abbrev N_law_choices : List Str := [("_law_entry" : Str), ("_law_told" : Str)]
abbrev st_law_picks : Stmt := top 18
abbrev N_law_picks : List Str := [("_law_draws_here" : Str), ("_law_bases" : Str), ("_law_base" : Str), ("_law_names" : Str), ("_law_picks_here" : Str), ("_law_k" : Str), ("_law_told" : Str), ("_law_name" : Str)]
abbrev st_law_book : Stmt := top 19
abbrev N_law_book : List Str := [("_law_picks_here" : Str), ("_law_book_here" : Str), ("_law_name" : Str)]
abbrev st_law_options : Stmt := top 20
abbrev N_law_options : List Str := [("_law_draws_here" : Str), ("_law_options_here" : Str), ("_law_many" : Str), ("_law_k" : Str), ("_law_name" : Str), ("_law_told" : Str), ("_law_count" : Str), ("_law_j" : Str)]
abbrev st_law_menu_books : Stmt := top 21
abbrev N_law_menu_books : List Str := [("_law_base" : Str), ("_law_options_here" : Str), ("_law_found" : Str), ("_law_name" : Str), ("_law_longer" : Str), ("_law_picks_here" : Str), ("_law_choice" : Str), ("_law_bent_here" : Str)]
abbrev st_law_read_book : Stmt := top 22
abbrev N_law_read_book : List Str := [("_law_book_here" : Str), ("_law_picks_here" : Str), ("_law_name" : Str)]
abbrev st_law_bent : Stmt := top 23
abbrev N_law_bent : List Str := [("_law_picks_here" : Str), ("_law_draws_here" : Str), ("_law_bent_here" : Str), ("_law_k" : Str), ("_law_name" : Str), ("_law_told" : Str)]
abbrev st_law_refused : Stmt := top 24
abbrev N_law_refused : List Str := [("_law_book_here" : Str), ("_law_options_here" : Str), ("e" : Str)]
abbrev st_law : Stmt := top 25
abbrev N_law : List Str := [("_law_script" : Str), ("_law_base" : Str), ("_law_options_here" : Str), ("_law_book_here" : Str), ("_law_given" : Str), ("_law_name" : Str), ("_law_menu" : Str), ("_law_changed" : Str), ("_law_due" : Str), ("_law_turn" : Str), ("_law_one" : Str), ("_law_near" : Str), ("_law_picks_here" : Str), ("_law_held" : Str), ("_law_wrong" : Str), ("_law_full" : Str)]
def ps : Fn → List Str
  | .Book_init => [("self" : Str), ("work" : Str), ("write" : Str), ("meet" : Str), ("test" : Str), ("partly" : Str), ("value" : Str), ("path" : Str), ("loop" : Str), ("guard" : Str), ("call" : Str)]
  | .Book_getitem => [("self" : Str), ("entry" : Str)]
  | .Book_setitem => [("self" : Str), ("entry" : Str), ("choice" : Str)]
  | .Book_copied => [("self" : Str)]
  | .Menu_init => [("self" : Str), ("base" : Str), ("options" : Str)]
  | .Menu_contains => [("self" : Str), ("book" : Str)]
  | .Menu_numbered => [("self" : Str), ("number" : Str)]
  | .Menu_books => [("self" : Str)]
  | .law_cell => [("_law_script" : Str), ("_law_k" : Str)]
  | .law_draws => [("_law_cell_here" : Str), ("_law_many" : Str), ("_law_salt" : Str)]
  | .law_entries => []
  | .law_choices => [("_law_entry" : Str)]
  | .law_picks => [("_law_draws_here" : Str)]
  | .law_book => [("_law_picks_here" : Str)]
  | .law_options => [("_law_draws_here" : Str)]
  | .law_menu_books => [("_law_base" : Str), ("_law_options_here" : Str)]
  | .law_read_book => [("_law_book_here" : Str)]
  | .law_bent => [("_law_picks_here" : Str), ("_law_draws_here" : Str)]
  | .law_refused => [("_law_book_here" : Str), ("_law_options_here" : Str)]
  | .law => [("_law_script" : Str)]
def dm : Fn → DefM
  | .Book_init => ⟨fun K => He.ma K (He.ga K ("Book" : Str)) ("__init__" : Str), ("__init__" : Str), ("Book.__init__" : Str), st_Book_init, [], [(("work" : Str), He.Dv.str ("join" : Str)), (("write" : Str), He.Dv.str ("stop" : Str)), (("meet" : Str), He.Dv.str ("raise" : Str)), (("test" : Str), He.Dv.str ("stop" : Str)), (("partly" : Str), He.Dv.str ("stop" : Str)), (("value" : Str), He.Dv.str ("stop" : Str)), (("path" : Str), He.Dv.str ("stop" : Str)), (("loop" : Str), He.Dv.str ("stop" : Str)), (("guard" : Str), He.Dv.str ("stop" : Str)), (("call" : Str), He.Dv.str ("stop" : Str))], []⟩
  | .Book_getitem => ⟨fun K => He.ma K (He.ga K ("Book" : Str)) ("__getitem__" : Str), ("__getitem__" : Str), ("Book.__getitem__" : Str), st_Book_getitem, [], [], []⟩
  | .Book_setitem => ⟨fun K => He.ma K (He.ga K ("Book" : Str)) ("__setitem__" : Str), ("__setitem__" : Str), ("Book.__setitem__" : Str), st_Book_setitem, [], [], []⟩
  | .Book_copied => ⟨fun K => He.ma K (He.ga K ("Book" : Str)) ("copied" : Str), ("copied" : Str), ("Book.copied" : Str), st_Book_copied, [], [], []⟩
  | .Menu_init => ⟨fun K => He.ma K (He.ga K ("Menu" : Str)) ("__init__" : Str), ("__init__" : Str), ("Menu.__init__" : Str), st_Menu_init, [], [], []⟩
  | .Menu_contains => ⟨fun K => He.ma K (He.ga K ("Menu" : Str)) ("__contains__" : Str), ("__contains__" : Str), ("Menu.__contains__" : Str), st_Menu_contains, [], [], []⟩
  | .Menu_numbered => ⟨fun K => He.ma K (He.ga K ("Menu" : Str)) ("numbered" : Str), ("numbered" : Str), ("Menu.numbered" : Str), st_Menu_numbered, [], [], []⟩
  | .Menu_books => ⟨fun K => He.ma K (He.ga K ("Menu" : Str)) ("books" : Str), ("books" : Str), ("Menu.books" : Str), st_Menu_books, [], [], []⟩
  | .law_cell => ⟨fun K => He.ga K ("_law_cell" : Str), ("_law_cell" : Str), ("_law_cell" : Str), st_law_cell, [], [], []⟩
  | .law_draws => ⟨fun K => He.ga K ("_law_draws" : Str), ("_law_draws" : Str), ("_law_draws" : Str), st_law_draws, [], [], []⟩
  | .law_entries => ⟨fun K => He.ga K ("_law_entries" : Str), ("_law_entries" : Str), ("_law_entries" : Str), st_law_entries, [], [], []⟩
  | .law_choices => ⟨fun K => He.ga K ("_law_choices" : Str), ("_law_choices" : Str), ("_law_choices" : Str), st_law_choices, [], [], []⟩
  | .law_picks => ⟨fun K => He.ga K ("_law_picks" : Str), ("_law_picks" : Str), ("_law_picks" : Str), st_law_picks, [], [], []⟩
  | .law_book => ⟨fun K => He.ga K ("_law_book" : Str), ("_law_book" : Str), ("_law_book" : Str), st_law_book, [], [], []⟩
  | .law_options => ⟨fun K => He.ga K ("_law_options" : Str), ("_law_options" : Str), ("_law_options" : Str), st_law_options, [], [], []⟩
  | .law_menu_books => ⟨fun K => He.ga K ("_law_menu_books" : Str), ("_law_menu_books" : Str), ("_law_menu_books" : Str), st_law_menu_books, [], [], []⟩
  | .law_read_book => ⟨fun K => He.ga K ("_law_read_book" : Str), ("_law_read_book" : Str), ("_law_read_book" : Str), st_law_read_book, [], [], []⟩
  | .law_bent => ⟨fun K => He.ga K ("_law_bent" : Str), ("_law_bent" : Str), ("_law_bent" : Str), st_law_bent, [], [], []⟩
  | .law_refused => ⟨fun K => He.ga K ("_law_refused" : Str), ("_law_refused" : Str), ("_law_refused" : Str), st_law_refused, [], [], []⟩
  | .law => ⟨fun K => He.ga K ("law" : Str), ("law" : Str), ("law" : Str), st_law, [], [], []⟩
def exl : List (PySem.W.Frag → Bool) := [(fun K => He.Fa.ok K (.glo ("law" : Str))),
  (fun K => He.Fa.ok K (.glo ("_law_picks" : Str))),
  (fun K => He.Fa.ok K (.glo ("_law_draws" : Str))),
  (fun K => He.Fa.ok K (.glo ("_law_cell" : Str))),
  (fun K => He.Fa.ok K (.glo ("_law_options" : Str))),
  (fun K => He.Fa.ok K (.glo ("_law_book" : Str))),
  (fun K => He.Fa.ok K (.free ("list" : Str))),
  (fun K => He.Fa.ok K (.glo ("Menu" : Str))),
  (fun K => He.Fa.ok K (.mkr ("Menu" : Str))),
  (fun K => He.Fa.ok K (.glo ("_law_entries" : Str))),
  (fun K => He.Fa.ok K (.glo ("_law_choices" : Str))),
  (fun K => PySem.W.noSeq K (He.ga K "Book")),
  spcB ("Book" : Str) ("__setitem__" : Str),
  (fun K => He.Fa.ok K (.glo ("_law_menu_books" : Str))),
  (fun K => He.Fa.ok K (.free ("range" : Str))),
  (fun K => He.Fa.ok K (.cls ("Menu" : Str))),
  (fun K => He.Fa.ok K (.meth ("Menu" : Str) ("books" : Str))),
  (fun K => He.Fa.ok K (.glo ("_law_read_book" : Str))),
  (fun K => He.Fa.ok K (.glo ("_law_bent" : Str))),
  (fun K => He.Fa.ok K (.free ("len" : Str))),
  spcB ("Menu" : Str) ("__contains__" : Str),
  (fun K => He.Fa.ok K (.free ("bool" : Str))),
  (fun K => He.Fa.ok K (.free ("isinstance" : Str))),
  (fun K => He.Fa.ok K (.glo ("_law_refused" : Str))),
  (fun K => He.Fa.ok K (.glo ("ENTRIES" : Str))),
  (fun K => He.Fa.ok K (.glo ("CHOICES" : Str))),
  excM ("InvalidBook" : Str),
  (fun K => He.Fa.ok K (.glo ("InvalidBook" : Str))),
  (fun K => He.Fa.ok K (.cls ("Book" : Str))),
  (fun K => He.Fa.ok K (.meth ("Book" : Str) ("copied" : Str))),
  excM ("InvalidInput" : Str),
  (fun K => He.Fa.ok K (.glo ("InvalidInput" : Str))),
  (fun K => He.Fa.ok K (.int ("MOST_BOOKS" : Str) (24))),
  spcB ("Book" : Str) ("__getitem__" : Str),
  (fun K => PySem.W.fnIn K (He.ma K (He.ga K "Book") "__getitem__")),
  (fun K => He.Fa.ok K (.meth ("Menu" : Str) ("numbered" : Str))),
  (fun K => He.Fa.ok K (.free ("abs" : Str))),
  (fun K => He.Fa.ok K (.free ("int" : Str))),
  (fun K => He.Fa.ok K (.glo ("Book" : Str))),
  (fun K => He.Fa.ok K (.mkr ("Book" : Str))),
  (fun K => He.Fa.ok K (.free ("dict" : Str))),
  excCB ("InvalidInput" : Str),
  (fun K => He.Fa.ok K (.free ("ValueError" : Str))),
  (fun K => He.Fa.ok K (.free ("reversed" : Str))),
  (fun K => He.Fa.ok K (.exm ("InvalidBook" : Str) ("InvalidInput" : Str) false)),
  (fun K => He.Fa.ok K (.exm ("InvalidInput" : Str) ("InvalidInput" : Str) true)),
  entB,
  chB,
  (fun K => He.Fa.ok K (.noat ("Book" : Str) ("held" : Str))),
  isiB ("Book" : Str),
  (fun K => He.Fa.ok K (.noat ("Menu" : Str) ("base" : Str))),
  (fun K => He.Fa.ok K (.noat ("Menu" : Str) ("entries" : Str))),
  (fun K => He.Fa.ok K (.noat ("Menu" : Str) ("options" : Str))),
  (fun K => He.Fa.ok K (.noat ("Menu" : Str) ("count" : Str))),
  isiB ("Menu" : Str),
  (fun K => decide (PySem.W.kitOne K (.ref (He.ga K ("InvalidInput" : Str))) (.type "ValueError") = some true))]
def fnl : List DefM := [dm .Book_init, dm .Book_getitem, dm .Book_setitem, dm .Book_copied, dm .Menu_init, dm .Menu_contains, dm .Menu_numbered, dm .Menu_books, dm .law_cell, dm .law_draws, dm .law_entries, dm .law_choices, dm .law_picks, dm .law_book, dm .law_options, dm .law_menu_books, dm .law_read_book, dm .law_bent, dm .law_refused, dm .law]
def tbs : List He.Tab := [(fun K => He.ga K ("CHOICES" : Str), [("work" : Str), ("write" : Str), ("meet" : Str), ("test" : Str), ("partly" : Str), ("value" : Str), ("path" : Str), ("loop" : Str), ("guard" : Str), ("call" : Str)])]
abbrev exb (K : PySem.W.Frag) : Bool := exl.all fun f => f K
def loose0 : List PySem.Str := ["_wall", "MarkError", "InvalidBook", "InvalidInput", "ENTRIES", "CHOICES", "Book", "below", "MOST_BOOKS", "Menu", "_law_cell", "_law_draws", "_law_entries", "_law_choices", "_law_picks", "_law_book", "_law_options", "_law_menu_books", "_law_read_book", "_law_bent", "_law_refused"]
abbrev looseN : List PySem.Str := loose0
abbrev RRh : PySem.W.OpenRow := PySem.W.OpenLaw.row PySem.Challenge.rw_stickymarks_k38_menu_books
def adl : List Addr := (List.range 2500).reverse
abbrev hkM : PySem.W.Hook := hookL adl fnl exb tbs
section
open PySem.W PySem.Calls HandSHeadRun
abbrev KKs (s : PySem.W.SharedT) : PySem.W.Frag := He.frT (HandSHeadRun.getT s) adl
noncomputable abbrev runO (w : World) (os : OsState) := endF (stepQ (denQ tabQ) RRh.prog w) 20000 RRh.prog w os
abbrev vwM := PySem.W.view RRh.prog [25]
noncomputable abbrev lookM (w : World) (s : PySem.W.SharedT) := looksF RRh.prog (boot_heap w.params) s.abs
noncomputable abbrev seenM (s : PySem.W.SharedT) := seenQ vwM looseN (importedModules RRh.prog.main.body) (fun s => xlAt vwM [] s && recOk RRh.toRowW.records s) s.abs
set_option maxHeartbeats 0 in
theorem run_aF (w : World) (os : OsState) : (runO (wB w false) os).map (fun s => ((lookM (wB w false) s, seenM s), obT tbs (KKs s))) = some ((true, openGood vwM looseN), tbs.map fun t => some (He.keysIn ((wB w false)).params t.2)) := by
  kernel_rfl
set_option maxHeartbeats 0 in
theorem run_aT (w : World) (os : OsState) : (runO (wB w true) os).map (fun s => ((lookM (wB w true) s, seenM s), obT tbs (KKs s))) = some ((true, openGood vwM looseN), tbs.map fun t => some (He.keysIn ((wB w true)).params t.2)) := by
  kernel_rfl
set_option maxHeartbeats 0 in
theorem run_f0F (w : World) (os : OsState) : (runO (wB w false) os).map (fun s => obF ((fnl.drop 0).take 10) (KKs s)) = some (((fnl.drop 0).take 10).map DefM.val, true) := by
  kernel_rfl
set_option maxHeartbeats 0 in
theorem run_f0T (w : World) (os : OsState) : (runO (wB w true) os).map (fun s => obF ((fnl.drop 0).take 10) (KKs s)) = some (((fnl.drop 0).take 10).map DefM.val, true) := by
  kernel_rfl
set_option maxHeartbeats 0 in
theorem run_f1F (w : World) (os : OsState) : (runO (wB w false) os).map (fun s => obF (fnl.drop 10) (KKs s)) = some ((fnl.drop 10).map DefM.val, true) := by
  kernel_rfl
set_option maxHeartbeats 0 in
theorem run_f1T (w : World) (os : OsState) : (runO (wB w true) os).map (fun s => obF (fnl.drop 10) (KKs s)) = some ((fnl.drop 10).map DefM.val, true) := by
  kernel_rfl
set_option maxHeartbeats 0 in
theorem run_x0F (w : World) (os : OsState) : (runO (wB w false) os).map (fun s => obX ((exl.drop 0).take 28) (KKs s)) = some true := by
  kernel_rfl
set_option maxHeartbeats 0 in
theorem run_x0T (w : World) (os : OsState) : (runO (wB w true) os).map (fun s => obX ((exl.drop 0).take 28) (KKs s)) = some true := by
  kernel_rfl
set_option maxHeartbeats 0 in
theorem run_x1F (w : World) (os : OsState) : (runO (wB w false) os).map (fun s => obX (exl.drop 28) (KKs s)) = some true := by
  kernel_rfl
set_option maxHeartbeats 0 in
theorem run_x1T (w : World) (os : OsState) : (runO (wB w true) os).map (fun s => obX (exl.drop 28) (KKs s)) = some true := by
  kernel_rfl
theorem run_ab (w : World) (b : Bool) (os : OsState) : (runO (wB w b) os).map (fun s => ((lookM (wB w b) s, seenM s), obT tbs (KKs s))) = some ((true, openGood vwM looseN), tbs.map fun t => some (He.keysIn ((wB w b)).params t.2)) := by
  cases b
  · exact run_aF w os
  · exact run_aT w os
theorem run_a (w : World) (os : OsState) : (runO w os).map (fun s => ((lookM w s, seenM s), obT tbs (KKs s))) = some ((true, openGood vwM looseN), tbs.map fun t => some (He.keysIn (w).params t.2)) := by
  rw [← wB_eq w]
  exact run_ab w _ os
theorem run_f0b (w : World) (b : Bool) (os : OsState) : (runO (wB w b) os).map (fun s => obF ((fnl.drop 0).take 10) (KKs s)) = some (((fnl.drop 0).take 10).map DefM.val, true) := by
  cases b
  · exact run_f0F w os
  · exact run_f0T w os
theorem run_f0 (w : World) (os : OsState) : (runO w os).map (fun s => obF ((fnl.drop 0).take 10) (KKs s)) = some (((fnl.drop 0).take 10).map DefM.val, true) := by
  rw [← wB_eq w]
  exact run_f0b w _ os
theorem run_f1b (w : World) (b : Bool) (os : OsState) : (runO (wB w b) os).map (fun s => obF (fnl.drop 10) (KKs s)) = some ((fnl.drop 10).map DefM.val, true) := by
  cases b
  · exact run_f1F w os
  · exact run_f1T w os
theorem run_f1 (w : World) (os : OsState) : (runO w os).map (fun s => obF (fnl.drop 10) (KKs s)) = some ((fnl.drop 10).map DefM.val, true) := by
  rw [← wB_eq w]
  exact run_f1b w _ os
theorem run_x0b (w : World) (b : Bool) (os : OsState) : (runO (wB w b) os).map (fun s => obX ((exl.drop 0).take 28) (KKs s)) = some true := by
  cases b
  · exact run_x0F w os
  · exact run_x0T w os
theorem run_x0 (w : World) (os : OsState) : (runO w os).map (fun s => obX ((exl.drop 0).take 28) (KKs s)) = some true := by
  rw [← wB_eq w]
  exact run_x0b w _ os
theorem run_x1b (w : World) (b : Bool) (os : OsState) : (runO (wB w b) os).map (fun s => obX (exl.drop 28) (KKs s)) = some true := by
  cases b
  · exact run_x1F w os
  · exact run_x1T w os
theorem run_x1 (w : World) (os : OsState) : (runO w os).map (fun s => obX (exl.drop 28) (KKs s)) = some true := by
  rw [← wB_eq w]
  exact run_x1b w _ os
theorem run_top (w : World) : RunEq RRh vwM hkM (obsL adl fnl exb tbs) 20000 looseN w := by
  intro os
  have a1 := two_looks (run_a w os)
  exact run_join (KK := KKs) [((fnl.drop 0).take 10), (fnl.drop 10)] [((exl.drop 0).take 28), (exl.drop 28)] a1.1 ⟨run_f0 w os, run_f1 w os, trivial⟩ ⟨run_x0 w os, run_x1 w os, trivial⟩ a1.2 (by kernel_rfl) (by kernel_rfl)
end
end L2.MP
set_option Elab.async false
set_option linter.all false
set_option maxRecDepth 100000
set_option maxHeartbeats 4000000
/-! Lists by an open place; a book's choices by names. -/
namespace L2.MP
open PySem PySem.Spec PyProof.Rows
theorem up_new' {H : Hp} {p a dx : Addr} {o u v : HO} (hp : H p = none) (h : upd H dx v a = some u) (hn : dx ≠ p := by assumption) : upd (upd H dx v) p o a = some u := up_ne (fun z => by subst z; rw [upd_ne (Ne.symm hn), hp] at h; cases h) h
def sv (l : List Str) (i : Int) : Str := l.getD i.toNat ("" : Str)
theorem sv_mem {l : List Str} {i : Int} (h0 : 0 ≤ i) (h : i < l.length) : sv l i ∈ l := by
  have h' : i.toNat < l.length := by omega
  simp [sv, List.getD, h']
section
variable {K : PySem.W.Frag} {H : Hp} {Q : VK} {v : V} {p : Int} {a : Addr}
theorem o_ixD {ds : List Int} (h : SqL K H a (ds.map V.int)) (h0 : 0 ≤ p) (h1 : p < ds.length) (q : Q (.int (cellv ds p)) H) : rIx K (.ref a) (.int p) H Q :=
  o_ixL h (cell_at h0 (by simpa using h1)) q
theorem o_ixSv {l : List Str} (h : SqL K H a (l.map V.str)) (h0 : 0 ≤ p) (h1 : p < l.length) (q : Q (.str (sv l p)) H) : rIx K (.ref a) (.int p) H Q := by
  obtain ⟨m, rfl⟩ : ∃ m : Nat, p = (m : Int) := ⟨p.toNat, by omega⟩
  have hm : m < l.length := by omega
  refine o_ixL h (atI_nat (v := V.str (sv l m)) ?_) q
  simp [sv, List.getD, hm]
theorem o_ix2S {s0 s1 : Str} {c : Bool} (h : SqL K H a [.str s0, .str s1]) (q : Q (.str (if c = true then s1 else s0)) H) : rIx K (.ref a) (.int (if c = true then 1 else 0)) H Q := by
  cases c
  · exact o_ixL h (atI_nat (j := 0) rfl) q
  · exact o_ixL h (atI_nat (j := 1) rfl) q
theorem o_ix2I {i0 i1 : Int} {c : Bool} (h : SqL K H a [.int i0, .int i1]) (q : Q (.int (if c = true then i1 else i0)) H) : rIx K (.ref a) (.int (if c = true then 1 else 0)) H Q := by
  cases c
  · exact o_ixL h (atI_nat (j := 0) rfl) q
  · exact o_ixL h (atI_nat (j := 1) rfl) q
theorem cell60 {ds : List Int} {i : Int} (h : ∀ d ∈ ds, 0 ≤ d ∧ d < 60) : 0 ≤ cellv ds i ∧ cellv ds i < 60 := by
  by_cases e : i.toNat < ds.length
  · have : cellv ds i ∈ ds := by simp [cellv, List.getD, e]
    exact h _ this
  · have : cellv ds i = 0 := by simp [cellv, List.getD, Nat.le_of_not_lt e]
    rw [this]; decide
end
class InE (e : Str) : Prop where
  mem : e ∈ ENT
instance : InE ("work" : Str) := ⟨by decide +kernel⟩
instance : InE ("write" : Str) := ⟨by decide +kernel⟩
instance : InE ("meet" : Str) := ⟨by decide +kernel⟩
instance : InE ("test" : Str) := ⟨by decide +kernel⟩
instance : InE ("partly" : Str) := ⟨by decide +kernel⟩
instance : InE ("value" : Str) := ⟨by decide +kernel⟩
instance : InE ("path" : Str) := ⟨by decide +kernel⟩
instance : InE ("loop" : Str) := ⟨by decide +kernel⟩
instance : InE ("guard" : Str) := ⟨by decide +kernel⟩
instance : InE ("call" : Str) := ⟨by decide +kernel⟩
/-- the choice at an entry, told -/
class FEq (f : Str → Str) (e : Str) (v : outParam Str) : Prop where
  eq : f e = v
instance (priority := low) {f : Str → Str} {e : Str} : FEq f e (f e) := ⟨rfl⟩
instance {f : Str → Str} {e c : Str} : FEq (fset f e c) e c := ⟨fset_eq⟩
instance {f : Str → Str} {e x c v : Str} [d : DNe x e] [i : FEq f x v] : FEq (fset f e c) x v := ⟨by rw [fset_ne d.ne]; exact i.eq⟩
/-- all choices are choices of their entries -/
def Good (f : Str → Str) : Prop := ∀ e ∈ ENT, f e ∈ chs e
theorem Good.set {f : Str → Str} {e c : Str} (g : Good f) (h : c ∈ chs e) : Good (fset f e c) := fun x hx => by
  unfold fset
  split
  · rename_i z; rw [z]; exact h
  · exact g x hx
/-- ten choices in the order of the entries -/
def fL (cs : List Str) : Str → Str := fun e => cs.getD (ENT.idxOf e) ("" : Str)
theorem bk_fL {c0 c1 c2 c3 c4 c5 c6 c7 c8 c9 : Str} : bk (fL [c0, c1, c2, c3, c4, c5, c6, c7, c8, c9]) = [(.inr "work", .str c0), (.inr "write", .str c1), (.inr "meet", .str c2), (.inr "test", .str c3), (.inr "partly", .str c4), (.inr "value", .str c5), (.inr "path", .str c6), (.inr "loop", .str c7), (.inr "guard", .str c8), (.inr "call", .str c9)] := by
  unfold bk ENT
  simp only [List.map_cons, List.map_nil]
  rfl
theorem bk_list {f : Str → Str} : bk f = [(.inr "work", .str (f "work")), (.inr "write", .str (f "write")), (.inr "meet", .str (f "meet")), (.inr "test", .str (f "test")), (.inr "partly", .str (f "partly")), (.inr "value", .str (f "value")), (.inr "path", .str (f "path")), (.inr "loop", .str (f "loop")), (.inr "guard", .str (f "guard")), (.inr "call", .str (f "call"))] := rfl
theorem bk_congr {f g : Str → Str} (h : ∀ e ∈ ENT, f e = g e) : bk f = bk g := List.map_congr_left fun e he => by rw [h e he]
/-- the first m entries -/
def bkm (m : Nat) (f : Str → Str) : List (Key × V) := (ENT.take m).map fun e => (Sum.inr e, V.str (f e))
theorem bkm_ten {f : Str → Str} : bkm 10 f = bk f := rfl
theorem ent_fresh : ∀ m < 10, sv ENT (m : Nat) ∉ ENT.take m ∧ ENT.take (m + 1) = ENT.take m ++ [sv ENT (m : Nat)] ∧ sv ENT (m : Nat) ∈ ENT := by decide +kernel
theorem bkm_put {f : Str → Str} {m : Nat} {c : Str} (h : m < 10) : putK (bkm m f) (.inr (sv ENT m)) (.str c) = bkm (m + 1) (fset f (sv ENT m) c) := by
  obtain ⟨h1, h2, _⟩ := ent_fresh m h
  have nk : ((bkm m f).any fun kv => decide (kv.1 = Sum.inr (sv ENT m))) = false := by
    rw [List.any_eq_false]
    intro kv hkv
    obtain ⟨x, hx, rfl⟩ := List.mem_map.mp hkv
    simp only [decide_eq_true_eq]
    intro z
    exact h1 ((Sum.inr.inj z) ▸ hx)
  unfold putK
  rw [if_neg (by rw [nk]; decide)]
  unfold bkm
  rw [h2, List.map_append]
  congr 1
  · refine List.map_congr_left fun x hx => ?_
    rw [fset_ne (fun (z : x = sv ENT m) => h1 (by rw [← z]; exact hx))]
  · simp only [List.map_cons, List.map_nil]
    rw [fset_eq]
section
variable {K : PySem.W.Frag} {H : Hp} {Q : VK} {e c : Str}
theorem k_ninEntT [BookK K] (he : e ∈ ENT) (q : Q (.bl false) H) : rInA K true (.str e) (.ref (He.ga K "ENTRIES")) H Q := k_ninEnt (by rw [decide_eq_true he]; exact q)
theorem k_ninChT [BookK K] (he : e ∈ ENT) (hc : c ∈ chs e) (q : Q (.bl false) H) : rInA K true (.str c) (.ref (chA K e)) H Q := k_ninCh he (by rw [decide_eq_true hc]; exact q)
end
end L2.MP
namespace L2.MP
open PySem PySem.Spec PyProof.Rows
section
variable {K : PySem.W.Frag} {H : Hp} {Q : VK} {a : Addr}
theorem o_lenLS {l : List Str} (h : SqL K H a (l.map V.str)) (q : Q (.int l.length) H) : rLenA K [.ref a] H Q := o_lenL h (by rw [List.length_map]; exact q)
theorem o_lenLI {l : List Int} (h : SqL K H a (l.map V.int)) (q : Q (.int l.length) H) : rLenA K [.ref a] H Q := o_lenL h (by rw [List.length_map]; exact q)
theorem k_rdputB {m : Nat} {f : Str → Str} {c : Str} {k : Hp → Prop} (h : H a = some (.dK (bkm m f))) (hm : m < 10) (q : k (upd H a (.dK (bkm (m + 1) (fset f (sv ENT m) c))))) : RDPut (.ref a) (.str (sv ENT m)) (.str c) H k :=
  k_rdput h (by simp [bkm]; omega) (bkm_put hm) q
end
end L2.MP
namespace L2.MP
open PySem PySem.Spec PyProof.Rows
/-! new things, the heap behind them as a letter -/
section
variable {K : PySem.W.Frag} {σ : St} {H : Hp} {Q : VK} {a e : Addr} {vs xs ys : List V}
theorem k_newTA (h : vs.length ≤ 100000) (q : ∀ p H', H p = none → Ex H H' → H' p = some (.tup vs) → Q (.ref p) H') : NewT vs H Q := k_newT h fun p hp => q p _ hp (Ex.new hp) upd_same
theorem k_newLA (h : vs.length ≤ 100000) (q : ∀ p H', H p = none → Ex H H' → H' p = some (.lst vs) → Q (.ref p) H') : NewL vs H Q := k_newL h fun p hp => q p _ hp (Ex.new hp) upd_same
theorem k_newDA (q : ∀ p H', H p = none → Ex H H' → H' p = some (.dK []) → Q (.ref p) H') : NewD H Q := k_newD fun p hp => q p _ hp (Ex.new hp) upd_same
theorem k_dispA {trs : List (TE × TE)} {l : List (Str × Str)} [c : TdS trs l] (hl : l.length ≤ 15) (q : ∀ p H', H p = none → Ex H H' → H' p = some (.dK (mergeK [] (dS l))) → Q (.ref p) H') : tDisp trs σ H Q := k_disp hl fun p hp => q p _ hp (Ex.new hp) upd_same
theorem o_addLA (h1 : H a = some (.lst xs)) (h2 : H e = some (.lst ys)) (h : xs.length + ys.length ≤ 100000) (q : ∀ p H', H p = none → Ex H H' → H' p = some (.lst (xs ++ ys)) → Q (.ref p) H') : rAddA K (.ref a) (.ref e) H Q := o_addL h1 h2 h fun p hp => q p _ hp (Ex.new hp) upd_same
theorem o_splitA {s z : Str} {l : List Str} (hz : (z.length == 0) = false) (hs : s.length ≤ 90000) (e : Txt.split s z = l) (hl : l.length ≤ 90000) (q : ∀ p H', H p = none → Ex H H' → H' p = some (.lst (l.map V.str)) → Q (.ref p) H') : rSplitA (.str s) [.str z] H Q :=
  o_split hz hs e hl fun p hp => q p _ hp (Ex.new hp) upd_same
end
end L2.MP
namespace L2.MP
open PySem PySem.Spec PyProof.Rows
theorem ent_inj : ∀ i < 10, ∀ j < 10, sv ENT (i : Nat) = sv ENT (j : Nat) → i = j := by decide +kernel
theorem ent_ix : ∀ e ∈ ENT, ∃ i < 10, e = sv ENT (i : Nat) := by
  intro e he
  simp only [ENT, List.mem_cons, List.not_mem_nil, or_false] at he
  rcases he with rfl | rfl | rfl | rfl | rfl | rfl | rfl | rfl | rfl | rfl
  · exact ⟨0, by decide, rfl⟩
  · exact ⟨1, by decide, rfl⟩
  · exact ⟨2, by decide, rfl⟩
  · exact ⟨3, by decide, rfl⟩
  · exact ⟨4, by decide, rfl⟩
  · exact ⟨5, by decide, rfl⟩
  · exact ⟨6, by decide, rfl⟩
  · exact ⟨7, by decide, rfl⟩
  · exact ⟨8, by decide, rfl⟩
  · exact ⟨9, by decide, rfl⟩
theorem good_of {f : Str → Str} (h : ∀ i < 10, f (sv ENT (i : Nat)) ∈ chs (sv ENT (i : Nat))) : Good f := fun e he => by
  obtain ⟨i, hi, rfl⟩ := ent_ix e he
  exact h i hi
theorem goods_set {f : Str → Str} {m : Nat} {c : Str} (hm : m < 10) (h : ∀ i < m, f (sv ENT (i : Nat)) ∈ chs (sv ENT (i : Nat))) (hc : c ∈ chs (sv ENT m)) : ∀ i < m + 1, fset f (sv ENT m) c (sv ENT (i : Nat)) ∈ chs (sv ENT (i : Nat)) := fun i hi => by
  by_cases e : i = m
  · subst e; rw [fset_eq]; exact hc
  · rw [fset_ne (fun z => e (ent_inj i (by omega) m hm z))]
    exact h i (by omega)
theorem chs_two {e : Str} (he : e ∈ ENT) : 2 ≤ (chs e).length := (chx_ok e he).2.2.2
end L2.MP
namespace L2.MP
open PySem PySem.Spec PyProof.Rows
theorem bk_full {f g : Str → Str} : bk (fset (fset (fset (fset (fset (fset (fset (fset (fset (fset g "work" (f "work")) "write" (f "write")) "meet" (f "meet")) "test" (f "test")) "partly" (f "partly")) "value" (f "value")) "path" (f "path")) "loop" (f "loop")) "guard" (f "guard")) "call" (f "call")) = bk f := by
  refine bk_congr fun e he => ?_
  simp only [ENT, List.mem_cons, List.not_mem_nil, or_false] at he
  rcases he with rfl | rfl | rfl | rfl | rfl | rfl | rfl | rfl | rfl | rfl <;> exact FEq.eq
end L2.MP
namespace L2.MP
open PySem PySem.Spec PyProof.Rows
@[simp] theorem ofString_inj {a b : String} : (Str.ofString a = Str.ofString b) ↔ a = b := by
  constructor
  · intro h
    rw [Str.ofString_eq_toList, Str.ofString_eq_toList] at h
    have h1 : (a.toList.map Char.toNat).toArray = (b.toList.map Char.toNat).toArray := congrArg Str.cps h
    have h2 : a.toList.map Char.toNat = b.toList.map Char.toNat := by simpa using h1
    have inj : ∀ {x y : Char}, x.toNat = y.toNat → x = y := fun {x y} e => Char.ext (UInt32.toNat_inj.mp e)
    have h3 : ∀ (l m : List Char), l.map Char.toNat = m.map Char.toNat → l = m := by
      intro l
      induction l with
      | nil => intro m e; cases m with | nil => rfl | cons _ _ => simp at e
      | cons x l ih =>
        intro m e
        cases m with
        | nil => simp at e
        | cons y m =>
          simp only [List.map_cons, List.cons.injEq] at e
          rw [inj e.1, ih m e.2]
    exact String.toList_inj.mp (h3 _ _ h2)
  · rintro rfl; rfl
/-- the choices of an entry, written -/
class ChV (e : Str) (vs : outParam (List V)) : Prop where
  eq : (chs e).map V.str = vs
instance : ChV ("work" : Str) [.str "drop", .str "left", .str "short", .str "join"] := ⟨by kernel_rfl⟩
instance : ChV ("write" : Str) [.str "raise", .str "partly", .str "skip", .str "stop"] := ⟨by kernel_rfl⟩
instance : ChV ("meet" : Str) [.str "leave", .str "raise"] := ⟨by kernel_rfl⟩
instance : ChV ("test" : Str) [.str "ignore", .str "raise", .str "stop"] := ⟨by kernel_rfl⟩
instance : ChV ("partly" : Str) [.str "pass", .str "stop"] := ⟨by kernel_rfl⟩
instance : ChV ("value" : Str) [.str "show", .str "blank", .str "skip", .str "stop"] := ⟨by kernel_rfl⟩
instance : ChV ("path" : Str) [.str "show", .str "blank", .str "skip", .str "stop"] := ⟨by kernel_rfl⟩
instance : ChV ("loop" : Str) [.str "forget", .str "stick", .str "stop"] := ⟨by kernel_rfl⟩
instance : ChV ("guard" : Str) [.str "forget", .str "stick", .str "stop"] := ⟨by kernel_rfl⟩
instance : ChV ("call" : Str) [.str "forget", .str "stick", .str "stop"] := ⟨by kernel_rfl⟩
section
variable {K : PySem.W.Frag} {σ : St} {H : Hp} {n b c : St → Hp → Prop} {r : VK} {i : Nat} {tb : TS} {x : V} {xs : List V} {a : Addr}
/-- a written list or tuple, turn by turn -/
theorem k_rlC (h : SqL K H a (x :: xs)) (q : RForL K a (x :: xs) i tb n r (x :: xs) σ H) : RL K i tb ⟨n, r, b, c⟩ σ (.ref a) H := k_rl h q
theorem k_rtC (h : SqT K H a (x :: xs)) (q : RForT K a (x :: xs) i tb n r (x :: xs) σ H) : RT K i tb ⟨n, r, b, c⟩ σ (.ref a) H := k_rt h q
end
end L2.MP
namespace L2.MP
open PySem PySem.Spec PyProof.Rows
/-! == of lists and tuples of plain values -/
def pd : V → PyData
  | .bl b => .bool b
  | .int i => .int i
  | .str x => .str x
  | _ => .none
def flat1 : V → Bool
  | .non => true
  | .bl _ => true
  | .int _ => true
  | .str x => PyData.strOk x
  | _ => false
def flatOk (xs : List V) : Bool := xs.all flat1
theorem dp_flat {K : PySem.W.Frag} {H : Hp} : ∀ {xs : List V}, flatOk xs = true → DpAll K H xs (xs.map pd) ∧ PyData.canLayAll0 (xs.map pd) = true ∧ PyData.depthAll (xs.map pd) ≤ 1
  | [], _ => ⟨.nil, rfl, by decide⟩
  | x :: xs, h => by
    unfold flatOk at h
    rw [List.all_cons] at h
    obtain ⟨h1, h2⟩ := He.ba h
    obtain ⟨i1, i2, i3⟩ := dp_flat (K := K) (H := H) (xs := xs) h2
    have key : Dp K H x (pd x) ∧ PyData.canLay0 (pd x) = true ∧ PyData.depth (pd x) = 0 := by
      cases x with
      | non => exact ⟨.non, by simp [pd, PyData.canLay0], by simp [pd, PyData.depth]⟩
      | bl b => exact ⟨.bl b, by simp [pd, PyData.canLay0], by simp [pd, PyData.depth]⟩
      | int b => exact ⟨.int b, by simp [pd, PyData.canLay0], by simp [pd, PyData.depth]⟩
      | str b => exact ⟨.str b, by simpa [pd, PyData.canLay0, flat1] using h1, by simp [pd, PyData.depth]⟩
      | _ => cases h1
    obtain ⟨k1, k2, k3⟩ := key
    refine ⟨.cons k1 i1, ?_, ?_⟩
    · show PyData.canLayAll0 (pd x :: xs.map pd) = true
      rw [PyData.canLayAll0, k2, i2]; rfl
    · show PyData.depthAll (pd x :: xs.map pd) ≤ 1
      rw [PyData.depthAll, k3]; omega
theorem shaped_flat {xs : List V} (h : flatOk xs = true) : SeqAt.shaped (.tuple (xs.map pd)) = true ∧ SeqAt.shaped (.list (xs.map pd)) = true := by
  obtain ⟨_, h2, h3⟩ := dp_flat (K := default) (H := fun _ => none) h
  unfold SeqAt.shaped
  constructor
  · rw [PyData.canLay0, h2, PyData.depth]; simp; omega
  · rw [PyData.canLay0, h2, PyData.depth]; simp; omega
section
variable {K : PySem.W.Frag} {H : Hp} {Q : VK} {a b : Addr} {xs ys : List V}
theorem o_eqTT (h1 : SqT K H a xs) (h2 : SqT K H b ys) (hx : flatOk xs = true) (hy : flatOk ys = true) (q : Q (.bl (PyData.eqvAll (xs.map pd) (ys.map pd))) H) : rEqA K (.ref a) (.ref b) H Q :=
  .inr ⟨_, _, .tup h1 (dp_flat hx).1, .tup h2 (dp_flat hy).1, (shaped_flat hx).1, (shaped_flat hy).1, by rw [PyData.eqv]; exact q⟩
theorem o_neTT (h1 : SqT K H a xs) (h2 : SqT K H b ys) (hx : flatOk xs = true) (hy : flatOk ys = true) (q : Q (.bl (!PyData.eqvAll (xs.map pd) (ys.map pd))) H) : rNeA K (.ref a) (.ref b) H Q :=
  .inr ⟨_, _, .tup h1 (dp_flat hx).1, .tup h2 (dp_flat hy).1, (shaped_flat hx).1, (shaped_flat hy).1, by rw [PyData.eqv]; exact q⟩
theorem o_eqLL (h1 : SqL K H a xs) (h2 : SqL K H b ys) (hx : flatOk xs = true) (hy : flatOk ys = true) (q : Q (.bl (PyData.eqvAll (xs.map pd) (ys.map pd))) H) : rEqA K (.ref a) (.ref b) H Q :=
  .inr ⟨_, _, .lst h1 (dp_flat hx).1, .lst h2 (dp_flat hy).1, (shaped_flat hx).2, (shaped_flat hy).2, by rw [PyData.eqv]; exact q⟩
theorem o_neLL (h1 : SqL K H a xs) (h2 : SqL K H b ys) (hx : flatOk xs = true) (hy : flatOk ys = true) (q : Q (.bl (!PyData.eqvAll (xs.map pd) (ys.map pd))) H) : rNeA K (.ref a) (.ref b) H Q :=
  .inr ⟨_, _, .lst h1 (dp_flat hx).1, .lst h2 (dp_flat hy).1, (shaped_flat hx).2, (shaped_flat hy).2, by rw [PyData.eqv]; exact q⟩
theorem eqvAll_same {xs : List V} (h : flatOk xs = true) : PyData.eqvAll (xs.map pd) (xs.map pd) = true := by
  have := SeqAt.eqv_refl (.tuple (xs.map pd)) (by rw [PyData.canLay0]; exact (dp_flat (K := default) (H := fun _ => none) h).2.1)
  rwa [PyData.eqv] at this
/-- equal ones -/
theorem o_neTsame (h1 : SqT K H a xs) (h2 : SqT K H b xs) (hx : flatOk xs = true) (q : Q (.bl false) H) : rNeA K (.ref a) (.ref b) H Q := o_neTT h1 h2 hx hx (by rw [eqvAll_same hx]; exact q)
theorem o_neLsame (h1 : SqL K H a xs) (h2 : SqL K H b xs) (hx : flatOk xs = true) (q : Q (.bl false) H) : rNeA K (.ref a) (.ref b) H Q := o_neLL h1 h2 hx hx (by rw [eqvAll_same hx]; exact q)
theorem o_eqTsame (h1 : SqT K H a xs) (h2 : SqT K H b xs) (hx : flatOk xs = true) (q : Q (.bl true) H) : rEqA K (.ref a) (.ref b) H Q := o_eqTT h1 h2 hx hx (by rw [eqvAll_same hx]; exact q)
theorem o_eqLsame (h1 : SqL K H a xs) (h2 : SqL K H b xs) (hx : flatOk xs = true) (q : Q (.bl true) H) : rEqA K (.ref a) (.ref b) H Q := o_eqLL h1 h2 hx hx (by rw [eqvAll_same hx]; exact q)
end
/-- every choice is a plain text -/
theorem chs_flat : ∀ e ∈ ENT, ∀ c ∈ chs e, PyData.strOk c = true := by
  intro e he
  simp only [ENT, List.mem_cons, List.not_mem_nil, or_false] at he
  rcases he with rfl | rfl | rfl | rfl | rfl | rfl | rfl | rfl | rfl | rfl <;> decide +kernel
end L2.MP
namespace L2.MP
open PySem PySem.Spec PyProof.Rows
section
variable {K : PySem.W.Frag} {H : Hp} {Q : VK}
theorem o_neSame {v : V} (h : scal v v = true) (q : Q (.bl false) H) : rNeA K v v H Q := .inl ⟨h, by rw [decide_eq_true rfl]; exact q⟩
theorem o_eqSame {v : V} (h : scal v v = true) (q : Q (.bl true) H) : rEqA K v v H Q := .inl ⟨h, by rw [decide_eq_true rfl]; exact q⟩
end
theorem memS {l : List Str} {i : Nat} {x : V} (h : (l.map V.str)[i]? = some x) : ∃ c, x = .str c ∧ c ∈ l := by
  obtain ⟨c, hc, rfl⟩ := List.mem_map.mp (List.mem_of_getElem? h)
  exact ⟨c, rfl, hc⟩
end L2.MP
namespace L2.MP
open PySem PySem.Spec PyProof.Rows
class ILit (xs : List V) (l : outParam (List Int)) : Prop where
  eq : xs = l.map V.int
instance : ILit [] [] := ⟨rfl⟩
instance {i : Int} {xs : List V} {l : List Int} [c : ILit xs l] : ILit (V.int i :: xs) (i :: l) := ⟨by rw [c.eq]; rfl⟩
theorem inI {p : Int} {l : List Int} : inV (.int p) (l.map V.int) = decide (p ∈ l) := by
  induction l with
  | nil => simp [inV]
  | cons a l ih =>
    rw [List.map_cons, inV, List.any_cons, ← inV, ih]
    by_cases e : a = p
    · subst e; simp [eqV]
    · have e' : p ≠ a := fun z => e z.symm
      simp [eqV, e, e']
theorem allFI (l : List Int) : (l.map V.int).all flatV = true := by
  induction l with
  | nil => rfl
  | cons a l ih => rw [List.map_cons, List.all_cons, ih]; rfl
section
variable {K : PySem.W.Frag} {H : Hp} {Q : VK} {p : Int} {a : Addr} {xs : List V} {l : List Int}
theorem o_inTI (h : SqT K H a xs) (c : ILit xs l) (q : Q (.bl (decide (p ∈ l))) H) : rInA K false (.int p) (.ref a) H Q := .inl ⟨a, _, rfl, .inr h, rfl, by rw [c.eq]; exact allFI l, by rw [c.eq, inI]; exact q⟩
theorem o_inLI (h : SqL K H a xs) (c : ILit xs l) (q : Q (.bl (decide (p ∈ l))) H) : rInA K false (.int p) (.ref a) H Q := .inl ⟨a, _, rfl, .inl h, rfl, by rw [c.eq]; exact allFI l, by rw [c.eq, inI]; exact q⟩
theorem o_ix2PT {i0 i1 : Int} (h : SqT K H a [.int i0, .int i1]) (hp : 0 ≤ p ∧ p < 2) (q : Q (.int (if p = 1 then i1 else i0)) H) : rIx K (.ref a) (.int p) H Q := by
  by_cases e : p = 1
  · subst e
    exact o_ixT h (atI_nat (j := 1) rfl) q
  · have e0 : p = 0 := by omega
    subst e0
    exact o_ixT h (atI_nat (j := 0) rfl) q
theorem o_ix2PL {i0 i1 : Int} (h : SqL K H a [.int i0, .int i1]) (hp : 0 ≤ p ∧ p < 2) (q : Q (.int (if p = 1 then i1 else i0)) H) : rIx K (.ref a) (.int p) H Q := by
  by_cases e : p = 1
  · subst e
    exact o_ixL h (atI_nat (j := 1) rfl) q
  · have e0 : p = 0 := by omega
    subst e0
    exact o_ixL h (atI_nat (j := 0) rfl) q
end
end L2.MP
namespace L2.MP
open PySem PySem.Spec PyProof.Rows
/-- no bool -/
def nb : V → Bool
  | .int _ => true
  | .str _ => true
  | .non => true
  | _ => false
theorem i_nb {K : PySem.W.Frag} {H : Hp} {Q : VK} {v : V} (h : nb v = true) (q : Q (.bl false) H) : rIsi K [v, .ty "bool"] H Q := by
  cases v <;> first | exact i_plain q | cases h
end L2.MP
namespace L2.MP
open PySem PySem.Spec PyProof.Rows
theorem o_neg {H : Hp} {Q : VK} {p : Int} (q : Q (.int (-p)) H) : rNegI (.int p) H Q := ⟨p, rfl, q⟩
instance w_o_neg {H : Hp} {Q : VK} {p : Int} : W (rNegI (.int p) H Q) (Q (.int (-p)) H) := ⟨fun z => o_neg z⟩
theorem o_isB {H : Hp} {Q : VK} {a b : Bool} (q : Q (.bl (decide (a = b))) H) : rIsB (.bl a) (.bl b) H Q := ⟨a, b, rfl, rfl, q⟩
instance w_o_isB {H : Hp} {Q : VK} {a b : Bool} : W (rIsB (.bl a) (.bl b) H Q) (Q (.bl (decide (a = b))) H) := ⟨fun z => o_isB z⟩
theorem o_ixM {K : PySem.W.Frag} {H : Hp} {Q : VK} {a : Addr} {p : Int} {xs : List V} (h : SqL K H a xs) (h0 : 0 ≤ p) (h1 : p < xs.length) (q : ∀ v, v ∈ xs → Q v H) : rIx K (.ref a) (.int p) H Q := by
  obtain ⟨m, rfl⟩ : ∃ m : Nat, p = (m : Int) := ⟨p.toNat, by omega⟩
  have hm : m < xs.length := by omega
  exact o_ixL h (atI_nat (List.getElem?_eq_getElem hm)) (q _ (List.getElem_mem hm))
end L2.MP
namespace L2.MP
open PySem PySem.Spec PyProof.Rows
/-- the strictest choice -/
def lastc (e : Str) : Str := sv (chs e) ((chs e).length - 1 : Nat)
theorem lastc_ok : ∀ e ∈ ENT, lastc e ∈ chs e ∧ fL [("join" : Str), ("stop" : Str), ("raise" : Str), ("stop" : Str), ("stop" : Str), ("stop" : Str), ("stop" : Str), ("stop" : Str), ("stop" : Str), ("stop" : Str)] e = lastc e ∧ atI ((chs e).map V.str) (-1) = some (.str (lastc e)) ∧ (sv (chs e) 0 ∈ chs e ∧ atI ((chs e).map V.str) 0 = some (.str (sv (chs e) 0))) := by
  intro e he
  simp only [ENT, List.mem_cons, List.not_mem_nil, or_false] at he
  rcases he with rfl | rfl | rfl | rfl | rfl | rfl | rfl | rfl | rfl | rfl <;> decide +kernel
section
variable {K : PySem.W.Frag} {H : Hp} {Q : VK} {e c : Str} {a : Addr}
theorem o_ixLast (h : SqL K H a ((chs e).map V.str)) (he : e ∈ ENT) (q : Q (.str (lastc e)) H) : rIx K (.ref a) (.int (-1)) H Q := o_ixL h (lastc_ok e he).2.2.1 q
theorem k_ninEntF [BookK K] (he : e ∉ ENT) (q : Q (.bl true) H) : rInA K true (.str e) (.ref (He.ga K "ENTRIES")) H Q := k_ninEnt (by rw [decide_eq_false he]; exact q)
theorem k_ninChF [BookK K] (he : e ∈ ENT) (hc : c ∉ chs e) (q : Q (.bl true) H) : rInA K true (.str c) (.ref (chA K e)) H Q := k_ninCh he (by rw [decide_eq_false hc]; exact q)
/-- the wish of an except clause without a name -/
theorem k_wOnly {c cls : Value} {ts : Addr → Value → Option Addr → TS} {Wout : WX} {σ : St} {d : Option Addr} {D : Ends} (hx : PySem.W.exmOne K cls c = some true) (q : ∀ a, H a = none → ts a cls d D σ H) : wOnly K c ts Wout D cls d σ H := ⟨true, hx, fun _ => q, fun z => nomatch z⟩
end
end L2.MP
namespace L2.MP
open PySem PySem.Spec PyProof.Rows
section
variable {σ : St} {H : Hp} {Q : VK} {C : Addr} {sp : Sp} {m : Nat} {gV : List V → List V → List V} {zs vs : List V} {tk : TA}
def RMkK (C : Addr) (m : Nat) (sp : Sp) (gV : List V → List V → List V) (zs : List V) (E : XK) (H1 : Hp) (Q : VK) : Prop := zs.length = m ∧ ∀ x dx, H1 x = none → H1 dx = none → dx ≠ x → sp (gV [.ref x] zs) (upd (upd H1 dx (.own x)) x (.ins C dx [])) (fun v H2 => v = .non ∧ Q (.ref x) H2) E
theorem k_makeKS {E : St → XK} (h : tk σ H fun zs H1 => RMkK C m sp gV zs (E σ) H1 Q) : tMakeKS C m sp gV E tk σ H Q := h
instance w_k_makeKS {E : St → XK} : W (tMakeKS C m sp gV E tk σ H Q) (tk σ H fun zs H1 => RMkK C m sp gV zs (E σ) H1 Q) := ⟨fun z => k_makeKS z⟩
theorem k_rmkK {E : XK} (hl : zs.length = m) (hg : ∀ x, gV [x] zs = x :: vs) (q : RMk C sp vs E H Q) : RMkK C m sp gV zs E H Q := ⟨hl, fun x dx h1 h2 h3 => by rw [hg]; exact q x dx h1 h2 h3⟩
end
end L2.MP

set_option Elab.async false
set_option linter.all false
set_option maxRecDepth 100000
/-! MPCmp: dicts compared in both answers, != by an own __eq__, index of lists and tuples, copies of dicts. -/
namespace L2.MP
open PySem PySem.SeqAt L2 GQ

/-! ### dicts of flat values compared -/
def eqD (ks ls : List (Key × V)) : Bool := ks.length == ls.length && ks.all fun p => match valV ls p.1 with
  | some y => eqV p.2 y
  | none => false
section
variable {κ : Type} [DecidableEq κ]
theorem valV_memP : ∀ {kvs : List (κ × V)} {k : κ} {y : V}, valV kvs k = some y → ∃ p ∈ kvs, p.2 = y
  | [], k, y, h => by cases h
  | q :: r, k, y, h => by
    by_cases e : q.1 = k
    · rw [valV_pos e] at h; exact ⟨q, List.mem_cons_self, Option.some.inj h⟩
    · rw [valV_neg e] at h
      obtain ⟨p, hp, ee⟩ := valV_memP h
      exact ⟨p, List.mem_cons_of_mem _ hp, ee⟩
theorem hits_any {A : Around} {s : Shared} {kvs : List (κ × V)} {vb : List (κ × Value)} (rb : KV kvs vb) (fb : ∀ p ∈ kvs, flatV p.2 = true) {ks : List (κ × V)} {va : List (κ × Value)} (ra : KV ks va) :
    (∀ p ∈ ks, flatV p.2 = true) → PySem.W.KeqHits A s vb va (ks.all fun p => match valV kvs p.1 with
      | some y => eqV p.2 y
      | none => false) := by
  unfold KV at ra
  induction ra with
  | nil => intro _; exact .nil
  | @cons p q ps qs h t ih =>
    intro hp
    obtain ⟨h1, h2⟩ := h
    have f := hp p List.mem_cons_self
    have ih' := ih fun p' hm => hp p' (List.mem_cons_of_mem _ hm)
    obtain ⟨k, v⟩ := q
    have h1' : p.1 = k := h1
    rw [List.all_cons]
    have rr : RelO (valV kvs p.1) (valueAt vb p.1) := rb.val p.1
    rw [h1'] at rr ⊢
    cases e : valV kvs k with
    | none =>
      rw [e] at rr
      exact .miss (by cases e2 : valueAt vb k with
        | none => rfl
        | some y => rw [e2] at rr; exact rr.elim)
    | some y =>
      rw [e] at rr
      obtain ⟨z, hz, rz⟩ := rr.some_of
      have fy : flatV y = true := by
        obtain ⟨pp, hpp, ee⟩ := valV_memP e
        exact ee ▸ fb pp hpp
      exact .hit hz (eqAt_V h2 rz f fy) ih'
end
section
variable {X : Cx}
def rEqDD : R2 := fun x y H Q => ∃ a b ks ls, x = .ref a ∧ y = .ref b ∧ H a = some (.dK ks) ∧ H b = some (.dK ls) ∧ (∀ p ∈ ks, flatV p.2 = true) ∧ (∀ p ∈ ls, flatV p.2 = true) ∧ Q (.bl (eqD ks ls)) H
def rNeDD : R2 := fun x y H Q => ∃ a b ks ls, x = .ref a ∧ y = .ref b ∧ H a = some (.dK ks) ∧ H b = some (.dK ls) ∧ (∀ p ∈ ks, flatV p.2 = true) ∧ (∀ p ∈ ls, flatV p.2 = true) ∧ Q (.bl (!eqD ks ls)) H
theorem op_eqDD (hu : X.A.units < cLine) : OpR X (compareOp .Eq) rEqDD := by
  intro pins s σ H x y v u Q I rx ry h
  obtain ⟨a, b, ks, ls, rfl, rfl, ea, eb, fk, fl, q⟩ := h
  obtain rfl : v = Value.ref a := rx
  obtain rfl : u = Value.ref b := ry
  obtain ⟨_, ya, va, ra, da⟩ := (show ObjOk X.prog X.w H s.heap a (.dK ks) from I.hok a _ ea)
  obtain ⟨_, yb, vb, rb, db⟩ := (show ObjOk X.prog X.w H s.heap b (.dK ls) from I.hok b _ eb)
  refine PySem.W.keq_eq (knd := mixKind X.prog X.w) ya yb da db hu (fun _ => hits_any rb fl ra fk) ?_
  rw [← ra.length, ← rb.length]
  exact fin_bl I q rfl
theorem op_neDD (hu : X.A.units < cLine) : OpR X (compareOp .NotEq) rNeDD := by
  intro pins s σ H x y v u Q I rx ry h
  obtain ⟨a, b, ks, ls, rfl, rfl, ea, eb, fk, fl, q⟩ := h
  obtain rfl : v = Value.ref a := rx
  obtain rfl : u = Value.ref b := ry
  obtain ⟨_, ya, va, ra, da⟩ := (show ObjOk X.prog X.w H s.heap a (.dK ks) from I.hok a _ ea)
  obtain ⟨_, yb, vb, rb, db⟩ := (show ObjOk X.prog X.w H s.heap b (.dK ls) from I.hok b _ eb)
  refine PySem.W.keq_ne (knd := mixKind X.prog X.w) ya yb da db hu (fun _ => hits_any rb fl ra fk) ?_
  rw [← ra.length, ← rb.length]
  exact fin_bl I q rfl

/-! ### copies, index -/
def rDictA : List V → Hp → VK → Prop := fun xs H Q => ∃ (a : Addr) (kvs : List (Key × V)), xs = [.ref a] ∧ H a = some (.dK kvs) ∧ ∀ p, H p = none → Q (.ref p) (upd H p (.dK kvs))
theorem call_dictA : CallR X (.type "dict") rDictA := by
  intro pins s σ H xs us Q I r q
  obtain ⟨a, kvs, e, h, q⟩ := q
  exact call_dictD pins s σ H xs us Q I r ⟨a, kvs, e, .inl h, q⟩
def rTIndex (K : PySem.W.Frag) : V → List V → Hp → VK → Prop := fun x xs H Q => ∃ p, ∃ ys : List Str, ∃ z j, x = .ref p ∧ xs = [.str z] ∧ SqT K H p (ys.map V.str) ∧ ys[j]? = some z ∧ (∀ m, m < j → ys[m]? ≠ some z) ∧ Q (.int (j : Nat)) H
theorem mt_tindex : MtR X "tuple.index" (rTIndex X.K) := mt_tup_index
end

/-! ### != of two instances whose class has an own __eq__ and no __ne__ -/
section
open PySem.W PySem.Spec PySem.Calls PyProof.Rows
variable {prog : Program} {w : World} {A A₀ : Around} {E : Value → Shared → Prop} {s : Shared} {K : PySem.W.Frag} {x C L f : Addr} {h₀ : Heap} {m : Str → Option Value} {ox : Obj} {od : Option Obj} {name : Str} {b tb : Value}
theorem ifBoundB_K {M : Model} {id : String} {args : List Value} {Q : Option Value → Shared → Prop} (X : K.In s.heap) (I : InstAt s.heap x ox C od) (hs : findIn K (.ref C) name = some (some (.builtin id))) (S : Slot "object" name id)
    (h : wpAny M A (call (.builtin id) (.ref x :: args)) (fun v => Q (some v)) E s) : wpAny M A (callSpecialIfBound? (.ref x) name args) Q E s := by
  simp only [callSpecialIfBound?, bindSpecialIfBound?]
  refine wpAny_holding (wpAny_bind (wpAny_bind (wpAny_bind (I.type.here ((looks_findIn X hs).here ?_)))))
  refine wpAny_bind (wpAny_askSetting (wpAny_ite ?_))
  have fin : wpAny M A (call (.builtin id) ([.ref x] ++ args) >>= fun v => pure (some v)) Q E s := wpAny_bind (wpAny_mono h (fun v s' h' => wpAny_pure h') fun _ _ h' => h')
  simp only [S.bind]
  split
  · exact wpAny_bind (wpAny_pure (wpAny_pure fin))
  · exact wpAny_tryCatch (wpAny_bind (wpAny_pure (wpAny_pure fin)))
theorem objNe_K {Q : Fin → Shared → Prop} (hu : A.units < cLine) (X : K.In s.heap) (I : InstAt s.heap x ox C od) (hs : findIn K (.ref C) "__eq__" = some (some (.ref f))) (hf : isFn K (.ref f) = true)
    (hcall : wpAny (model prog w) A (call (.ref f) [.ref x, b]) (fun v s' => ∃ b, v = .bool b ∧ Q (.done (.ret (.bool (!b)))) s') E s) :
    wpAny (model prog w) A (Builtin.«object.__ne__» ⟨[.ref x, b], []⟩) Q E s := by
  obtain ⟨h, g, d, t, os⟩ := s
  unfold Builtin.«object.__ne__»
  repeat (first
    | with_reducible refine wpAny_cRoomFor hu ?_
    | (refine wpAny_bind (m := callSpecialIfBound? (.ref x) (Str.ofString "__eq__") [b])
        (ifBound_K X I hs hf (wpAny_mono hcall (fun r s' hr => by
          obtain ⟨b, rfl, hq⟩ := hr
          repeat (first | exact hq | exact wpAny_pure hq | exact wpAny_truthy_bool hq | (refine wpAny_bind (m := truthy (.bool _)) (wpAny_truthy_bool ?_)) | wp_step)) fun _ _ e => e)))
    | wp_step)
theorem tryNe_K {Q : Option Value → Shared → Prop} (hu : A.units + 1 < cLine) (X : K.In s.heap) (I : InstAt s.heap x ox C od) (hn : findIn K (.ref C) "__ne__" = some (some (.builtin "object.__ne__"))) (hb : subIn K (.ref C) (.type "object") = some true)
    (hs : findIn K (.ref C) "__eq__" = some (some (.ref f))) (hf : isFn K (.ref f) = true)
    (hcall : wpAny (model prog w) A.in1 (call (.ref f) [.ref x, b]) (fun v s' => ∃ b, v = .bool b ∧ Q (some (.bool (!b))) s') E s) :
    wpAny (model prog w) A (tryCompare (.ref x) "__ne__" b) Q E s := by
  unfold tryCompare
  refine wpAny_bind (ifBoundB_K X I hn PySem.F.cmp_object.ne (wpAny_call (codeAny_call_builtin PySem.F.cmp_object.ne.plain PySem.F.cmpEntry_ne
    (check_slot PySem.F.cmpKind_ne PySem.F.cmpSplit_ne (I.type.andThen (looks_subIn X hb)) (PySem.F.cmpArgs_ne _ _)
      (objNe_K (A := A.in1) hu X I hs hf (wpAny_mono hcall (fun v s' hv => ?_) fun _ _ e => e))))))
  · obtain ⟨b, rfl, hq⟩ := hv
    first | exact ⟨b, rfl, wpAny_pure hq⟩ | exact ⟨b, rfl, wpAny_pure (wpAny_pure hq)⟩ | exact ⟨b, rfl, hq⟩
theorem ne_K {Q : Value → Shared → Prop} (hu : A.units + 1 < cLine) (F : Fr h₀ L s.heap m) (X₀ : K.In h₀) (I : InstAt s.heap x ox C od) (hbt : Looks (model prog w) s.heap (typeOf b) tb) (hnf : notFirst K C tb = true)
    (hn : findIn K (.ref C) "__ne__" = some (some (.builtin "object.__ne__"))) (hb : subIn K (.ref C) (.type "object") = some true)
    (hs : findIn K (.ref C) "__eq__" = some (some (.ref f))) (hf : isFn K (.ref f) = true)
    (h : wpAny (model prog w) A.in1 (call (.ref f) [.ref x, b]) (fun v s' => ∃ b, v = .bool b ∧ Q (.bool (!b)) s') E s) : wpAny (model prog w) A (richCompare .NotEq (.ref x) b) Q E s := by
  have X := X₀.keeps F.keep
  have one : wpAny (model prog w) A (tryCompare (.ref x) "__ne__" b) (fun r s' => ∃ v, r = some v ∧ Q v s') E s :=
    tryNe_K hu X I hn hb hs hf (wpAny_mono h (fun v s' ⟨b, e, q⟩ => ⟨b, e, _, rfl, q⟩) fun _ _ e => e)
  unfold richCompare
  simp only [oneThing_ref]
  refine wpAny_holding (wpAny_bind (wpAny_cRoomFor (Nat.lt_of_succ_lt hu) ?_))
  refine wpAny_bind (I.type.here (wpAny_bind (hbt.here ?_)))
  split
  · rename_i q
    have e : subIn K tb (.ref C) = some false := by
      rcases Bool.or_eq_true_iff.mp hnf with e | e
      · rw [beq_iff_eq.mp e] at q; simp at q
      · exact beq_iff_eq.mp e
    refine wpAny_bind ((looks_subIn X e).here ?_)
    simp only [Bool.false_eq_true, if_false]
    refine wpAny_bind (wpAny_mono one (fun r s' z => ?_) fun _ _ e => e)
    obtain ⟨v, rfl, hq⟩ := z
    exact wpAny_pure hq
  · refine wpAny_bind (wpAny_pure ?_)
    simp only [Bool.false_eq_true, if_false]
    refine wpAny_bind (wpAny_mono one (fun r s' z => ?_) fun _ _ e => e)
    obtain ⟨v, rfl, hq⟩ := z
    exact wpAny_pure hq
end
section
variable {X : Cx} {k : Nat} {f C : Addr} {fd : FuncData} {ps : List Str} {sp : Sp}
/-- what != needs of the class at C -/
structure NeOf (K : PySem.W.Frag) (C : Addr) : Prop where
  ne : PySem.W.findIn K (.ref C) "__ne__" = some (some (.builtin "object.__ne__"))
  sub : PySem.W.subIn K (.ref C) (.type "object") = some true
def neB (K : PySem.W.Frag) (C : Addr) : Bool := decide (PySem.W.findIn K (.ref C) "__ne__" = some (some (.builtin "object.__ne__"))) && decide (PySem.W.subIn K (.ref C) (.type "object") = some true)
theorem neOf {K : PySem.W.Frag} {C : Addr} (h : neB K C = true) : NeOf K C := by
  obtain ⟨a, b⟩ := Bool.and_eq_true_iff.mp h
  exact ⟨of_decide_eq_true a, of_decide_eq_true b⟩
def rOwnNe (C : Addr) (sp : Sp) : R2 := fun x y H Q => ∃ a dx fs b dy gs, x = .ref a ∧ y = .ref b ∧ H a = some (.ins C dx fs) ∧ H b = some (.ins C dy gs) ∧ sp [.ref a, .ref b] H (fun v H' => ∃ r, v = .bl r ∧ Q (.bl (!r)) H') E0
theorem rc_ownNe (F : FnOk X.prog X.w X.K X.mg X.base (L2.CX X.prog X.w) k f fd ps sp) (hr : Room (k + 1) X.A) (hb : Binds X.K fd ps []) (hn : PySem.W.notFirst X.K C (.ref C) = true) (hn2 : neB X.K C = true) (hs : Spc X.K C "__eq__" f) : OpR X (compareOp .NotEq) (rOwnNe C sp) := by
  have hne := neOf hn2
  rintro pins s σ H x y v u Q I rx ry ⟨a, dx, fs, b, dy, gs, rfl, rfl, ha, hbb, q⟩
  cases rx
  cases ry
  obtain ⟨od, J⟩ := inst_of I ha
  obtain ⟨od2, J2⟩ := inst_of I hbb
  obtain ⟨m, fr⟩ := I.fr
  have rv : Vals [V.ref a, V.ref b] [Value.ref a, Value.ref b] := .cons rfl (.cons rfl .nil)
  unfold compareOp
  refine ne_K (by have := hr.un; omega) fr I.mod.kin J J2.type hn hne.ne hne.sub hs.at_ hs.fn ?_
  refine wpAny_mono (wpAny_call (codeAny_mono (F.run X.A.in1 X.stack s H ⟨[.ref a, .ref b], []⟩ [.ref a, .ref b] [.ref a, .ref b] _ E0 hr.in1 I.env0.in1 (hb s _ I.kIn ?_) rv q) fun r s' hq => back_of (passL0 (σ := σ)) I hq)) ?_ fun _ _ e => e
  · exact F.len _ _ _ _ q
  · rintro u s1 ⟨w, H1, I1, rw', r, rfl, q1⟩
    cases rw'
    exact ⟨r, rfl, .bl (!r), H1, I1, rfl, q1⟩
end

/-! ### methods of the written tuples of choices -/
section
variable {K : PySem.W.Frag} {H : Hp} {Q : VK} {σ : St} {tr : TA} {e : Str} {ro : V → List V → Hp → VK → Prop}
def chDB (K : PySem.W.Frag) : Bool := ENT.all fun e => match K.lookup (chA K e) with
  | some o => decide (o.cls = .type "tuple") && o.dict.isNone
  | none => false
theorem k_rbmT (h : chDB K = true) (he : e ∈ ENT) (q : tr σ H fun xs H2 => ro (.ref (chA K e)) xs H2 Q) : RBM K "tuple" ro tr σ Q (.ref (chA K e)) H := by
  have h1 := List.all_eq_true.mp h e he
  split at h1
  · rename_i o eo
    obtain ⟨h2, h3⟩ := He.ba h1
    exact ⟨.inr (.inl ⟨rfl, o, eo, of_decide_eq_true h2, Option.isNone_iff_eq_none.mp h3⟩), q⟩
  · cases h1
end
end L2.MP

set_option Elab.async false
set_option linter.all false
set_option maxRecDepth 100000
set_option maxHeartbeats 4000000
/-! MPDL: lists of dicts compared and searched; a loop over the keys of a dict. -/
namespace L2.MP
open PySem PySem.SeqAt L2 GQ
open PySem.MeetsSeq PySem.MeetsSeq2 PySem.MeetsSeq3 PySem.SeqRoads2
/-- a dict of flat values -/
structure DF (H : Hp) (p : Addr) (ks : List (Key × V)) : Prop where
  at_ : H p = some (.dK ks)
  flat : ∀ q ∈ ks, flatV q.2 = true
section
variable {κ : Type} [DecidableEq κ]
theorem hits_anyP {prog : Program} {w : World} {A : Around} {s : Shared} {kvs : List (κ × V)} {vb : List (κ × Value)} (rb : KV kvs vb) (fb : ∀ p ∈ kvs, flatV p.2 = true) {ks : List (κ × V)} {va : List (κ × Value)} (ra : KV ks va) :
    (∀ p ∈ ks, flatV p.2 = true) → PySem.W.KeqHitsP prog w A s vb va (ks.all fun p => match valV kvs p.1 with
      | some y => eqV p.2 y
      | none => false) := by
  unfold KV at ra
  induction ra with
  | nil => intro _; exact .nil
  | @cons p q ps qs h t ih =>
    intro hp
    obtain ⟨h1, h2⟩ := h
    have f := hp p List.mem_cons_self
    have ih' := ih fun p' hm => hp p' (List.mem_cons_of_mem _ hm)
    obtain ⟨k, v⟩ := q
    have h1' : p.1 = k := h1
    rw [List.all_cons]
    have rr : RelO (valV kvs p.1) (valueAt vb p.1) := rb.val p.1
    rw [h1'] at rr ⊢
    cases e : valV kvs k with
    | none =>
      rw [e] at rr
      exact .miss (by cases e2 : valueAt vb k with
        | none => rfl
        | some y => rw [e2] at rr; exact rr.elim)
    | some y =>
      rw [e] at rr
      obtain ⟨z, hz, rz⟩ := rr.some_of
      have fy : flatV y = true := by
        obtain ⟨pp, hpp, ee⟩ := valV_memP e
        exact ee ▸ fb pp hpp
      exact .hit hz (eqAt_V h2 rz f fy).eqP ih'
end
section
variable {X : Cx} {pins : List (Addr × Obj)} {σ : St} {H : Hp} {s : Shared}
theorem eqP_DD {A : Around} (I : Inv X pins σ H s) (hu : A.units < cLine) {p q : Addr} {ks ls : List (Key × V)} (hp : DF H p ks) (hq : DF H q ls) : EqP X.prog X.w A s (.ref p) (.ref q) (decide (p = q) || eqD ks ls) := by
  by_cases e : p = q
  · subst e
    rw [decide_eq_true rfl, Bool.true_or]
    intro E Q h
    unfold eqBool
    refine wpAny_holding ?_
    refine wpAny_ite_split (fun _ => ?_) (fun hab => absurd (by simp) hab)
    repeat (first | exact wpAny_pure h | exact h | wp_step)
  · rw [decide_eq_false e, Bool.false_or]
    obtain ⟨_, ya, va, ra, da⟩ := (show ObjOk X.prog X.w H s.heap p (.dK ks) from I.hok p _ hp.at_)
    obtain ⟨_, yb, vb, rb, db⟩ := (show ObjOk X.prog X.w H s.heap q (.dK ls) from I.hok q _ hq.at_)
    refine eqP_refs e fun E Q h => PySem.W.rcP_dicts (knd := mixKind X.prog X.w) ya yb da db hu (fun _ => hits_anyP rb hq.flat ra hp.flat) E Q ?_
    rw [← ra.length, ← rb.length]
    exact h
end
section
variable {prog : Program} {w : World}
open AutoSeq1 (wpAny_loadPart')
/-- two lists alike: != is False -/
theorem ne_sameLoop (l b : Addr) (us vs : Array Value) (n n2 : Nat) (dd dd2 : Option Addr) (sl sl2 : Array (Option Value)) (hsz : us.size = vs.size) (k : Nat) :
    ∀ i : Nat, us.size - i = k → MeetsIn prog w (Builtin.«list.__eq__.loop» ⟨[.ref l, .ref b, rawInt i, rawInt 3], []⟩)
      (fun A R s => s.heap.get? l = some { cls := .type "list", dict := dd, data := .seq us n, slots := sl } ∧ s.heap.get? b = some { cls := .type "list", dict := dd2, data := .seq vs n2, slots := sl2 } ∧
        (∀ j (h1 : j < us.size) (h2 : j < vs.size), EqP prog w A.in1 s us[j] vs[j] true) ∧ R (.ok (.ret (.bool false))) s) := by
  induction k with
  | zero =>
    intro i hk A R s h
    obtain ⟨hp, g, d, tk, os⟩ := s
    obtain ⟨hl, hb, he, h⟩ := h
    wp_walk using wpAny_loadPart' hl, wpAny_loadPart' hb
    have hi1 : us[((i : Nat) : Int).toNat]? = none := by simp; omega
    have hi2 : vs[((i : Nat) : Int).toNat]? = none := by simp; omega
    rw [hi1, hi2]
    wp_walk using wpAny_loadPart' hl, wpAny_loadPart' hb
    show R (.ok (.ret (.bool (us.size != vs.size)))) _
    rw [hsz]
    simpa using h
  | succ k ih =>
    intro i hk A R s h
    obtain ⟨hp, g, d, tk, os⟩ := s
    obtain ⟨hl, hb, he, h⟩ := h
    wp_walk using wpAny_loadPart' hl, wpAny_loadPart' hb
    have hlt : i < us.size := by omega
    have hlt2 : i < vs.size := by omega
    have hi1 : us[((i : Nat) : Int).toNat]? = some us[i] := by simp [hlt]
    have hi2 : vs[((i : Nat) : Int).toNat]? = some vs[i] := by simp [hlt2]
    have hc : ((i : Int) + 1) = ((i + 1 : Nat) : Int) := by push_cast; rfl
    rw [hi1, hi2]
    refine wpAny_bind (he i hlt hlt2 _ _ ?_)
    wp_walk
    rw [hc]
    exact ⟨plainId_quiet plain_eq_loop _, codeAny_builtin entry_eq_loop (by
      rw [Around.under_plainId plain_eq_loop _]
      exact ih (i + 1) (by omega) A R _ ⟨hl, hb, he, h⟩)⟩
theorem ne_same (l b : Addr) (us vs : Array Value) (n n2 : Nat) (dd dd2 : Option Addr) (sl sl2 : Array (Option Value)) (hsz : us.size = vs.size) :
    MeetsIn prog w (Builtin.«list.__ne__» ⟨[.ref l, .ref b], []⟩)
      (fun A R s => s.heap.get? l = some { cls := .type "list", dict := dd, data := .seq us n, slots := sl } ∧ s.heap.get? b = some { cls := .type "list", dict := dd2, data := .seq vs n2, slots := sl2 } ∧
        (∀ j (h1 : j < us.size) (h2 : j < vs.size), EqP prog w A.in1 s us[j] vs[j] true) ∧ R (.ok (.ret (.bool false))) s) := by
  intro A R s h
  obtain ⟨hp, g, d, tk, os⟩ := s
  obtain ⟨hl, hb, he, h⟩ := h
  have f3 := AutoSeq1.sub_list_list
  have hne : ¬ (us.size != vs.size) = true := by simp [hsz]
  wp_walk using wpAny_loadPart' hl, wpAny_loadPart' hb
  exact ⟨plainId_quiet plain_eq_loop _, codeAny_builtin entry_eq_loop (by
    rw [Around.under_plainId plain_eq_loop _]
    exact ne_sameLoop l b us vs n n2 dd dd2 sl sl2 hsz _ 0 rfl A R _ ⟨hl, hb, he, h⟩)⟩
/-- is x in the list -/
theorem has_loop (l : Addr) (us : Array Value) (n : Nat) (dd : Option Addr) (sl : Array (Option Value)) (x : Value) (e : Value → Bool) (k : Nat) :
    ∀ i : Nat, us.size - i = k → MeetsIn prog w (Builtin.«list.__contains__.loop» ⟨[.ref l, x, rawInt i], []⟩)
      (fun A R s => s.heap.get? l = some { cls := .type "list", dict := dd, data := .seq us n, slots := sl } ∧ (∀ y, y ∈ us → EqP prog w A.in1 s y x (e y)) ∧ R (.ok (.ret (.bool ((us.toList.drop i).any e)))) s) := by
  induction k with
  | zero =>
    intro i hk A R s h
    obtain ⟨hp, g, d, tk, os⟩ := s
    obtain ⟨hl, he, h⟩ := h
    wp_walk using wpAny_loadPart' hl
    have hi : us[((i : Nat) : Int).toNat]? = none := by simp; omega
    have hd : us.toList.drop i = [] := by simp; omega
    rw [hd] at h
    rw [hi]
    wp_walk
    exact h
  | succ k ih =>
    intro i hk A R s h
    obtain ⟨hp, g, d, tk, os⟩ := s
    obtain ⟨hl, he, h⟩ := h
    wp_walk using wpAny_loadPart' hl
    have hlt : i < us.size := by omega
    have hi : us[((i : Nat) : Int).toNat]? = some us[i] := by simp [hlt]
    have hd : us.toList.drop i = us[i] :: us.toList.drop (i + 1) := by simp [List.drop_eq_getElem_cons, hlt]
    rw [hd, List.any_cons] at h
    rw [hi]
    refine wpAny_bind (he _ (Array.getElem_mem hlt) _ _ ?_)
    cases hb : e us[i] with
    | true =>
      rw [hb] at h
      wp_walk
      exact h
    | false =>
      rw [hb] at h
      have hc : ((i : Int) + 1) = ((i + 1 : Nat) : Int) := by push_cast; rfl
      wp_walk
      rw [hc]
      exact ⟨plainId_quiet plain_contains_loop _, codeAny_builtin entry_contains_loop (by
        rw [Around.under_plainId plain_contains_loop _]
        exact ih (i + 1) (by omega) A R _ ⟨hl, he, by simpa using h⟩)⟩
theorem has_list (l : Addr) (us : Array Value) (n : Nat) (dd : Option Addr) (sl : Array (Option Value)) (x : Value) (e : Value → Bool) :
    MeetsIn prog w (Builtin.«list.__contains__» ⟨[.ref l, x], []⟩)
      (fun A R s => s.heap.get? l = some { cls := .type "list", dict := dd, data := .seq us n, slots := sl } ∧ (∀ y, y ∈ us → EqP prog w A.in1 s y x (e y)) ∧ R (.ok (.ret (.bool (us.any e)))) s) := by
  intro A R s h
  obtain ⟨hp, g, d, tk, os⟩ := s
  obtain ⟨hl, he, h⟩ := h
  wp_walk using wpAny_loadPart' hl
  exact ⟨plainId_quiet plain_contains_loop _, codeAny_builtin entry_contains_loop (by
    rw [Around.under_plainId plain_contains_loop _]
    exact has_loop l us n dd sl x e _ 0 rfl A R _ ⟨hl, he, by simpa using h⟩)⟩
end
section
variable {X : Cx} {K : PySem.W.Frag}
/-- two lists of dicts that are alike -/
def rNeLD (K : PySem.W.Frag) : R2 := fun x y H Q => ∃ (a b : Addr) (xs ys : List V), x = .ref a ∧ y = .ref b ∧ SqL K H a xs ∧ SqL K H b ys ∧ xs.length = ys.length ∧
  (∀ (j : Nat) (x y : V), xs[j]? = some x → ys[j]? = some y → ∃ (p q : Addr) (ks ls : List (Key × V)), x = .ref p ∧ y = .ref q ∧ DF H p ks ∧ DF H q ls ∧ eqD ks ls = true) ∧ Q (.bl false) H
theorem vals_getI {xs : List V} {us : List Value} (r : Vals xs us) {j : Nat} (h : j < us.length) : ∃ x, xs[j]? = some x ∧ RelV x us[j] := by
  induction r generalizing j with
  | nil => exact absurd h (Nat.not_lt_zero _)
  | cons r t ih =>
    cases j with
    | zero => exact ⟨_, rfl, r⟩
    | succ j => exact ih (Nat.lt_of_succ_lt_succ h)
theorem op_neLD (hu : X.A.units + 1 < cLine) : OpR X (compareOp .NotEq) (rNeLD X.K) := by
  intro pins s σ H x y v u Q I rx ry h
  obtain ⟨a, b, xs, ys, rfl, rfl, ea, eb, hl, hj, q⟩ := h
  obtain rfl : v = Value.ref a := rx
  obtain rfl : u = Value.ref b := ry
  obtain ⟨us, r1, p1, z1⟩ := I.list ea
  obtain ⟨vs, r2, p2, z2⟩ := I.list eb
  obtain ⟨⟨cls, dd, data, sl⟩, ho, hc, n, hd⟩ := id p1.isList
  obtain ⟨⟨cls2, dd2, data2, sl2⟩, ho2, hc2, n2, hd2⟩ := id p2.isList
  simp only at hc hd hc2 hd2
  subst hc hd hc2 hd2
  have hsz : us.toArray.size = vs.toArray.size := by
    have e1 := r1.length
    have e2 := r2.length
    simp only [List.size_toArray]
    omega
  have ta : s.TypeIs (.ref a) "list" := ⟨_, ho, rfl⟩
  have tb : s.TypeIs (.ref b) "list" := ⟨_, ho2, rfl⟩
  show wpAny _ _ (richCompare .NotEq (.ref a) (.ref b)) _ _ s
  refine wpAny_richCompare_same_room (op := .NotEq) ta tb F.slot_list_ne (call_meetsIn F.slot_list_ne ta F.entry_list_ne (F.args_list_ne_2 _ _) (ne_same a b us.toArray vs.toArray n n2 dd dd2 sl sl2 hsz)
    ⟨ho, ho2, fun j h1 h2 => ?_, show Value.bool false ≠ Value.notImplemented ∧ _ from ⟨(fun x => nomatch x), ⟨.bl false, H, I, rfl, q⟩⟩⟩) (Nat.lt_of_succ_lt hu)
  obtain ⟨x, hx, rx⟩ := vals_getI r1 (j := j) (by simpa using h1)
  obtain ⟨y, hy, ry⟩ := vals_getI r2 (j := j) (by simpa using h2)
  obtain ⟨p, q', ks, ls, rfl, rfl, d1, d2, e⟩ := hj j x y hx hy
  have e1 : us.toArray[j] = Value.ref p := by
    have z : us[j]'(by simpa using h1) = Value.ref p := rx
    simpa using z
  have e2 : vs.toArray[j] = Value.ref q' := by
    have z : vs[j]'(by simpa using h2) = Value.ref q' := ry
    simpa using z
  rw [e1, e2]
  have z := eqP_DD (A := X.A.in1) I (by first | exact hu | (show X.A.units + 1 < cLine; exact hu)) d1 d2
  rw [e, Bool.or_true] at z
  exact z
/-- is a dict in a list of dicts -/
def rInLD (K : PySem.W.Frag) : R2 := fun x y H Q => ∃ (p b : Addr) (ks : List (Key × V)) (ys : List V) (e : V → Bool), x = .ref p ∧ y = .ref b ∧ DF H p ks ∧ SqL K H b ys ∧ (∀ y ∈ ys, ∃ q ls, y = .ref q ∧ DF H q ls ∧ e y = (decide (q = p) || eqD ls ks)) ∧ Q (.bl (ys.any e)) H
theorem any_vals {e : V → Bool} {e' : Value → Bool} : ∀ {xs : List V} {us : List Value}, Vals xs us → (∀ x ∈ xs, ∃ q, x = V.ref q ∧ e x = e' (Value.ref q)) → us.any e' = xs.any e
  | _, _, .nil, _ => rfl
  | x :: xs, u :: us, .cons r t, h => by
    obtain ⟨q, rfl, eq⟩ := h x List.mem_cons_self
    have r' : u = Value.ref q := r
    rw [List.any_cons, List.any_cons, r', eq, any_vals t fun y hy => h y (List.mem_cons_of_mem _ hy)]
theorem vals_mem {xs : List V} {us : List Value} (r : Vals xs us) {u : Value} (h : u ∈ us) : ∃ x ∈ xs, RelV x u := by
  induction r with
  | nil => cases h
  | cons r t ih =>
    rcases List.mem_cons.mp h with rfl | h
    · exact ⟨_, List.mem_cons_self, r⟩
    · obtain ⟨x, hx, rx⟩ := ih h
      exact ⟨x, List.mem_cons_of_mem _ hx, rx⟩
theorem op_inLD (hu : X.A.units + 1 < cLine) : OpR X (compareOp .In) (rInLD X.K) := by
  intro pins s σ H x y v u Q I rx ry h
  obtain ⟨p, b, ks, ys, e, rfl, rfl, dp, eb, hy, q⟩ := h
  obtain rfl : v = Value.ref p := rx
  obtain rfl : u = Value.ref b := ry
  obtain ⟨us, r1, p1, z1⟩ := I.list eb
  obtain ⟨⟨cls, dd, data, sl⟩, ho, hc, n, hd⟩ := id p1.isList
  simp only at hc hd
  subst hc hd
  let e' : Value → Bool := fun u => match u with
    | .ref q => e (.ref q)
    | _ => false
  have tb : s.TypeIs (.ref b) "list" := ⟨_, ho, rfl⟩
  show wpAny _ _ (do return Value.bool (← contains (.ref b) (.ref p))) _ _ s
  refine wpAny_bind (wpAny_contains_slot tb F.slot_list_contains (wpAny_mono (call_meetsIn (Q := fun v s' => ∃ b, v = Value.bool b ∧ EP X pins σ Q (Value.bool b) s') F.slot_list_contains tb F.entry_list_contains (F.args_list_contains_2 _ _)
    (has_list b us.toArray n dd sl (.ref p) e') ⟨ho, fun y hm => ?_, ?_⟩) (fun v s' hv => ?_) fun _ _ e => e))
  · obtain ⟨x, hx, rx⟩ := vals_mem r1 (u := y) (by simpa using hm)
    obtain ⟨q', ls, rfl, dq, ee⟩ := hy x hx
    obtain rfl : y = Value.ref q' := rx
    show EqP _ _ _ _ _ _ (e (.ref q'))
    rw [ee]
    exact eqP_DD I (by first | exact hu | (show X.A.units + 1 < cLine; exact hu)) dq dp
  · refine ⟨_, rfl, .bl _, H, I, rfl, ?_⟩
    have z : us.toArray.any e' = ys.any e := by
      rw [show us.toArray.any e' = us.any e' by simp]
      exact any_vals r1 fun x hx => let ⟨q', _, h1, _, _⟩ := hy x hx; ⟨q', h1, by rw [h1]⟩
    rw [z]
    exact q
  · obtain ⟨b, rfl, hq⟩ := hv
    exact wpAny_truthy_bool (wpAny_pure hq)
end
/-! ### a loop over the keys of a dict, which is only read meanwhile -/
section
variable {K : PySem.W.Frag} {i : Nat} {tb : TS} {n b c : St → Hp → Prop} {r : VK} {σ : St} {H : Hp} {te : TE}
theorem k_forKeys {d : Addr} {kvs : List (Key × V)} (h : H d = some (.dK kvs)) (hte : ∀ od (R : VK), R (.ref d) (upd H d (.frz od (.dK kvs))) → te σ (upd H d (.frz od (.dK kvs))) R) (P : Obj → Nat → St → Hp → Prop)
    (h0 : ∀ od, P od 0 σ (upd H d (.frz od (.dK kvs)))) (hd : ∀ od m σ H, P od m σ H → H d = some (.frz od (.dK kvs)))
    (ht : ∀ od m k v σ H, kvs[m]? = some (k, v) → P od m σ H → tb ⟨P od (m + 1), fun v H' => H' d = some (.frz od (.dK kvs)) ∧ r v (upd H' d (.dK kvs)), fun σ' H' => H' d = some (.frz od (.dK kvs)) ∧ n σ' (upd H' d (.dK kvs)), P od (m + 1)⟩ (σ.set i (some (kV k))) H)
    (he : ∀ od σ H, P od kvs.length σ H → n σ (upd H d (.dK kvs))) : tLock (tFor (iKeys te) (gName i) tb) ⟨n, r, b, c⟩ σ H := by
  refine ⟨d, .dK kvs, h, trivial, fun od => hte od _ ⟨d, od, rfl, .inl ⟨kvs, upd_same, ?_⟩⟩⟩
  refine ⟨fun j m σ H => m = kvs.length - j ∧ j ≤ kvs.length ∧ P od j σ H, ⟨_, rfl, Nat.zero_le _, h0 od⟩, fun j m σ H ⟨hm, hj, hP⟩ => ?_⟩
  have hH := hd od j σ H hP
  rcases Nat.lt_or_ge j kvs.length with hlt | hge
  · refine .inr ⟨⟨hH, hlt⟩, P od (j + 1), fun σ' H' p' => ⟨kvs.length - (j + 1), by omega, rfl, hlt, p'⟩, fun x H' y => ?_⟩
    obtain ⟨rfl, k, v, hk, rfl⟩ := y
    exact ht od j k v σ H' hk hP
  · have e : j = kvs.length := by omega
    subst e
    exact .inl ⟨⟨hH, Nat.le_refl _⟩, hH, he od σ H hP⟩
end
end L2.MP

set_option Elab.async false
set_option linter.all false
set_option maxRecDepth 100000
set_option maxHeartbeats 4000000
/-! An own `in`; an own call. -/
namespace L2.MP
open PySem PySem.Spec PyProof.Rows L2
section
variable {X : Cx} {k : Nat} {f C : Addr} {fd : FuncData} {ps : List Str} {sp : Sp}
/-- v in o, o of the class at C -/
def rOwnIn (C : Addr) (sp : Sp) : R2 := fun x y H Q => ∃ a dx fs, y = .ref a ∧ H a = some (.ins C dx fs) ∧ sp [.ref a, x] H (fun v H' => ∃ b, v = .bl b ∧ Q (.bl b) H') E0
theorem op_ownIn (F : FnOk X.prog X.w X.K X.mg X.base (L2.CX X.prog X.w) k f fd ps sp) (hr : Room k X.A) (hb : Binds X.K fd ps []) (hs : Spc X.K C "__contains__" f) : OpR X (compareOp .In) (rOwnIn C sp) := by
  rintro pins s σ H x y v u Q I rx ry ⟨a, dx, fs, rfl, ha, q⟩
  cases ry
  obtain ⟨od, J⟩ := inst_of I ha
  obtain ⟨m, fr⟩ := I.fr
  refine PySem.W.in_K fr I.mod.kin J hs.at_ hs.fn (thn (run_fn (us := [.ref a, v]) (vs := [.ref a, x]) (dvs := []) F hr hb .nil passL I (.cons rfl (.cons rx .nil)) q) ?_)
  rintro r s1 ⟨w, H1, I1, rw', b, rfl, q1⟩
  cases rw'
  exact wpAny_pure ⟨.bl b, H1, I1, rfl, q1⟩
end
section
variable {X : Cx} {CX : CXT} {k : Nat} {f C g : Addr} {fd : FuncData} {ps : List Str} {sp : Sp} {dvs : List V} {ds : List Value} {E : L2.St → XK} {fe e : Expr} {es : List Expr} {tf : TE} {t : TA} {pos : Pos}
theorem run_cdSD {pins : List (Addr × Obj)} {σ : L2.St} {H : Hp} {s : Shared} {Q : VK} {f : Addr} {us : List Value} {vs : List V} (F : FnOk X.prog X.w X.K X.mg X.base CX k f fd ps sp) (hr : Room k X.A) (hb : Binds X.K fd ps ds) (hd : Vals dvs ds) (hx : PassesAt CX X σ (E σ)) (I : Inv X pins σ H s) (r : Vals vs us) (h : sp (vs ++ dvs) H Q (E σ)) :
    codeAny (model X.prog X.w) X.A (.call (.ref f) ⟨us, []⟩) (fun r s' => match r with | .ok (.ret v) => EP X pins σ Q v s' | .ok _ => False | .error e => X.xe e s') s := by
  have r2 : Vals (vs ++ dvs) (us ++ ds) := r.append hd
  have hl : (us ++ ds).length = ps.length := by rw [← r2.length]; exact F.len _ _ _ _ h
  refine codeAny_mono (F.run X.A X.stack s H ⟨us, []⟩ (us ++ ds) (vs ++ dvs) Q (E σ) hr I.env0 (hb s us I.kIn hl) r2 h) fun r s' hq => ?_
  cases r with
  | error e => exact hx pins H s e s' I hq
  | ok fl =>
    cases fl with
    | ret u => exact I.after hq
    | next => exact False.elim hq
    | brk => exact False.elim hq
    | cont => exact False.elim hq
/-- f(e, ..), f gives an instance of the class at C, which has a __call__ -/
def tCallI (C : Addr) (sp : Sp) (dvs : List V) (E : L2.St → XK) (tf : TE) (t : TA) : TE := fun σ H Q => tf σ H fun y H1 => ∃ a, y = V.ref a ∧ t σ H1 fun vs H2 => (∃ dx fs, H2 a = some (.ins C dx fs)) ∧ sp (V.ref a :: (vs ++ dvs)) H2 Q (E σ)
theorem pe_ownCall (hf : PE X fe tf) (c : StX.CallO X.K C g) (F : FnOk X.prog X.w X.K X.mg X.base CX k g fd ps sp) (hr : Room k X.A) (hb : Binds X.K fd ps ds) (hd : Vals dvs ds) (hx : ∀ σ, PassesAt CX X σ (E σ)) (ha : PA X (e :: es) t)
    (ht : eval (.Call fe (e :: es) [] pos) X.env = (do callWith pos (← eval fe X.env) [] (backTo pos (starEach (e :: es) X.env)) (backToKw pos (keywordEach [] X.env))) := by rfl)
    (he : starEach (e :: es) X.env = (false, eval e X.env) :: starEach es X.env := by rfl) (hpl : (backTo pos (starEach es X.env)).any (·.1) = false := by rfl) : PE X (.Call fe (e :: es) [] pos) (tCallI C sp dvs E tf t) := by
  refine ⟨fun pins s σ H Q I h => ?_⟩
  refine Call_ (thn (hf.run pins s σ H _ I h) fun u s1 ⟨y, H1, I1, ry, a, ey, q⟩ => ?_) ht
  subst ey
  obtain rfl : u = Value.ref a := ry
  refine StX.callO_with (thn (ha.run pos pins s1 σ H1 _ I1 q) fun us s2 ⟨vs, H2, I2, r, ⟨dx, fs, hi⟩, q2⟩ => ?_) he hpl
  obtain ⟨ox, od, J, hd'⟩ := StX.insC_at (C := C) I2 (.inr ⟨dx, fs, hi⟩)
  exact ⟨⟨C, ox, od, J, hd'⟩, wpAny_call (PySem.W.kco_code I2.kIn J hd' c.at_ c.fn c.fi (run_cdSD (us := .ref a :: us) (vs := .ref a :: vs) F hr hb hd (hx σ) I2 (.cons rfl r) q2))⟩
end
end L2.MP

set_option Elab.async false
set_option linter.all false
set_option maxRecDepth 100000
set_option maxHeartbeats 4000000
/-! A walk over a list, a tuple or a text, whichever it is. -/
namespace L2.MP
open PySem PySem.Spec PyProof.Rows L2
def ISeq (K : PySem.W.Frag) (x : V) (H : Hp) (R : It → Hp → Prop) : Prop :=
  (∃ a, x = .ref a ∧ (∃ xs, SqL K H a xs) ∧ R (Itl K a) H) ∨ (∃ a, x = .ref a ∧ (∃ xs, SqT K H a xs) ∧ R (Itt K a) H) ∨ (∃ z, x = .str z ∧ R (Its z) H)
def iAny (K : PySem.W.Frag) (tl : TE) : TI := fun σ H R => tl σ H fun x H1 => ISeq K x H1 R
theorem pi_any {X : Cx} {tg l : Expr} {tl : TE} (hl : PE X l tl) : PI X tg l (iAny X.K tl) := by
  refine ⟨fun pins s σ H R I h => ?_⟩
  refine thn (hl.run pins s σ H _ I h) fun v s1 ⟨x, H1, I1, r1, q1⟩ => ?_
  rcases q1 with ⟨a, e, ⟨xs, hq⟩, q⟩ | ⟨a, e, ⟨xs, hq⟩, q⟩ | ⟨z, e, q⟩
  · subst e
    cases r1
    obtain ⟨its, rv, p, hz⟩ := I1.list hq
    refine wpAny_pyIter_list p.isList ?_
    refine ⟨s1.heap.objs.size, [s1.heap.objs.size], _, _, H1, rfl, I1.kept (t' := s1.toks) fun b o e => Heap.get?_push_of_some _ e, turn_list a _, ⟨_, Heap.get?_push_size _ rfl, rfl, rfl⟩, fun b hb => ?_, q⟩
    have e : b = s1.heap.objs.size := by simpa using hb
    subst e
    exact I1.fpOk (Nat.le_refl _) (I1.hok.fresh (Nat.le_refl _))
  · subst e
    cases r1
    obtain ⟨its, rv, p, hz⟩ := I1.tuple hq
    refine wpAny_pyIter_tuple (show s1.heap.IsTuple a its.toArray from p) ?_
    refine ⟨s1.heap.objs.size, [s1.heap.objs.size], _, _, H1, rfl, I1.kept (t' := s1.toks) fun b o e => Heap.get?_push_of_some _ e, turn_tuple a _, ⟨_, Heap.get?_push_size _ rfl, rfl, rfl⟩, fun b hb => ?_, q⟩
    have e : b = s1.heap.objs.size := by simpa using hb
    subst e
    exact I1.fpOk (Nat.le_refl _) (I1.hok.fresh (Nat.le_refl _))
  · subst e
    obtain ⟨t, rfl⟩ := r1
    cases ha : z.cps.all (· < 128)
    · exact wpAny_pyIter_wide ha (pi_one (tk := s1.toks) I1 _ (turn_str _ z t "str_iterator" (.inr rfl)) ⟨_, Heap.get?_push_size _ rfl, rfl, rfl⟩ q)
    · exact wpAny_pyIter_ascii ha (pi_one (tk := s1.toks) I1 _ (turn_str _ z t "str_ascii_iterator" (.inl rfl)) ⟨_, Heap.get?_push_size _ rfl, rfl, rfl⟩ q)
section
variable {K : PySem.W.Frag} {σ : L2.St} {H : Hp} {n b c : L2.St → Hp → Prop} {r : VK} {i : Nat} {tb : TS} {te : TE} {a : Addr} {xs : List V} {Q : VK}
def RA (K : PySem.W.Frag) (i : Nat) (tb : TS) (D : Ends) (σ : L2.St) (x : V) (H : Hp) : Prop := ISeq K x H fun J H1 => FW J i tb D σ H1
theorem k_forA (h : te σ H (RA K i tb ⟨n, r, b, c⟩ σ)) : tFor (iAny K te) (gName i) tb ⟨n, r, b, c⟩ σ H := h
instance w_k_forA  : W (tFor (iAny K te) (gName i) tb ⟨n, r, b, c⟩ σ H) (te σ H (RA K i tb ⟨n, r, b, c⟩ σ)) := ⟨fun z => k_forA z⟩
theorem k_raL {D : Ends} {x : V} (h : RL K i tb D σ x H) : RA K i tb D σ x H := .inl h
theorem k_raT {D : Ends} {x : V} (h : RT K i tb D σ x H) : RA K i tb D σ x H := .inr (.inl h)
theorem k_rtI (h : SqT K H a xs) (P : Nat → L2.St → Hp → Prop) (h0 : P 0 σ H) (hl : ∀ (m : Nat) σ H, m ≤ xs.length → P m σ H → SqT K H a xs)
    (ht : ∀ (m : Nat) x σ H, xs[m]? = some x → P m σ H → tb ⟨P (m + 1), r, n, P (m + 1)⟩ (σ.set i (some x)) H) (hd : ∀ σ H, P xs.length σ H → n σ H) : RT K i tb ⟨n, r, b, c⟩ σ (.ref a) H :=
  ⟨a, rfl, ⟨xs, h⟩, for_tup (D := ⟨n, r, b, c⟩) P h0 hl (fun m x σ H hm q => ht m x σ H hm q) hd⟩
/-- a list or a tuple by an invariant -/
theorem k_raI (h : SqL K H a xs ∨ SqT K H a xs) (P : Nat → L2.St → Hp → Prop) (h0 : P 0 σ H) (hl : ∀ (m : Nat) σ H', m ≤ xs.length → P m σ H' → Ex H H')
    (ht : ∀ (m : Nat) x σ H, xs[m]? = some x → P m σ H → tb ⟨P (m + 1), r, n, P (m + 1)⟩ (σ.set i (some x)) H) (hd : ∀ σ H, P xs.length σ H → n σ H) : RA K i tb ⟨n, r, b, c⟩ σ (.ref a) H := by
  rcases h with h | h
  · exact k_raL (k_rlI h P h0 (fun m σ H' hm q => (hl m σ H' hm q).sqL h) ht hd)
  · exact k_raT (k_rtI h P h0 (fun m σ H' hm q => (hl m σ H' hm q).sqT h) ht hd)
/-- the same, the thing itself told at each turn -/
theorem k_raI' (h : SqL K H a xs ∨ SqT K H a xs) (P : Nat → L2.St → Hp → Prop) (h0 : P 0 σ H) (hl : ∀ (m : Nat) σ H', m ≤ xs.length → P m σ H' → (SqL K H a xs → SqL K H' a xs) ∧ (SqT K H a xs → SqT K H' a xs))
    (ht : ∀ (m : Nat) x σ H, xs[m]? = some x → P m σ H → tb ⟨P (m + 1), r, n, P (m + 1)⟩ (σ.set i (some x)) H) (hd : ∀ σ H, P xs.length σ H → n σ H) : RA K i tb ⟨n, r, b, c⟩ σ (.ref a) H := by
  rcases h with h | h
  · exact k_raL (k_rlI h P h0 (fun m σ H' hm q => (hl m σ H' hm q).1 h) ht hd)
  · exact k_raT (k_rtI h P h0 (fun m σ H' hm q => (hl m σ H' hm q).2 h) ht hd)
/-- a comprehension over a list or a tuple: what its turns ask -/
def RLc (J : It) (g : TG) (tt : TT) (te : TE) (vs : List Nat) (σ : L2.St) (Q : VK) (H1 : Hp) : Prop := ∀ D, H1 D = none → ∃ W : Nat → Nat → Hp → Prop, (∃ m, W 0 m (upd H1 D (.lst []))) ∧ ∀ i m H, W i m H →
  (J.stop i H ∧ Q (.ref D) H) ∨ (J.go i H ∧ ∃ Nx : Hp → Prop, (∀ H', Nx H' → ∃ m', m' < m ∧ W (i + 1) m' H') ∧ ∀ x H', J.yld i H x H' → g x (wipe σ vs) H' fun σ2 H2 => wipe σ2 vs = wipe σ vs ∧ tt σ2 H2 fun b H3 =>
    if b = true then te σ2 H3 fun y H4 => ∃ acc, H4 D = some (.lst acc) ∧ acc.length < sizeLine ∧ Nx (upd H4 D (.lst (acc ++ [y]))) else Nx H3)
def RLA (K : PySem.W.Frag) (g : TG) (tt : TT) (te : TE) (vs : List Nat) (σ : L2.St) (Q : VK) (x : V) (H : Hp) : Prop := ISeq K x H fun J H1 => RLc J g tt te vs σ Q H1
theorem k_lcA {tl : TE} {g : TG} {tt : TT} {vs : List Nat} (h : tl σ H (RLA K g tt te vs σ Q)) : tLc (iAny K tl) g tt te vs σ H Q := h
instance w_k_lcA {tl : TE} {g : TG} {tt : TT} {vs : List Nat} : W (tLc (iAny K tl) g tt te vs σ H Q) (tl σ H (RLA K g tt te vs σ Q)) := ⟨fun z => k_lcA z⟩
/-- one turn behind another; D the list that is made -/
theorem k_lcI {j : Nat} {g : TG} {tt : TT} {vs : List Nat} (h : SqL K H a xs ∨ SqT K H a xs) (P : Addr → Nat → Hp → Prop) (h0 : ∀ D, H D = none → P D 0 (upd H D (.lst [])))
    (hl : ∀ D m H', H D = none → m ≤ xs.length → P D m H' → (SqL K H a xs → SqL K H' a xs) ∧ (SqT K H a xs → SqT K H' a xs))
    (hs : ∀ D m x H', H D = none → xs[m]? = some x → P D m H' → g x (wipe σ vs) H' fun σ2 H2 => wipe σ2 vs = wipe σ vs ∧ tt σ2 H2 fun b H3 =>
      if b = true then te σ2 H3 fun y H4 => ∃ acc, H4 D = some (.lst acc) ∧ acc.length < sizeLine ∧ P D (m + 1) (upd H4 D (.lst (acc ++ [y]))) else P D (m + 1) H3)
    (hd : ∀ D H', H D = none → P D xs.length H' → Q (.ref D) H') : RLA K g tt te vs σ Q (.ref a) H := by
  rcases h with h | h
  · exact .inl ⟨a, rfl, ⟨xs, h⟩, fun D hD => lc_list (P D) (h0 D hD) (fun m H' hm q => (hl D m H' hD hm q).1 h) (fun m x H' hm q => hs D m x H' hD hm q) fun H' q => hd D H' hD q⟩
  · exact .inr (.inl ⟨a, rfl, ⟨xs, h⟩, fun D hD => lc_tup (P D) (h0 D hD) (fun m H' hm q => (hl D m H' hD hm q).2 h) (fun m x H' hm q => hs D m x H' hD hm q) fun H' q => hd D H' hD q⟩)
end
end L2.MP
namespace L2.MP
open PySem PySem.Spec PyProof.Rows L2
/-! ### one sign in a text; a text's sign; texts joined -/
def rInSg (neg : Bool) : R2 := fun x y H Q => ∃ (c : Nat) (z : Str), x = .str ⟨#[c]⟩ ∧ y = .str z ∧ Q (.bl (if neg = true then !decide (c ∈ z.cps.toList) else decide (c ∈ z.cps.toList))) H
section
variable {X : Cx} {K : PySem.W.Frag} {H : Hp} {Q : VK}
theorem op_inSg : OpR X (compareOp .In) (rInSg false) := op_in_sign
theorem op_notInSg : OpR X (compareOp .NotIn) (rInSg true) := op_notIn_sign
theorem o_inSg {c : Nat} {z : Str} {neg : Bool} (q : Q (.bl (if neg = true then !decide (c ∈ z.cps.toList) else decide (c ∈ z.cps.toList))) H) : rInSg neg (.str ⟨#[c]⟩) (.str z) H Q := ⟨c, z, rfl, rfl, q⟩
theorem o_ixS {z : Str} {p : Int} {c : Nat} (hz : z.length ≤ 100000) (h0 : 0 ≤ p) (e : z.cps[p.toNat]? = some c) (q : Q (.str ⟨#[c]⟩) H) : rIx K (.str z) (.int p) H Q :=
  .inr (.inr ⟨z, p, c, rfl, rfl, sz_of hz, atI_toNat h0 (by rw [Array.getElem?_toList]; exact e), q⟩)
theorem o_mulS {z : Str} {n : Int} (h : MulOk z n) (q : Q (.str (Txt.mul z n)) H) : rMulA (.str z) (.int n) H Q := ⟨h, q⟩
theorem o_lenS {y : Str} (h : y.length ≤ 100000) (q : Q (.int y.length) H) : rLenA K [.str y] H Q := ⟨_, _, rfl, ⟨sz_of h, rfl⟩, q⟩
end
end L2.MP
namespace L2.MP
open PySem PySem.Spec PyProof.Rows L2
section
variable {K : PySem.W.Frag} {σ : L2.St} {H : Hp} {n b c : L2.St → Hp → Prop} {r : VK} {i : Nat} {tb : TS}
/-- a text, sign by sign, by an invariant -/
theorem k_raS {z : Str} (P : Nat → L2.St → Hp → Prop) (h0 : P 0 σ H) (ht : ∀ (m : Nat) x σ H, z.cps[m]? = some x → P m σ H → tb ⟨P (m + 1), r, n, P (m + 1)⟩ (σ.set i (some (.str ⟨#[x]⟩))) H)
    (hd : ∀ σ H, P z.cps.size σ H → n σ H) : RA K i tb ⟨n, r, b, c⟩ σ (.str z) H := by
  refine .inr (.inr ⟨z, rfl, fun i m σ H => m = z.cps.size - i ∧ i ≤ z.cps.size ∧ P i σ H, ⟨z.cps.size, by simp, Nat.zero_le _, h0⟩, ?_⟩)
  rintro j m σ H ⟨rfl, hj, p⟩
  by_cases hlt : j < z.cps.size
  · refine .inr ⟨hlt, P (j + 1), fun σ' H' p' => ⟨z.cps.size - (j + 1), by omega, rfl, hlt, p'⟩, fun x H' y => ?_⟩
    obtain ⟨rfl, cc, e, rfl⟩ := y
    exact ht j cc σ _ e p
  · have e : j = z.cps.size := by omega
    subst e
    exact .inl ⟨Nat.le_refl _, hd σ H p⟩
end
end L2.MP
namespace L2.MP
open PySem PySem.Spec PyProof.Rows L2
section
variable {K : PySem.W.Frag} {H : Hp} {Q : VK} {a : Addr} {ys : List V}
theorem o_tupL (h : SqL K H a ys) (q : ∀ p H', H p = none → Ex H H' → H' p = some (.tup ys) → Q (.ref p) H') : rTupleA K [.ref a] H Q := ⟨a, ys, rfl, .inl ⟨h, fun l hl => q l _ hl (Ex.new hl) upd_same⟩⟩
theorem o_tupT (h : SqT K H a ys) (q : Q (.ref a) H) : rTupleA K [.ref a] H Q := ⟨a, ys, rfl, .inr ⟨h, q⟩⟩
theorem o_lisL (h : SqL K H a ys) (q : ∀ p H', H p = none → Ex H H' → H' p = some (.lst ys) → Q (.ref p) H') : rListA K [.ref a] H Q := ⟨a, ys, rfl, .inl h, fun l hl => q l _ hl (Ex.new hl) upd_same⟩
theorem o_lisT (h : SqT K H a ys) (q : ∀ p H', H p = none → Ex H H' → H' p = some (.lst ys) → Q (.ref p) H') : rListA K [.ref a] H Q := ⟨a, ys, rfl, .inr h, fun l hl => q l _ hl (Ex.new hl) upd_same⟩
end
end L2.MP
namespace L2.MP
open PySem PySem.Spec PyProof.Rows L2
section
variable {K : PySem.W.Frag} {H : Hp} {Q : VK} {a b : Addr} {ls : List Int}
theorem flat_ints (ls : List Int) : flatOk (ls.map V.int) = true := by
  induction ls with
  | nil => rfl
  | cons x l ih => simpa [flatOk, flat1] using ih
theorem o_neInil (h1 : SqL K H a (ls.map V.int)) (h2 : SqL K H b []) (q : Q (.bl (!decide (ls = []))) H) : rNeA K (.ref a) (.ref b) H Q :=
  o_neLL h1 h2 (flat_ints ls) rfl (by
    cases ls with
    | nil => exact q
    | cons x l => exact q)
end
end L2.MP
namespace L2.MP
open PySem PySem.Spec PyProof.Rows L2
theorem o_addT {K : PySem.W.Frag} {H : Hp} {Q : VK} {a b : Addr} {xs ys : List V} (h1 : H a = some (.tup xs)) (h2 : H b = some (.tup ys)) (h : xs.length + ys.length ≤ 100000) (q : ∀ p H', Ex H H' → H' p = some (.tup (xs ++ ys)) → Q (.ref p) H') : rAddA K (.ref a) (.ref b) H Q :=
  .inr ⟨a, b, xs, ys, rfl, rfl, sqT_of h1, sqT_of h2, sz_of h, fun e => q b H (Ex.refl H) (by rw [e]; exact h2), fun _ e => q a H (Ex.refl H) (by rw [e, List.append_nil]; exact h1), fun _ _ p hp => q p _ (Ex.new hp) upd_same⟩
/-- all but one thing stays -/
def ExB (a : Addr) (H H' : Hp) : Prop := ∀ b o, b ≠ a → H b = some o → H' b = some o
theorem ExB.refl {a : Addr} (H : Hp) : ExB a H H := fun _ _ _ h => h
theorem ExB.trans {a : Addr} {H H1 H2 : Hp} (x : ExB a H H1) (y : ExB a H1 H2) : ExB a H H2 := fun b o n h => y b o n (x b o n h)
theorem ExB.of {a : Addr} {H H' : Hp} (x : Ex H H') : ExB a H H' := fun b o _ h => x b o h
theorem ExB.set {a : Addr} {H : Hp} {o : HO} : ExB a H (upd H a o) := fun b u n h => by rw [upd_ne n]; exact h
end L2.MP

set_option Elab.async false
set_option linter.all false
set_option maxRecDepth 100000
set_option maxHeartbeats 4000000
/-! C(**d), d a dict of keywords. -/
namespace L2.MP
open PySem PySem.Spec PyProof.Rows L2
section
variable {P : Program} {w : World} {A : Around} {E : Value → Shared → Prop} {s : Shared}
theorem merge_dict {d o : Addr} {more : List (Key × Value)} {Q : Unit → Shared → Prop} (hdo : d ≠ o) (hoS : (o == sysModules) = false) (hd : s.heap.DictOf (mixKind P w) d []) (ho : s.heap.DictOf (mixKind P w) o more)
    (hQ : ∀ h', h'.DictOf (mixKind P w) d more → Heap.SameBut d s.heap h' → Q () { s with heap := h' }) (hsz : more.length ≤ sizeLine) :
    wpAny (model P w) A (mergeMapping d (.ref o) true) Q E s := by
  obtain ⟨od, esd, epd, hod, hcd, hdd, hkd, hpd, hnd⟩ := id hd
  obtain ⟨oo, eso, epo, hoo, hco, hdo', hko, hpo, hno⟩ := id ho
  have hlen : more.length = eso.size := by rw [← hpo.length]; simp
  unfold mergeMapping
  refine wpAny_bind (m := isInstance (.ref o) (.type "dict")) (wpAny_isInstance ho.typeIs isSubtype_dict_dict ?_)
  rw [if_pos rfl]
  refine wpAny_bind (m := specialOf (.ref o) "__iter__") (wpAny_specialOf ho.typeIs F.slot_dict_iter.lookup ?_)
  try refine wpAny_bind (wpAny_pure ?_)
  simp only [beq_self_eq_true, if_true]
  rw [if_neg (by rw [hoS]; exact Bool.false_ne_true)]
  refine wpAny_bind (wpAny_dictEntries hod hdd ?_)
  have hes0 : esd = #[] := by
    have := hpd.length
    simpa using this
  have loop : wpAny (model P w) A (do
      let l ← dictEntries o
      let epoch ← dictEpoch o
      forIn (List.range l.size) PUnit.unit fun i (_ : PUnit) => (do
          let l' ← dictEntries o
          match l'[i]? with
            | some e => do
              holding [e.key, e.val] (do
                  let z ← dictFind d e.key e.hash
                  if z.isSome = true then do
                      rule "dict.merge.duplicate-key"
                      let y ← newExc (Value.type "KeyError") [e.key]
                      raiseNew y
                      dictPut d e.hash e.key e.val
                    else dictPut d e.hash e.key e.val)
              let ep' ← dictEpoch o
              if (ep' != epoch) = true then do
                  (unsupported "dict.changed-during-merge" : Sem PUnit)
                  pure (ForInStep.yield PUnit.unit)
                else pure (ForInStep.yield PUnit.unit)
            | _ => do
              (unsupported "dict.changed-during-merge" : Sem PUnit)
              pure (ForInStep.yield PUnit.unit) : Sem (ForInStep PUnit))
      pure ()) Q E s := by
    refine wpAny_bind (wpAny_dictEntries hoo hdo' ?_)
    refine wpAny_bind (wpAny_dictEpoch hoo hdo' ?_)
    refine wpAny_bind ?_
    rw [List.range_eq_range']
    refine wpAny_forIn_list _
      (fun rest _ s' => ∃ h' i, s' = { s with heap := h' } ∧ rest = List.range' i (eso.size - i) ∧ i ≤ eso.size ∧ h'.DictOf (mixKind P w) d (more.take i) ∧ h'.get? o = some oo ∧ Heap.SameBut d s.heap h')
      _ ?_ ?_ _ _ ⟨s.heap, 0, rfl, by simp, Nat.zero_le _, by simpa using hd, hoo, Heap.SameBut.refl _ _⟩
    · rintro x rest b s' ⟨h', i, rfl, hr, hi, hd', hoo', hs'⟩
      have hlt : i < eso.size := by
        rcases Nat.lt_or_ge i eso.size with h | h
        · exact h
        · rw [Nat.sub_eq_zero_of_le h] at hr; simp at hr
      obtain ⟨rfl, hrest⟩ : x = i ∧ rest = List.range' (i + 1) (eso.size - (i + 1)) := by
        have e : eso.size - i = (eso.size - (i + 1)) + 1 := by omega
        rw [e, List.range'_succ] at hr
        injection hr with h1 h2
        exact ⟨h1, h2⟩
      refine wpAny_bind (wpAny_dictEntries hoo' hdo' ?_)
      rw [Array.getElem?_eq_getElem hlt]
      obtain ⟨kv, hkv⟩ : ∃ kv, more[x]? = some kv := ⟨more[x]'(by rw [hlen]; exact hlt), List.getElem?_eq_getElem _⟩
      obtain ⟨k, v⟩ := kv
      obtain ⟨hkey, hval⟩ := hpo.get? (e := eso[x]) (by simp [hlt]) hkv
      obtain ⟨k', hkey', hhash⟩ := hko eso[x] (Array.getElem_mem hlt)
      obtain rfl : k' = k := (mixKind P w).inj _ _ _ hkey' hkey
      obtain ⟨o2, es2, ep2, ho2, hc2, hd2, hk2, hp2, hn2⟩ := id hd'
      have hes2 : es2.size ≤ sizeLine := by
        have e1 := hp2.length
        have e2 : es2.toList.length = es2.size := by simp
        have e3 : (more.take x).length ≤ more.length := by rw [List.length_take]; omega
        omega
      have hnin : k' ∉ (more.take x).map (·.1) := by
        intro hm
        have hlx : x < more.length := by omega
        have e : more = more.take x ++ (k', v) :: more.drop (x + 1) := by
          conv => lhs; rw [← List.take_append_drop x more, List.drop_eq_getElem_cons hlx]
          rw [(List.getElem?_eq_some_iff.mp hkv).2]
        rw [e, List.map_append, List.nodup_append] at hno
        exact hno.2.2 k' hm k' (by simp) rfl
      have hidx : (es2.findIdx? fun e => (mixKind P w).is k' e.key) = none := by
        have h1 : (es2.findIdx? fun e => (mixKind P w).is k' e.key) = (more.take x).findIdx? fun kv => decide (kv.1 = k') := by
          rw [← hp2.findIdx k']; obtain ⟨l⟩ := es2; simp
        rw [h1, List.findIdx?_eq_none_iff]
        intro y hy
        simp only [decide_eq_false_iff_not]
        exact fun e => hnin (List.mem_map.mpr ⟨y, hy, e⟩)
      dsimp only
      rw [hhash, hval]
      refine wpAny_bind (wpAny_holding (wpAny_bind (wpAny_dictFind_of hkey ho2 hd2 hk2 ?_)))
      rw [hidx]
      rw [if_neg (show ¬ ((none : Option Nat).isSome = true) from Bool.false_ne_true)]
      unfold dictPut
      refine wpAny_bind (wpAny_dictFind_of hkey ho2 hd2 hk2 ?_)
      rw [hidx]
      refine wpAny_updateDictKeys (hz := hes2) ho2 hd2 ?_
      have hb := Heap.SameBut.update (h := h') (a := d) (f := Obj.mapDictKeys (fun es => es.push ⟨(mixKind P w).hash k', eso[x].key, v⟩))
      refine wpAny_bind (wpAny_dictEpoch ((hb.2 o (Ne.symm hdo)).trans hoo') hdo' ?_)
      rw [if_neg (by simp)]
      refine wpAny_pure ⟨_, x + 1, rfl, hrest, hlt, ⟨_, _, ep2 + 1, Heap.get?_update_self _ ho2 (Obj.isFreed_of_dict (Obj.data_mapDictKeys hd2 _)), hc2.mapDictKeys _, Obj.data_mapDictKeys hd2 _, hk2.push hkey _, ?_, ?_⟩, (hb.2 o (Ne.symm hdo)).trans hoo', hs'.trans hb⟩
      · rw [List.take_succ, hkv]
        have := hp2.append hkey ((mixKind P w).hash k') v
        obtain ⟨l⟩ := es2
        simpa using this
      · have : (more.take (x + 1)).map (·.1) = (more.map (·.1)).take (x + 1) := by rw [List.map_take]
        rw [this]
        exact hno.sublist (List.take_sublist _ _)
    · rintro b s' ⟨h', i, rfl, hr, hi, hd', hoo', hs'⟩
      have hin : i = eso.size := by
        rcases Nat.lt_or_ge i eso.size with h | h
        · have e : eso.size - i = (eso.size - (i + 1)) + 1 := by omega
          rw [e, List.range'_succ] at hr; exact nomatch hr
        · exact Nat.le_antisymm hi h
      refine wpAny_pure (hQ h' ?_ hs')
      rw [hin, ← hlen, List.take_length] at hd'; exact hd'
  rw [if_pos (by rw [hes0]; rfl)]
  refine wpAny_bind (wpAny_dictEntries hoo hdo' ?_)
  refine wpAny_bind ?_
  rw [← Array.forIn_toList]
  refine wpAny_forIn_list _ (fun rest _ s' => s' = s ∧ ∀ e ∈ rest, e ∈ eso.toList) _ ?_ ?_ _ _ ⟨rfl, fun e he => he⟩
  · rintro x rest b s' ⟨rfl, hm⟩
    obtain ⟨k, hk, _⟩ := hko x (by simpa using hm x List.mem_cons_self)
    rcases keyIs_shape hk with ⟨i, t, rfl, e⟩ | ⟨z, t, rfl, e⟩
    · simp only [e]
      exact wpAny_pure ⟨rfl, fun e he => hm e (List.mem_cons_of_mem _ he)⟩
    · simp only [e]
      exact wpAny_pure ⟨rfl, fun e he => hm e (List.mem_cons_of_mem _ he)⟩
  · rintro b s' ⟨rfl, _⟩
    exact loop
theorem kw_in {f : Value} {d : Addr} {kw : List (Str × Value)} {Q : List (Str × Value) → Shared → Prop} (hd : s.heap.DictOf (mixKind P w) d (kw.map fun p => ((Sum.inr p.1 : Key), p.2))) (h : Q kw s) : wpAny (model P w) A (keywordsIn f d) Q E s := by
  obtain ⟨o, es, ep, ho, hc, hdt, hk, hp, hn⟩ := hd
  unfold keywordsIn
  refine wpAny_bind (wpAny_dictEntries ho hdt ?_)
  refine wpAny_bind ?_
  rw [← Array.forIn_toList]
  have hlen : es.toList.length = kw.length := by rw [hp.length, List.length_map]
  refine wpAny_forIn_list _ (fun rest acc s' => s' = s ∧ ∃ i, rest = es.toList.drop i ∧ acc = kw.take i ∧ i ≤ kw.length) _ ?_ ?_ _ _ ⟨rfl, 0, by simp, by simp, Nat.zero_le _⟩
  · rintro x rest acc s' ⟨rfl, i, hr, rfl, hi⟩
    have hlt : i < es.toList.length := by
      rcases Nat.lt_or_ge i es.toList.length with z | z
      · exact z
      · rw [List.drop_eq_nil_of_le z] at hr; cases hr
    rw [List.drop_eq_getElem_cons hlt] at hr
    injection hr with h1 h2
    subst h1
    have hlt2 : i < kw.length := by omega
    obtain ⟨hkey, hval⟩ := hp.get? (i := i) (e := es.toList[i]) (List.getElem?_eq_getElem hlt) (by rw [List.getElem?_map, List.getElem?_eq_getElem hlt2]; rfl)
    have hk2 : keyIs (Sum.inr kw[i].1) es.toList[i].key = true := hkey
    rcases keyIs_shape hk2 with ⟨_, _, z, _⟩ | ⟨x, t, z, e⟩
    · cases z
    · injection z with z
      simp only [e]
      refine wpAny_pure ⟨rfl, i + 1, h2, ?_, hlt2⟩
      rw [List.take_succ, List.getElem?_eq_getElem hlt2, hval, ← z]
      rfl
  · rintro acc s' ⟨rfl, i, hr, rfl, hi⟩
    have : i = kw.length := by
      have hd := congrArg List.length hr
      rw [List.length_drop, List.length_nil] at hd
      omega
    subst this
    rw [List.take_length]
    exact wpAny_pure h
end
section
variable {P : Program} {w : World} {A : Around} {E : Value → Shared → Prop} {s : Shared}
theorem merged_one {fv : Value} {t : Sem Value} {Q : Addr → Shared → Prop}
    (ht : wpAny (model P w) A t (fun v s2 => ∃ o more, v = .ref o ∧ s.heap.objs.size ≠ o ∧ (o == sysModules) = false ∧ s2.heap.DictOf (mixKind P w) s.heap.objs.size [] ∧ s2.heap.DictOf (mixKind P w) o more ∧ more.length ≤ sizeLine ∧
      ∀ h', h'.DictOf (mixKind P w) s.heap.objs.size more → Heap.SameBut s.heap.objs.size s2.heap h' → Q s.heap.objs.size { s2 with heap := h' }) E { s with heap := s.heap.push { cls := .type "dict", data := .dict #[] } }) :
    wpAny (model P w) A (mergedKeywords fv [(none, t)]) Q E s := by
  unfold mergedKeywords
  refine wpAny_bind (wpAny_alloc ?_)
  dsimp only
  refine wpAny_bind (wpAny_holding ?_)
  refine wpAny_bind ?_
  refine wpAny_forIn_list _ (fun rest acc s' => acc = [] ∧ ((rest = [(none, t)] ∧ s' = { s with heap := s.heap.push { cls := .type "dict", data := .dict #[] } }) ∨ (rest = [] ∧ Q s.heap.objs.size s'))) _ ?_ ?_ _ _ ⟨rfl, .inl ⟨rfl, rfl⟩⟩
  · rintro x rest acc s' ⟨rfl, ⟨hr, rfl⟩ | ⟨hr, _⟩⟩
    · injection hr with h1 h2
      subst h1
      subst h2
      show wpAny _ _ (pure () >>= fun _ => _) _ _ _
      refine wpAny_bind (wpAny_pure ?_)
      refine wpAny_bind (wpAny_mono ht (fun v s2 hv => ?_) fun _ _ z => z)
      obtain ⟨o, more, rfl, hdo, hoS, hd, ho, hsz, hq⟩ := hv
      refine wpAny_bind (wpAny_onRaise (wpAny_holding (wpAny_tryCatch (wpAny_onRaise (merge_dict hdo hoS hd ho (fun h' hd' hs' => ?_) hsz)))))
      exact wpAny_pure ⟨rfl, .inr ⟨rfl, hq h' hd' hs'⟩⟩
    · cases hr
  · rintro acc s' ⟨rfl, ⟨hr, _⟩ | ⟨_, hq⟩⟩
    · cases hr
    · show wpAny _ _ (pure () >>= fun _ => _) _ _ _
      refine wpAny_bind (wpAny_pure ?_)
      exact wpAny_pure (wpAny_pure hq)
end
section
variable {X : Cx} {CX : CXT} {k : Nat} {C f : Addr} {fd : FuncData} {ps : List Str} {sp : Sp} {e : Expr} {te : TE} {E : L2.St → XK} {x : Str} {pp kp pos : Pos}
def kwD (ks : List Str) (zs : List V) : List (Key × V) := (ks.zip zs).map fun p => ((Sum.inr p.1 : Key), p.2)
theorem kwD_vals : ∀ {ks : List Str} {zs : List V} {vs : List (Key × Value)}, zs.length = ks.length → KV (kwD ks zs) vs → ∃ ws, Vals zs ws ∧ ws.length = ks.length ∧ vs = (ks.zip ws).map fun p => ((Sum.inr p.1 : Key), p.2)
  | [], zs, vs, hl, h => by
    have : zs = [] := by simpa using hl
    subst this
    cases h
    exact ⟨[], .nil, rfl, rfl⟩
  | k :: ks, [], vs, hl, h => by simp at hl
  | k :: ks, z :: zs, vs, hl, h => by
    cases h with
    | @cons a b l1 l2 h1 h2 =>
      obtain ⟨ws, w1, w2, w3⟩ := kwD_vals (ks := ks) (zs := zs) (by simpa using hl) h2
      obtain ⟨b1, b2⟩ := b
      obtain ⟨e1, e2⟩ := h1
      have e1' : (Sum.inr k : Key) = b1 := e1
      exact ⟨b2 :: ws, .cons e2 w1, by simp [w2], by rw [w3, ← e1']; rfl⟩
def tMakeSp (C : Addr) (ks : List Str) (sp : Sp) (gV : List V → List V → List V) (E : L2.St → XK) (te : TE) : TE := fun σ H Q => te σ H fun y H1 => ∃ a zs, y = .ref a ∧ H1 a = some (.dK (kwD ks zs)) ∧ zs.length = ks.length ∧ ∀ x dx, H1 x = none → H1 dx = none → dx ≠ x →
  sp (gV [.ref x] zs) (upd (upd H1 dx (.own x)) x (.ins C dx [])) (fun v H2 => v = .non ∧ Q (.ref x) H2) (E σ)
/-- the arguments of C(**d), then the call -/
theorem splat_with {M : Model} {A : Around} {F : Value → Shared → Prop} {s : Shared} {t : Sem Value} {C : Addr} {K : PySem.W.Frag} {Q : Value → Shared → Prop} (hk : PySem.W.keepIn K (.ref C) = true)
    (h : wpAny M A (mergedKeywords (.ref C) [(none, t)]) (fun d s2 => wpAny M A (keywordsIn (.ref C) d) (fun kw s3 => K.In s3.heap ∧ wpAny M A (call (.ref C) [] kw) Q F s3) F s2) F s) :
    wpAny M A (callWith pos (.ref C) [] [] [(none, t)]) Q F s := by
  unfold callWith
  refine wpAny_bind (wpAny_holding ?_)
  unfold evalArgs
  dsimp only
  refine wpAny_bind (m := spliced []) (wpAny_pure ?_)
  refine wpAny_bind (wpAny_pure ?_)
  refine wpAny_holding ?_
  rw [if_neg (show ¬ (List.all [((none : Option Str), t)] (fun x => x.1.isSome) = true) from Bool.false_ne_true)]
  refine wpAny_bind (wpAny_mono h (fun d s2 h2 => ?_) fun _ _ z => z)
  refine wpAny_bind (wpAny_pure ?_)
  refine wpAny_bind (wpAny_holding (wpAny_mono h2 (fun kw s3 h3 => ?_) fun _ _ z => z))
  obtain ⟨hin, h3⟩ := h3
  refine wpAny_pure ?_
  refine wpAny_bind (wpAny_standAt ?_)
  obtain ⟨kk, hk', L⟩ := PySem.W.looks_keep (M := M) hk hin
  refine wpAny_bind (L.here ?_)
  have tail : ∀ {t : Sem Value}, wpAny M A t Q F s3 → wpAny M A (t >>= fun r => holding [r] point >>= fun _ => pure r) Q F s3 :=
    fun ht => wpAny_bind (wpAny_mono ht (fun r s₂ hr => wpAny_bind (wpAny_holding (wpAny_point (wpAny_pure hr)))) fun _ _ x => x)
  rcases hk' with rfl | rfl
  · show wpAny _ _ (callMarked starredCall (.ref C) ([] ++ []) kw >>= _) _ _ _
    refine tail ?_
    unfold callMarked
    exact Calls.wpAny_keep h3
  · show wpAny _ _ (operate _ (call (.ref C) ([] ++ []) kw) >>= _) _ _ _
    exact tail (wpAny_operate' h3)
theorem pe_makeSp {ks : List Str} {G : List Value → List Value → List Value} {gV : List V → List V → List V} (M : Mk X.K C f) (F : FnOk X.prog X.w X.K X.mg X.base CX k f fd ps sp) (hr : Room (k + 1) X.A) (hg : Gl X x) (hm : X.mg x = some (.ref C))
    (hb : KBn X.K fd ps 1 ks G gV) (hx : ∀ σ, PassesAt CX X σ (E σ)) (he : PE X e te) (hdb : (x == ("__debug__" : Str)) = false := by decide) :
    PE X (.Call (.Name x pp) [] [⟨none, e, kp⟩] pos) (tMakeSp C ks sp gV E te) := by
  refine ⟨fun pins s σ H Q I h => wpAny_Call_Name_kw (ld_glob I hg hm ?_ hdb)⟩
  show wpAny _ _ (callWith pos (.ref C) [] [] [(none, do let v ← eval e X.env; standAt pos; pure v)]) _ _ s
  refine splat_with M.kp ?_
  have kp0 : ∀ b o, s.heap.get? b = some o → (s.heap.push { cls := .type "dict", data := .dict #[] }).get? b = some o := fun b o e => Heap.get?_push_of_some _ e
  have I1 : Inv X pins σ H { s with heap := s.heap.push { cls := .type "dict", data := .dict #[] } } := I.kept (t' := s.toks) kp0
  have hd0 : H s.heap.objs.size = none := I.hok.fresh (Nat.le_refl _)
  have hdL : s.heap.objs.size ≠ X.env.locals := Nat.ne_of_gt I.lt
  have hdf : s.heap.objs.size ∉ X.fs := I.nofs (Nat.le_refl _)
  have hne : ∀ b o, s.heap.get? b = some o → b ≠ s.heap.objs.size := fun b o e => Nat.ne_of_lt (Heap.lt_size e)
  have hcl : ∀ y c, X.env.cells.lookup y = some c → c ≠ s.heap.objs.size := fun y c hy => by
    obtain ⟨v, o, ho, _⟩ := I.cell y c hy
    exact hne c o ho
  have hpp : ∀ p ∈ X.pn ++ pins, p.1 ≠ s.heap.objs.size := fun p hp => hne p.1 _ (I.pin p hp).1
  have I2 : Inv X ((s.heap.objs.size, { cls := .type "dict", data := .dict #[] }) :: pins) σ H { s with heap := s.heap.push { cls := .type "dict", data := .dict #[] } } := I1.pins_of fun p hp => by
    rcases List.mem_cons.mp hp with z | z
    · rw [z]
      exact ⟨Heap.get?_push_size _ rfl, hd0, hdL, hdf, fun v q => by cases q⟩
    · exact I1.pin p (List.mem_append_right _ z)
  refine merged_one ?_
  refine wpAny_bind (wpAny_mono (he.run _ _ σ H _ I2 h) (fun v s2 hv => ?_) fun _ _ z => z)
  obtain ⟨y, H1, I3, rv, a, zs, rfl, ea, lz, hq⟩ := hv
  obtain rfl : v = Value.ref a := rv
  refine wpAny_bind (wpAny_standAt (wpAny_pure ?_))
  obtain ⟨hlen, hsm, vs, hkv, hdict⟩ := (show ObjOk X.prog X.w H1 s2.heap a (.dK (kwD ks zs)) from I3.hok a _ ea)
  obtain ⟨ws, rz, lw, rfl⟩ := kwD_vals lz hkv
  obtain ⟨p1, p2, p3, p4, _⟩ := I3.pin (s.heap.objs.size, { cls := .type "dict", data := .dict #[] }) (List.mem_append_right _ List.mem_cons_self)
  have hna : s.heap.objs.size ≠ a := fun z => by rw [← z, p2] at ea; cases ea
  have hd2 : s2.heap.DictOf (mixKind X.prog X.w) s.heap.objs.size [] := by
    obtain ⟨o, es, ep, ho, r⟩ := (Heap.DictOf.new s.heap : (s.heap.push { cls := .type "dict", data := .dict #[] }).DictOf (mixKind X.prog X.w) s.heap.objs.size [])
    rw [Heap.get?_push_size _ rfl] at ho
    injection ho with ho
    exact ⟨o, es, ep, by rw [← ho]; exact p1, r⟩
  refine ⟨a, _, rfl, hna, hsm, hd2, hdict, by rw [List.length_map, List.length_zip]; have : (kwD ks zs).length = ks.length := (by simp [kwD, lz]); omega, fun h' hd' hs' => ?_⟩
  have I4 : Inv X pins σ H1 { s2 with heap := h' } := (I3.pins_of (pins' := pins) fun p hp => I3.pin p (List.mem_append_right _ (List.mem_cons_of_mem _ hp))).turned (t' := s2.toks) (it := s.heap.objs.size) (fun b o hb e => (hs'.2 b hb).trans e) p2 hdL (.inr I.sz) hcl hpp
  refine kw_in hd' ⟨I4.kIn, ?_⟩
  exact run_mkK M F hr hb (hx σ) I4 rz lz hq
end
section
variable {H : Hp} {Q : VK} {σ : L2.St} {te : TE} {C : Addr} {sp : Sp} {ks : List Str} {zs vs : List V} {gV : List V → List V → List V}
def RMkSp (C : Addr) (ks : List Str) (sp : Sp) (gV : List V → List V → List V) (y : V) (E : XK) (H1 : Hp) (Q : VK) : Prop := ∃ a zs, y = .ref a ∧ H1 a = some (.dK (kwD ks zs)) ∧ zs.length = ks.length ∧ ∀ x dx, H1 x = none → H1 dx = none → dx ≠ x →
  sp (gV [.ref x] zs) (upd (upd H1 dx (.own x)) x (.ins C dx [])) (fun v H2 => v = .non ∧ Q (.ref x) H2) E
theorem k_makeSp {E : L2.St → XK} (h : te σ H fun y H1 => RMkSp C ks sp gV y (E σ) H1 Q) : tMakeSp C ks sp gV E te σ H Q := h
theorem k_rmkSp {E : XK} {a : Addr} (h : H a = some (.dK (kwD ks zs))) (hl : zs.length = ks.length) (hg : ∀ x, gV [x] zs = x :: vs) (q : RMk C sp vs E H Q) : RMkSp C ks sp gV (.ref a) E H Q := ⟨a, zs, rfl, h, hl, fun x dx h1 h2 h3 => by rw [hg]; exact q x dx h1 h2 h3⟩
end
end L2.MP

set_option Elab.async false
set_option linter.all false
set_option maxRecDepth 100000
set_option maxHeartbeats 4000000
/-! sum of a tuple of bits; a loop over reversed(list). -/
namespace L2.MP
open PySem PySem.Spec PyProof.Rows L2
theorem preSum_bits (val : Nat → Int) (n : Nat) (h : ∀ j, j < n → 0 ≤ val j ∧ val j < 2) : ∀ j, j ≤ n → 0 ≤ preSum val j ∧ preSum val j ≤ j
  | 0, _ => ⟨Int.le_refl _, Int.le_refl _⟩
  | j + 1, hj => by
    have h1 := preSum_bits val n h j (by omega)
    have h2 := h j (by omega)
    show 0 ≤ preSum val j + val j ∧ preSum val j + val j ≤ _
    omega
theorem preSum_ints (ns : List Int) : ∀ n, n ≤ ns.length → preSum (fun i => ns.getD i 0) n = (ns.take n).sum
  | 0, _ => rfl
  | n + 1, hn => by
    have hx : ns[n]? = some ns[n] := List.getElem?_eq_getElem hn
    show preSum _ n + ns.getD n 0 = _
    rw [preSum_ints ns n (by omega), List.take_succ, hx, List.sum_append, List.getD_eq_getElem?_getD, hx]
    simp
def rSumT (K : PySem.W.Frag) : List V → Hp → VK → Prop := fun vs H Q => ∃ (a : Addr) (ns : List Int), vs = [V.ref a] ∧ SqT K H a (ns.map V.int) ∧ (∀ n ∈ ns, 0 ≤ n ∧ n < 2) ∧ ns.length ≤ 1000 ∧ Q (.int ns.sum) H
theorem intsAt : ∀ {us : List Value} {ns : List Int}, IntsAre us ns → ∀ {i : Nat} {v : Value}, us[i]? = some v → ∃ t, v = .int (ns.getD i 0) t
  | _, _, .nil, i, v, h => by simp at h
  | _, _, .cons n t h, 0, v, e => by simp at e; exact ⟨t, by rw [← e]; rfl⟩
  | _, _, .cons n t h, i + 1, v, e => by
    obtain ⟨t', e'⟩ := intsAt h (i := i) (by simpa using e)
    exact ⟨t', by rw [e']; rfl⟩
theorem cr_sumT {X : Cx} (hc : X.calm = true) : CallR X (.builtin "sum") (rSumT X.K) := by
  intro pins s σ H vs us Q I r h
  obtain ⟨a, ns, rfl, hs, hb, hl, q⟩ := h
  obtain ⟨its, rv, p, hz⟩ := I.tuple hs
  have hi := rv.ints
  have hlen : its.length = ns.length := by have := rv.length; rw [List.length_map] at this; omega
  rw [Vals.ref1 r]
  have hT : s.heap.IsTuple a its.toArray := p
  have la : a < s.heap.objs.size := by obtain ⟨o, ho, _⟩ := hT; exact Heap.lt_size ho
  refine call_sum_walk (wpAny_pyIter_tuple hT ?_)
  refine ⟨s.heap.objs.size, [s.heap.objs.size, a], [s.heap.objs.size], its.toArray.size, _, _, fun i => ns.getD i 0, rfl, Walks.tuple (A := X.A.in1) (I.ok.hd hc) s.heap.objs.size a (Nat.ne_of_lt la) its.toArray, ⟨⟨_, Heap.get?_push_size _ rfl, rfl, rfl⟩, hT.at fun o e => Heap.get?_push_of_some _ e⟩, fun b hb => ?_, fun i v hv => ?_, fun j hj => ?_, fun h' tk t' hk => ?_⟩
  · simp only [List.mem_cons, List.not_mem_nil, or_false] at hb
    rw [Heap.size_push]
    rcases hb with rfl | rfl
    · exact Nat.lt_succ_self _
    · exact Nat.lt_succ_of_lt la
  · exact intsAt hi (by simpa using hv)
  · have hj : j < ns.length := by simpa [hlen] using hj
    have hv : ∀ j, j < ns.length → 0 ≤ ns.getD j 0 ∧ ns.getD j 0 < 2 := fun j hj => by
      rw [List.getD_eq_getElem?_getD, List.getElem?_eq_getElem hj]
      exact hb _ (List.getElem_mem hj)
    have h1 := hv j hj
    have h2 := preSum_bits _ _ hv (j + 1) hj
    unfold InLong
    dsimp only
    constructor <;> omega
  · refine ⟨.int _, H, I.kept (t' := tk) (fun b u e => hk b u (fun z => ?_) (Heap.get?_push_of_some _ e)), ⟨_, rfl⟩, ?_⟩
    · simp only [List.mem_cons, List.not_mem_nil, or_false] at z
      subst z
      exact absurd (Heap.lt_size e) (Nat.lt_irrefl _)
    · have e := preSum_ints ns ns.length (Nat.le_refl _)
      rw [List.take_length] at e
      have e2 : its.toArray.size = ns.length := by simpa using hlen
      rw [e2, e]
      exact q
section
variable {K : PySem.W.Frag} {σ : L2.St} {H : Hp} {n b c : L2.St → Hp → Prop} {r : VK} {i : Nat} {tb : TS} {te : TE} {a : Addr} {xs : List V} {Q : VK}
theorem o_sumT {ns : List Int} (h : SqT K H a (ns.map V.int)) (hb : ∀ n ∈ ns, 0 ≤ n ∧ n < 2) (hl : ns.length ≤ 1000) (q : Q (.int ns.sum) H) : rSumT K [.ref a] H Q := ⟨a, ns, rfl, h, hb, hl, q⟩
def RRev (K : PySem.W.Frag) (i : Nat) (tb : TS) (D : Ends) (σ : L2.St) (x : V) (H : Hp) : Prop := ∃ (a : Addr) (xs : List V), x = .ref a ∧ ((SqL K H a xs ∧ FW (Itv K a xs.length) i tb D σ H) ∨ (SqT K H a xs ∧ FW (RT.ItvT K a xs.length) i tb D σ H))
theorem k_forRev (h : te σ H (RRev K i tb ⟨n, r, b, c⟩ σ)) : tFor (RT.iRevA K te) (gName i) tb ⟨n, r, b, c⟩ σ H := h
instance w_k_forRev : W (tFor (RT.iRevA K te) (gName i) tb ⟨n, r, b, c⟩ σ H) (te σ H (RRev K i tb ⟨n, r, b, c⟩ σ)) := ⟨fun z => k_forRev z⟩
theorem k_rrev (h : SqL K H a xs) (P : Nat → L2.St → Hp → Prop) (h0 : P 0 σ H) (hl : ∀ (m : Nat) σ H', P m σ H' → SqL K H' a xs)
    (ht : ∀ (m : Nat) x σ H, m < xs.length → xs[xs.length - 1 - m]? = some x → P m σ H → tb ⟨P (m + 1), r, n, P (m + 1)⟩ (σ.set i (some x)) H) (hd : ∀ σ H, P xs.length σ H → n σ H) : RRev K i tb ⟨n, r, b, c⟩ σ (.ref a) H :=
  ⟨a, xs, rfl, .inl ⟨h, RT.for_Itv (D := ⟨n, r, b, c⟩) P h0 hl (fun m x σ H h1 h2 q => ht m x σ H h1 h2 q) hd⟩⟩
end
end L2.MP

set_option Elab.async false
set_option linter.all false
set_option maxRecDepth 100000
set_option maxHeartbeats 4000000
/-! Sleeping generators are kept: a run from a table whose sleepers are stuck when woken is a run from the true table. -/
namespace L2.MG
open PySem PySem.Spec PyProof.Rows
open Sem (wp)
/-- the i-th generator sleeps -/
def Sus (G : Array GenState) (i : Nat) : Prop := ∃ k l c p fs cl, G[i]? = some (.suspended k l c p fs cl)
def stuckK : Resume → Sem PySem.Fin := fun _ => .unsupported "asleep"
def blind : GenState → GenState
  | .suspended _ l c p fs cl => .suspended stuckK l c p fs cl
  | x => x
theorem blind_seen (x : GenState) : (blind x).seen = x.seen := by cases x <;> rfl
theorem blind_bare (x : GenState) : (blind x).bare = x.bare := by cases x <;> rfl
def NoG : GenState → Prop
  | .suspended _ _ _ _ fs _ => splitAtGen fs = none
  | _ => True
def NoE : End → Prop
  | .susp _ _ _ _ _ _ fs => splitAtGen fs = none
  | _ => True
theorem NoE.st {e : End} (h : NoE e) : NoG e.genState := by cases e <;> exact h
/-- gt: as gs, but that the sleepers of G are stuck -/
structure Bl (G gt gs : Array GenState) : Prop where
  size : gt.size = gs.size
  sus : ∀ i, Sus G i → gs[i]? = G[i]? ∧ gt[i]? = (G[i]?).map blind
  oth : ∀ i, ¬ Sus G i → gt[i]? = gs[i]? ∧ ∀ x, gs[i]? = some x → NoG x
section
variable {G gt gs : Array GenState} {g : Nat}
theorem Bl.lt (b : Bl G gt gs) {i : Nat} (h : Sus G i) : i < gs.size := by
  obtain ⟨k, l, c, p, fs, cl, e⟩ := h
  have := (b.sus i ⟨k, l, c, p, fs, cl, e⟩).1.trans e
  exact (Array.getElem?_eq_some_iff.mp this).1
theorem Bl.push (b : Bl G gt gs) {c : Code} : Bl G (gt.push (.fresh c)) (gs.push (.fresh c)) := by
  refine ⟨by simp [b.size], fun i h => ?_, fun i h => ?_⟩
  · have h1 := b.lt h
    have h2 : i < gt.size := by rw [b.size]; exact h1
    rw [Array.getElem?_push_lt h1, Array.getElem?_push_lt h2, ← Array.getElem?_eq_getElem h1, ← Array.getElem?_eq_getElem h2]
    exact b.sus i h
  · rw [Array.getElem?_push, Array.getElem?_push, b.size]
    split
    · exact ⟨rfl, fun x e => by cases e; trivial⟩
    · exact b.oth i h
theorem Bl.set (b : Bl G gt gs) (h : ¬ Sus G g) {x : GenState} (hx : NoG x) : Bl G (gt.setIfInBounds g x) (gs.setIfInBounds g x) := by
  refine ⟨by simp [b.size], fun i hi => ?_, fun i hi => ?_⟩
  · have hn : g ≠ i := fun z => h (z ▸ hi)
    rw [Array.getElem?_setIfInBounds_ne hn, Array.getElem?_setIfInBounds_ne hn]
    exact b.sus i hi
  · by_cases e : g = i
    · subst e
      by_cases hl : g < gs.size
      · have hl2 : g < gt.size := by rw [b.size]; exact hl
        rw [Array.getElem?_setIfInBounds_self_of_lt hl, Array.getElem?_setIfInBounds_self_of_lt hl2]
        exact ⟨rfl, fun y e => by cases e; exact hx⟩
      · have h1 : (gs.setIfInBounds g x)[g]? = none := by simp [Array.getElem?_setIfInBounds, hl]
        have h2 : (gt.setIfInBounds g x)[g]? = none := by simp [Array.getElem?_setIfInBounds, b.size, hl]
        rw [h1, h2]
        exact ⟨rfl, fun y e => by cases e⟩
    · rw [Array.getElem?_setIfInBounds_ne e, Array.getElem?_setIfInBounds_ne e]
      exact b.oth i hi
theorem Bl.seen (b : Bl G gt gs) {st : GenState} (h : gt[g]? = some st) : ∃ st', gs[g]? = some st' ∧ st'.seen = st.seen := by
  by_cases hs : Sus G g
  · obtain ⟨h1, h2⟩ := b.sus g hs
    obtain ⟨k, l, c, p, fs, cl, e⟩ := hs
    rw [e] at h1 h2
    rw [h2] at h
    cases h
    exact ⟨_, h1, rfl⟩
  · rw [(b.oth g hs).1] at h
    exact ⟨st, h, rfl⟩
theorem Bl.notS (b : Bl G gt gs) {st : GenState} (h : gt[g]? = some st) (hn : ∀ k l c p fs cl, st ≠ .suspended k l c p fs cl) : ¬ Sus G g ∧ gs[g]? = some st := by
  by_cases hs : Sus G g
  · obtain ⟨h1, h2⟩ := b.sus g hs
    obtain ⟨k, l, c, p, fs, cl, e⟩ := hs
    rw [e] at h2
    rw [h2] at h
    cases h
    exact (hn _ _ _ _ _ _ rfl).elim
  · exact ⟨hs, (b.oth g hs).1 ▸ h⟩
theorem Bl.wakeS (b : Bl G gt gs) {k l c p fs cl} (h : gt[g]? = some (.suspended k l c p fs cl)) : k = stuckK ∨ (¬ Sus G g ∧ gs[g]? = some (.suspended k l c p fs cl) ∧ splitAtGen fs = none) := by
  by_cases hs : Sus G g
  · obtain ⟨h1, h2⟩ := b.sus g hs
    obtain ⟨k, l, c, p, fs, cl, e⟩ := hs
    rw [e] at h2
    rw [h2] at h
    cases h
    exact .inl rfl
  · obtain ⟨h1, h2⟩ := b.oth g hs
    have h3 := h2 _ (h1 ▸ h)
    exact .inr ⟨hs, h1 ▸ h, h3⟩
end
theorem stuck0 {M : Model} {Γ : PySem.Ctx} {p : Pos} {w : String} {s s' : Shared} {e : End} : ¬ Runs M Γ p (.unsupported w) [] s e s' := fun h => by cases h
theorem stuck {M : Model} {Γ : PySem.Ctx} {p : Pos} {w : String} {fs : List Frame} {s s' : Shared} {e : End} (h : Runs M Γ p (.unsupported w) fs s e s') : False := by
  cases fs with
  | nil => exact stuck0 h
  | cons F fs =>
    cases h with
    | segRet h _ => exact stuck0 h
    | segGen h _ => exact stuck0 h
    | segSuspOut _ h => exact stuck0 h
    | segSuspGen _ h _ _ => exact stuck0 h
theorem split_ret {k h g l c p kp} {fs : List Frame} (e : splitAtGen (.ret k h g l c p kp :: fs) = none) : splitAtGen fs = none := by
  have : (splitAtGen fs).map _ = none := e
  exact Option.map_eq_none_iff.mp this
theorem split_app {a c : List Frame} (h1 : splitAtGen a = none) (h2 : splitAtGen c = none) : splitAtGen (a ++ c) = none := by
  rw [splitAtGen_append_none c h1, h2]; rfl

theorem runs_bl {M : Model} {G : Array GenState} {Γ : PySem.Ctx} {p : Pos} {tm : Sem PySem.Fin} {fs : List Frame} {t t' : Shared} {e : End} (h : Runs M Γ p tm fs t e t') :
    ∀ gs, splitAtGen fs = none → Bl G t.gens gs → ∃ gs', Runs M Γ p tm fs { t with gens := gs } e { t' with gens := gs' } ∧ Bl G t'.gens gs' ∧ NoE e := by
  induction h with
  | done => intro gs _ b; exact ⟨gs, .done, b, trivial⟩
  | raise => intro gs _ b; exact ⟨gs, .raise, b, trivial⟩
  | again hq _ ih => intro gs hf b; obtain ⟨gs', h, b', n⟩ := ih gs hf b; exact ⟨gs', .again hq h, b', n⟩
  | rule _ ih => intro gs hf b; obtain ⟨gs', h, b', n⟩ := ih gs hf b; exact ⟨gs', .rule h, b', n⟩
  | «at» _ ih => intro gs hf b; obtain ⟨gs', h, b', n⟩ := ih gs hf b; exact ⟨gs', .at h, b', n⟩
  | load ho _ ih => intro gs hf b; obtain ⟨gs', h, b', n⟩ := ih gs hf b; exact ⟨gs', .load ho h, b', n⟩
  | update ho _ ih => intro gs hf b; obtain ⟨gs', h, b', n⟩ := ih gs hf b; exact ⟨gs', .update ho h, b', n⟩
  | loadIfAlive _ ih => intro gs hf b; obtain ⟨gs', h, b', n⟩ := ih gs hf b; exact ⟨gs', .loadIfAlive h, b', n⟩
  | point _ ih => intro gs hf b; obtain ⟨gs', h, b', n⟩ := ih gs hf b; exact ⟨gs', .point h, b', n⟩
  | alloc _ ih => intro gs hf b; obtain ⟨gs', h, b', n⟩ := ih gs hf b; exact ⟨gs', .alloc h, b', n⟩
  | fresh _ ih => intro gs hf b; obtain ⟨gs', h, b', n⟩ := ih gs hf b; exact ⟨gs', .fresh h, b', n⟩
  | ask _ ih => intro gs hf b; obtain ⟨gs', h, b', n⟩ := ih gs hf b; exact ⟨gs', .ask h, b', n⟩
  | choose hn _ ih => intro gs hf b; obtain ⟨gs', h, b', n⟩ := ih gs hf b; exact ⟨gs', .choose hn h, b', n⟩
  | os _ ih => intro gs hf b; obtain ⟨gs', h, b', n⟩ := ih gs hf b; exact ⟨gs', .os h, b', n⟩
  | handled _ ih => intro gs hf b; obtain ⟨gs', h, b', n⟩ := ih gs hf b; exact ⟨gs', .handled h, b', n⟩
  | genState hg _ ih =>
    intro gs hf b
    obtain ⟨st', e1, e2⟩ := b.seen hg
    obtain ⟨gs', h, b', n⟩ := ih gs hf b
    rw [← e2] at h
    exact ⟨gs', .genState e1 h, b', n⟩
  | stack _ ih => intro gs hf b; obtain ⟨gs', h, b', n⟩ := ih gs hf b; exact ⟨gs', .stack h, b', n⟩
  | thread _ ih => intro gs hf b; obtain ⟨gs', h, b', n⟩ := ih gs hf b; exact ⟨gs', .thread h, b', n⟩
  | @newGen _ _ k s _ _ c _ ih =>
    intro gs hf b
    obtain ⟨gs', h, b', n⟩ := ih (gs.push (.fresh c)) hf b.push
    rw [b.size] at h
    exact ⟨gs', .newGen h, b', n⟩
  | call _ _ ih1 ih2 =>
    intro gs hf b
    obtain ⟨g1, h1, b1, _⟩ := ih1 gs rfl b
    obtain ⟨g2, h2, b2, n⟩ := ih2 g1 hf b1
    exact ⟨g2, .call h1 h2, b2, n⟩
  | callSusp _ ih =>
    intro gs hf b
    obtain ⟨g1, h1, b1, n⟩ := ih gs rfl b
    exact ⟨g1, .callSusp h1, b1, split_app n rfl⟩
  | yield => intro gs _ b; exact ⟨gs, .yield, b, rfl⟩
  | @resumeFresh _ _ g _ _ _ _ _ _ _ _ hg _ hq _ ih1 ih2 =>
    intro gs hf b
    obtain ⟨ns, hg'⟩ := b.notS hg (fun _ _ _ _ _ _ z => by cases z)
    obtain ⟨g1, h1, b1, n1⟩ := ih1 (gs.setIfInBounds g .running) rfl (b.set (x := .running) ns trivial)
    obtain ⟨g2, h2, b2, n2⟩ := ih2 (g1.setIfInBounds g _) hf (b1.set ns n1.st)
    exact ⟨g2, .resumeFresh hg' h1 hq h2, b2, n2⟩
  | @resumeSuspended _ _ g _ _ _ _ _ _ _ _ _ _ _ _ _ _ hg hr hq _ ih1 ih2 =>
    intro gs hf b
    rcases b.wakeS hg with rfl | ⟨ns, hg', hfs⟩
    · exact (stuck hr).elim
    · obtain ⟨g1, h1, b1, n1⟩ := ih1 (gs.setIfInBounds g .running) hfs (b.set (x := .running) ns trivial)
      obtain ⟨g2, h2, b2, n2⟩ := ih2 (g1.setIfInBounds g _) hf (b1.set ns n1.st)
      exact ⟨g2, .resumeSuspended hg' h1 hq h2, b2, n2⟩
  | resumeJustStarted hg hv _ ih =>
    intro gs hf b
    obtain ⟨_, hg'⟩ := b.notS hg (fun _ _ _ _ _ _ z => by cases z)
    obtain ⟨g1, h1, b1, n⟩ := ih gs hf b
    exact ⟨g1, .resumeJustStarted hg' hv h1, b1, n⟩
  | resumeThrowFresh hg _ ih =>
    intro gs hf b
    obtain ⟨ns, hg'⟩ := b.notS hg (fun _ _ _ _ _ _ z => by cases z)
    obtain ⟨g1, h1, b1, n⟩ := ih _ hf (b.set (x := .finished) ns trivial)
    exact ⟨g1, .resumeThrowFresh hg' h1, b1, n⟩
  | resumeRunning hg _ ih =>
    intro gs hf b
    obtain ⟨_, hg'⟩ := b.notS hg (fun _ _ _ _ _ _ z => by cases z)
    obtain ⟨g1, h1, b1, n⟩ := ih gs hf b
    exact ⟨g1, .resumeRunning hg' h1, b1, n⟩
  | resumeFinished hg _ ih =>
    intro gs hf b
    obtain ⟨_, hg'⟩ := b.notS hg (fun _ _ _ _ _ _ z => by cases z)
    obtain ⟨g1, h1, b1, n⟩ := ih gs hf b
    exact ⟨g1, .resumeFinished hg' h1, b1, n⟩
  | segRet _ _ ih1 ih2 =>
    intro gs hf b
    obtain ⟨g1, h1, b1, _⟩ := ih1 gs rfl b
    obtain ⟨g2, h2, b2, n⟩ := ih2 g1 (split_ret hf) b1
    exact ⟨g2, .segRet h1 h2, b2, n⟩
  | segGen _ _ _ _ => intro gs hf b; cases hf
  | segSuspOut hs _ ih =>
    intro gs hf b
    obtain ⟨g1, h1, b1, n⟩ := ih gs rfl b
    exact ⟨g1, .segSuspOut hs h1, b1, split_app n hs⟩
  | segSuspGen hs _ _ _ _ _ => intro gs hf b; rw [hs] at hf; cases hf
theorem wakes_bl {M : Model} {G : Array GenState} {Γ : PySem.Ctx} {p : Pos} {g : Nat} {r : Resume} {t t' : Shared} {res : GenResult} (h : Wakes M Γ p g r t res t') {gs : Array GenState} (b : Bl G t.gens gs) :
    ∃ gs', Wakes M Γ p g r { t with gens := gs } res { t' with gens := gs' } ∧ Bl G t'.gens gs' := by
  unfold Wakes at h
  split at h
  · exact h.elim
  · rename_i c hg
    obtain ⟨ns, hg'⟩ := b.notS hg (fun _ _ _ _ _ _ z => by cases z)
    split at h
    · obtain ⟨e₁, s₁, hr, hq, rfl, rfl⟩ := h
      obtain ⟨g1, h1, b1, n1⟩ := runs_bl hr (gs.setIfInBounds g .running) rfl (b.set (x := .running) ns trivial)
      refine ⟨g1.setIfInBounds g e₁.genState, ?_, b1.set ns n1.st⟩
      unfold Wakes
      rw [hg']
      exact ⟨e₁, _, h1, hq, rfl, rfl⟩
    · rename_i v hv
      obtain ⟨rfl, rfl⟩ := h
      refine ⟨gs, ?_, b⟩
      unfold Wakes
      dsimp only
      rw [hg']
      cases v <;> first | exact ⟨rfl, rfl⟩ | exact (hv rfl).elim
    · obtain ⟨rfl, rfl⟩ := h
      refine ⟨gs.setIfInBounds g .finished, ?_, b.set (x := .finished) ns trivial⟩
      unfold Wakes
      rw [hg']
      exact ⟨rfl, rfl⟩
  · rename_i k l c p' fs cl hg
    obtain ⟨e₁, s₁, hr, hq, rfl, rfl⟩ := h
    rcases b.wakeS hg with rfl | ⟨ns, hg', hfs⟩
    · exact (stuck hr).elim
    · obtain ⟨g1, h1, b1, n1⟩ := runs_bl hr (gs.setIfInBounds g .running) hfs (b.set (x := .running) ns trivial)
      refine ⟨g1.setIfInBounds g e₁.genState, ?_, b1.set ns n1.st⟩
      unfold Wakes
      rw [hg']
      exact ⟨e₁, _, h1, hq, rfl, rfl⟩
  · rename_i hg
    obtain ⟨ns, hg'⟩ := b.notS hg (fun _ _ _ _ _ _ z => by cases z)
    obtain ⟨rfl, rfl⟩ := h
    exact ⟨gs, by unfold Wakes; rw [hg']; exact ⟨rfl, rfl⟩, b⟩
  · rename_i hg
    obtain ⟨ns, hg'⟩ := b.notS hg (fun _ _ _ _ _ _ z => by cases z)
    obtain ⟨rfl, rfl⟩ := h
    exact ⟨gs, by unfold Wakes; rw [hg']; exact ⟨rfl, rfl⟩, b⟩

theorem wp_bl {α : Type} (M : Model) (Γ : PySem.Ctx) (G : Array GenState) (tm : Sem α) : ∀ (Q : α → Pos → Shared → Prop) (E : Value → Pos → Shared → Prop) (p : Pos) (t : Shared) (gs : Array GenState), Bl G t.gens gs → wp M Γ tm Q E p t →
    wp M Γ tm (fun a p' s' => ∃ gt, Bl G gt s'.gens ∧ Q a p' { s' with gens := gt }) (fun e p' s' => ∃ gt, Bl G gt s'.gens ∧ E e p' { s' with gens := gt }) p { t with gens := gs } := by
  induction tm with
  | pure a => intro Q E p t gs b h; exact ⟨t.gens, b, h⟩
  | raise e => intro Q E p t gs b h; exact ⟨t.gens, b, h⟩
  | unsupported _ => intro Q E p t gs _ h; exact h
  | finish _ => intro Q E p t gs _ h; exact h
  | rule _ k ih => intro Q E p t gs b h; exact ih () Q E p t gs b h
  | «at» p' k ih => intro Q E p t gs b h; exact ih () Q E p' t gs b h
  | load a _ k ih => intro Q E p t gs b h; obtain ⟨o, ho, h⟩ := h; exact ⟨o, ho, ih o Q E p t gs b h⟩
  | update a _ f k ih => intro Q E p t gs b h; exact ⟨h.1, ih () Q E p { t with heap := t.heap.update a f } gs b h.2⟩
  | loadIfAlive a k ih => intro Q E p t gs b h; exact ih _ Q E p t gs b h
  | point _ k ih => intro Q E p t gs b h; exact ih () Q E p t gs b h
  | register _ _ => intro Q E p t gs _ h; exact h
  | alloc o k ih => intro Q E p t gs b h; exact ih _ Q E p { t with heap := t.heap.push o } gs b h
  | fresh k ih => intro Q E p t gs b h; exact ih _ Q E p { t with toks := t.toks + 1 } gs b h
  | ask k ih => intro Q E p t gs b h; exact ih _ Q E p t gs b h
  | choose src m k ih => intro Q E p t gs b h; exact ⟨h.1, ih _ Q E p { t with drawn := t.drawn.bump src } gs b h.2⟩
  | os q _ k ih => intro Q E p t gs b h; exact ih _ Q E p { t with os := (Os.step t.os q).1 } gs b h
  | call c hd _ _ k ih =>
    intro Q E p t gs b h
    obtain ⟨r, s', hr, h⟩ := h
    obtain ⟨g1, h1, b1, _⟩ := runs_bl hr gs rfl b
    exact ⟨r, _, h1, ih r Q E p s' g1 b1 h⟩
  | handled own k ih => intro Q E p t gs b h; exact ih _ Q E p t gs b h
  | genState g k ih =>
    intro Q E p t gs b h
    obtain ⟨st, hs, h⟩ := h
    obtain ⟨st', e1, e2⟩ := b.seen hs
    exact ⟨st', e1, by rw [e2]; exact ih _ Q E p t gs b h⟩
  | newGen c k ih =>
    intro Q E p t gs b h
    have h2 := ih t.gens.size Q E p { t with gens := t.gens.push (.fresh c) } (gs.push (.fresh c)) b.push h
    rw [b.size] at h2
    exact h2
  | resume g r _ k ih =>
    intro Q E p t gs b h
    obtain ⟨res, s', hw, h⟩ := h
    obtain ⟨g1, h1, b1⟩ := wakes_bl hw b
    exact ⟨res, _, h1, ih res Q E p s' g1 b1 h⟩
  | yield _ _ _ _ => intro Q E p t gs _ h; exact h
  | stack k ih => intro Q E p t gs b h; exact ih _ Q E p t gs b h
  | fork _ _ => intro Q E p t gs _ h; exact h
  | thread k ih => intro Q E p t gs b h; exact ih _ Q E p t gs b h
  | await _ _ _ _ _ => intro Q E p t gs _ h; exact h

/-- the table with all its sleepers stuck -/
def blindG (G : Array GenState) : Array GenState := G.map blind
theorem blindG_bl (G : Array GenState) : Bl G (blindG G) G := by
  refine ⟨by simp [blindG], fun i _ => ⟨rfl, by simp [blindG]⟩, fun i hi => ?_⟩
  simp only [blindG, Array.getElem?_map]
  cases e : G[i]? with
  | none => exact ⟨rfl, fun x z => by cases z⟩
  | some x =>
    cases x with
    | suspended k l c p fs cl => exact (hi ⟨k, l, c, p, fs, cl, e⟩).elim
    | _ => exact ⟨rfl, fun y z => by cases z; trivial⟩
theorem Bl.bare {G gt gs : Array GenState} (b : Bl G gt gs) (h : AllBare gt) : AllBare gs := by
  intro y hy
  obtain ⟨i, hi, rfl⟩ := Array.mem_iff_getElem.mp hy
  have e := Array.getElem?_eq_getElem hi
  by_cases hs : Sus G i
  · obtain ⟨h1, h2⟩ := b.sus i hs
    rw [← h1, e] at h2
    have := h _ (Array.mem_of_getElem? h2)
    rw [blind_bare] at this
    exact this
  · obtain ⟨h1, _⟩ := b.oth i hs
    rw [e] at h1
    exact h _ (Array.mem_of_getElem? h1)
theorem blindG_bare {G : Array GenState} (h : AllBare G) : AllBare (blindG G) := by
  intro y hy
  obtain ⟨x, hx, rfl⟩ := Array.mem_map.mp hy
  rw [blind_bare]
  exact h x hx
/-- all sleepers are kept -/
def KeptG (G G' : Array GenState) : Prop := ∀ (i : Nat) (x : GenState), (∃ k l c p fs cl, x = GenState.suspended k l c p fs cl) → G[i]? = some x → G'[i]? = some x
theorem Bl.kept {G gt gs : Array GenState} (b : Bl G gt gs) : KeptG G gs := by
  rintro i x ⟨k, l, c, p, fs, cl, rfl⟩ e
  rw [(b.sus i ⟨k, l, c, p, fs, cl, e⟩).1, e]
/-- THE RULE: what runs with the sleepers stuck keeps them -/
theorem wpAny_asleep {α : Type} {M : Model} {A : Around} {tm : Sem α} {Q : α → Shared → Prop} {E : Value → Shared → Prop} {s : Shared} (h : wpAny M A tm Q E { s with gens := blindG s.gens }) :
    wpAny M A tm (fun a s' => ∃ gt, Bl s.gens gt s'.gens ∧ Q a { s' with gens := gt }) (fun e s' => ∃ gt, Bl s.gens gt s'.gens ∧ E e { s' with gens := gt }) s :=
  fun Γ p hΓ => wp_bl M Γ s.gens tm _ _ p { s with gens := blindG s.gens } s.gens (blindG_bl _) (h Γ p hΓ)
theorem codeAny_asleep {M : Model} {A : Around} {c : Code} {R : Result → Shared → Prop} {s : Shared} (h : codeAny M A c R { s with gens := blindG s.gens }) :
    codeAny M A c (fun r s' => ∃ gt, Bl s.gens gt s'.gens ∧ R r { s' with gens := gt }) s := fun Γ p hc hΓ => by
  obtain ⟨r, s', hr, q⟩ := h Γ p hc hΓ
  obtain ⟨g1, h1, b1, _⟩ := runs_bl hr s.gens rfl (blindG_bl _)
  exact ⟨r, _, h1, s'.gens, b1, q⟩
end L2.MG

set_option Elab.async false
set_option linter.all false
set_option maxRecDepth 100000
set_option maxHeartbeats 4000000
/-! One segment of a generator's run: from a waking to the next yield or the end. -/
namespace L2.MG
open PySem PySem.Spec PyProof.Rows GenW
open Sem (wp)
def Sg (M : Model) (A : Around) (Φ : End → Shared → Prop) (c : Code) (t : Sem PySem.Fin) (fs : List Frame) (s : Shared) : Prop :=
  ∀ (Γ : PySem.Ctx) (p : Pos), Γ.code = c → Γ.Woken A → ∃ e s', Runs M Γ p t fs s e s' ∧ Φ e s'
section
variable {M : Model} {A : Around} {Φ : End → Shared → Prop} {c : Code} {fs : List Frame} {s : Shared} {env : Env} {K : Flow → Sem PySem.Fin} {H : Value → Sem PySem.Fin} {gd : Bool → Bool} {lv : List Value → List Value}
theorem sg_mono {Φ' : End → Shared → Prop} {t : Sem PySem.Fin} (h : Sg M A Φ c t fs s) (k : ∀ e s', Φ e s' → Φ' e s') : Sg M A Φ' c t fs s := fun Γ p hc hw => let ⟨e, s', r, q⟩ := h Γ p hc hw; ⟨e, s', r, k e s' q⟩
theorem sg_wrap {α : Type} {m : Sem α} {K : α → Sem PySem.Fin} {H : Value → Sem PySem.Fin} {gd lv}
    (h : wpAny M (A.over c fs) m (fun a s' => Sg M A Φ c (K a) fs s') (fun x s' => Sg M A Φ c (H x) fs s') s) : Sg M A Φ c (m.wrap K H gd lv) fs s := by
  rintro Γ p rfl hΓ
  exact runs_wrap_of_wp K H gd lv m (h (Γ.over fs) p (hΓ.over fs)) (fun a p' s' h' => h' Γ p' rfl hΓ) (fun x p' s' h' => h' Γ p' rfl hΓ)
theorem sg_bind {α : Type} {m : Sem α} {K : α → Sem PySem.Fin}
    (h : wpAny M (A.over c fs) m (fun a s' => Sg M A Φ c (K a) fs s') (fun x s' => Sg M A Φ c (.raise x) fs s') s) : Sg M A Φ c (m >>= K) fs s := by
  rw [Sem.bind_eq_wrap']; exact sg_wrap h
theorem sg_bind_wrap {α β : Type} {m : Sem α} {K : α → Sem β} {K' : β → Sem PySem.Fin} {H' : Value → Sem PySem.Fin} {gd lv}
    (h : wpAny M (A.over c fs) m (fun a s' => Sg M A Φ c ((K a).wrap K' H' gd lv) fs s') (fun x s' => Sg M A Φ c (H' x) fs s') s) : Sg M A Φ c ((m >>= K).wrap K' H' gd lv) fs s := by
  rw [Sem.bind_eq_wrap', Sem.wrap_wrap]; exact sg_wrap h
/-- the head of two binds -/
theorem sgw_bind2 {α β γ : Type} {m : Sem α} {f : α → Sem β} {f2 : β → Sem γ} {K : γ → Sem PySem.Fin} {J : Value → Sem PySem.Fin}
    (h : wpAny M (A.over c fs) m (fun a s' => Sg M A Φ c ((f a).wrap (fun b => (f2 b).wrap K J gd lv) J gd lv) fs s') (fun x s' => Sg M A Φ c (J x) fs s') s) : Sg M A Φ c (((m >>= f) >>= f2).wrap K J gd lv) fs s := by
  rw [Sem.bind_eq_wrap' (m >>= f) f2, Sem.wrap_wrap]
  exact sg_bind_wrap h
theorem sg_at {p' : Pos} {k : Unit → Sem PySem.Fin} (h : Sg M A Φ c (k ()) fs s) : Sg M A Φ c (.at p' k) fs s :=
  sg_wrap (m := standAt p') (K := k) (H := .raise) (gd := id) (lv := id) (wpAny_standAt h)
theorem sg_point {l : List Value} {k : Unit → Sem PySem.Fin} (h : Sg M A Φ c (k ()) fs s) : Sg M A Φ c (.point l k) fs s :=
  sg_wrap (m := point) (K := k) (H := .raise) (gd := id) (lv := fun _ => l) (wpAny_point h)
theorem sg_call {c' : Code} {h g l} {k : Result → Sem PySem.Fin} (hc : ∀ p, Sg M A Φ c' (M.den c') (.ret k h g l c p [] :: fs) s) : Sg M A Φ c (.call c' h g l k) fs s := by
  rintro Γ p rfl hΓ
  obtain ⟨e, s', hr, he⟩ := hc p (Γ.goto c') p rfl (hΓ.goto c')
  exact ⟨e, s', runs_call_seg hr, he⟩
theorem sg_leaf {k h g l c₁ p₁ kp} (r : Result) (hk : Sg M A Φ c₁ (k r) fs s) : Sg M A Φ c (leafOf r) (.ret k h g l c₁ p₁ kp :: fs) s := by
  rintro Γ p rfl hΓ
  obtain ⟨e, s', hr, he⟩ := hk (Γ.goto c₁) p₁ rfl (hΓ.goto c₁)
  exact ⟨e, s', Runs.pop r hr, he⟩
theorem sg_again {c' : Code} (hq : c'.quiet = true) (hc : Sg M A Φ c' (M.den c') fs s) : Sg M A Φ c (.pure (.again c')) fs s := by
  rintro Γ p rfl hΓ
  obtain ⟨e, s', hr, he⟩ := hc (Γ.goto c') p rfl (hΓ.goto c')
  exact ⟨e, s', Runs.head (c₁ := c') (fun _ _ x => .again hq x) hr, he⟩
theorem sg_end (r : Result) (h : Φ (.ret r) s) : Sg M A Φ c (leafOf r) [] s := by
  rintro Γ p rfl _
  exact ⟨.ret r, s, Runs.leaf r, h⟩
theorem sg_yield {v g l} {k : Resume → Sem PySem.Fin} (hfs : splitAtGen fs = none) (h : ∀ p, Φ (.susp v g l k c p fs) s) : Sg M A Φ c (.yield v g l k) fs s := by
  rintro Γ p rfl _
  exact ⟨_, s, Runs.yield' fs hfs, h p⟩
theorem sg_execs_nil (h : Sg M A Φ c (K .next) fs s) : Sg M A Φ c ((execs [] env).wrap K H gd lv) fs s := h
theorem sg_execs_cons {st : Stmt} {rest : List Stmt}
    (h : Sg M A Φ c ((exec st env).wrap (fun f => match f with | .next => (execs rest env).wrap K H gd lv | f => K f) H gd lv) fs s) : Sg M A Φ c ((execs (st :: rest) env).wrap K H gd lv) fs s := by rw [execs_cons_wrap]; exact h
/-- yield e, as a statement -/
theorem sg_Expr_Yield {e : Expr} {ypos pos : Pos} (hfs : splitAtGen fs = none)
    (h : wpAny M (A.over c fs) (eval e env) (fun v s' => ∀ p (k : Resume → Sem PySem.Fin), k (.send .none) = K .next → Φ (.susp v (gd false) (lv []) k c p fs) s') (fun x s' => Sg M A Φ c (H x) fs s') s)
    (hco : env.scope.isCoroutine = false := by rfl) (hi : interactive env = false := by rfl) : Sg M A Φ c ((exec (.Expr (.Yield (some e) ypos) pos) env).wrap K H gd lv) fs s := by
  rw [exec_Expr env _ pos hi rfl]
  show Sg M A Φ c (.at pos fun _ => ((eval e env >>= fun v => (standAt ypos >>= fun _ => yieldOut env v)) >>= fun x => dropValue (.Yield (some e) ypos) pos x).wrap K H gd lv) fs s
  have hy : ∀ v, yieldOut env v = yieldValue v := fun v => by simp only [yieldOut, hco, Bool.false_eq_true, if_false]
  simp only [hy]
  refine sg_at ?_
  rw [Sem.bind_eq_wrap', Sem.bind_eq_wrap', Sem.wrap_wrap, Sem.wrap_wrap]
  refine sg_wrap (wpAny_mono h (fun v s' h' => ?_) fun _ _ x => x)
  exact sg_at (sg_yield hfs fun p => h' p _ rfl)
end
section
variable {prog : Program} {w : World} {A : Around} {Φ : End → Shared → Prop} {c : Code} {fs : List Frame} {s : Shared} {env : Env} {K : Flow → Sem PySem.Fin} {H : Value → Sem PySem.Fin} {gd : Bool → Bool} {lv : List Value → List Value}
theorem sg_func {body : List Stmt}
    (h : Sg (model prog w) A Φ (.func body env) ((execs body env).wrap (fun f => .pure (.done (.ret (match f with | .ret v => v | _ => .none)))) (fun e => (leaving env e).wrap (fun _ => .raise e) .raise id id) id id) fs s) :
    Sg (model prog w) A Φ (.func body env) ((model prog w).den (.func body env)) fs s := by
  show Sg _ A Φ _ (.point [] fun _ => ((execs body env).onRaise (leaving env)) >>= _) fs s
  refine sg_point ?_
  rw [Sem.onRaise_eq_wrap, Sem.bind_eq_wrap', Sem.wrap_wrap]
  rw [Sem.wrap_congr (execs body env) _ _ (K' := fun f => .pure (.done (.ret (match f with | .ret v => v | _ => .none))))
    (H' := fun e => (leaving env e).wrap (fun _ => .raise e) .raise id id) (fun f => by cases f <;> rfl)
    (fun e => by rw [Sem.bind_eq_wrap, Sem.wrap_wrap]; rfl)]
  exact h
/-- what a loop's call does with an exception that comes back -/
def backK (env : Env) (K : Flow → Sem PySem.Fin) (H : Value → Sem PySem.Fin) (gd : Bool → Bool) (lv : List Value → List Value) (r : Result) : Sem PySem.Fin :=
  ((match r with | .ok f => (.pure f : Sem Flow) | .error e => .raise e).onRaise fun (x : Value) => do
    if (← field x 1) == Value.none then unsupported "frame.own-activation:exception-without-traceback"
    setFlight x env.frame).wrap K H gd lv
theorem backK_ok (f : Flow) : backK env K H gd lv (.ok f) = K f := rfl
/-- for, as a statement: the iterator, then the loop's code -/
theorem sg_For {target iter : Expr} {body : List Stmt} {pos : Pos}
    (h : wpAny (model prog w) (A.over c fs) (eval iter env) (fun x s₁ => wpAny (model prog w) (A.over c fs) (pyIter x) (fun it s₂ =>
      ∀ p, Sg (model prog w) A Φ (.forLoop target it body [] env) ((model prog w).den (.forLoop target it body [] env)) (.ret (backK env K H gd lv) none (gd false) (lv []) c p [] :: fs) s₂)
      (fun x s' => Sg (model prog w) A Φ c (H x) fs s') s₁) (fun x s' => Sg (model prog w) A Φ c (H x) fs s') s)
    (hs : ∀ x, foldedSetIterable iter env x = pure x := by intro _; rfl) : Sg (model prog w) A Φ c ((exec (.For target iter body [] pos) env).wrap K H gd lv) fs s := by
  rw [exec_For]
  refine sg_bind_wrap (wpAny_standAt ?_)
  refine sg_bind_wrap (wpAny_mono h (fun x s1 h1 => ?_) fun _ _ x => x)
  refine sg_bind_wrap (wpAny_of_eq (hs x) ?_)
  refine sg_bind_wrap (wpAny_standAt ?_)
  refine sg_bind_wrap (wpAny_holding (wpAny_mono h1 (fun it s2 h2 => ?_) fun _ _ x => x))
  exact sg_call h2
/-- one turn of it -/
theorem sg_forLoop {target : Expr} {it : Value} {body : List Stmt}
    (h : wpAny (model prog w) (A.over (.forLoop target it body [] env) fs) (pyNext it) (fun r s1 => match r with
      | none => Sg (model prog w) A Φ (.forLoop target it body [] env) (.pure (.again (.block [] env))) fs s1
      | some v => wpAny (model prog w) (A.over (.forLoop target it body [] env) fs) (letOwnedTupleGo target it v) (fun _ s2 => wpAny (model prog w) (A.over (.forLoop target it body [] env) fs) (assign target env v) (fun _ s3 =>
          ∀ H', Sg (model prog w) A Φ (.forLoop target it body [] env) ((execs body env).wrap (fun f => match f with
            | .next | .cont => .pure (.again (.forLoop target it body [] env))
            | .brk => .pure (.done .next)
            | .ret v => .pure (.done (.ret v))) H' id id) fs s3) (fun _ _ => False) s2) (fun _ _ => False) s1) (fun _ _ => False) s) :
    Sg (model prog w) A Φ (.forLoop target it body [] env) ((model prog w).den (.forLoop target it body [] env)) fs s := by
  show Sg _ A Φ _ ((forTurn target it body [] env).onRaise (fun x => do noteFrame x env; theTreesLotGoes x)) fs s
  unfold forTurn
  rw [Sem.onRaise_eq_wrap]
  refine sg_bind_wrap (wpAny_standAt ?_)
  refine sg_bind_wrap (wpAny_onRaise (wpAny_mono h (fun r s1 h1 => ?_) fun _ _ q => q.elim))
  cases r with
  | none => exact h1
  | some v =>
    refine sg_bind_wrap (wpAny_mono h1 (fun _ s2 h2 => ?_) fun _ _ q => q.elim)
    refine sg_bind_wrap (wpAny_mono h2 (fun _ s3 h3 => ?_) fun _ _ q => q.elim)
    rw [Sem.bind_eq_wrap', Sem.wrap_wrap]
    refine Eq.mp ?_ (h3 (fun e => Sem.wrap Sem.pure (fun e => (do noteFrame e env; theTreesLotGoes e : Sem Unit).bind fun x => Sem.raise e) id id (Sem.raise e)))
    congr 1
    exact Sem.wrap_congr _ _ _ (fun f => by cases f <;> rfl) (fun _ => rfl)
theorem sg_block0 (hq : Sg (model prog w) A Φ (.block [] env) (.pure (.done .next)) fs s) : Sg (model prog w) A Φ c (.pure (.again (.block [] env))) fs s := by
  refine sg_again rfl ?_
  exact hq
end
/-- a generator is woken -/
def Go1 (M : Model) (A : Around) (Φ : End → Shared → Prop) (gs : GenState) (s : Shared) : Prop :=
  match gs with
  | .fresh c => Sg M A Φ c (M.den c) [] s
  | .suspended k _ c _ fs _ => Sg M A Φ c (k (.send .none)) fs s
  | _ => False
theorem wpAny_resume1 {M : Model} {A : Around} {Φ : End → Shared → Prop} {E : Value → Shared → Prop} {s : Shared} {g : Nat} {gs : GenState} {l : List Value} {α : Type} {k : GenResult → Sem α} {Q : α → Shared → Prop} (hg : s.gens[g]? = some gs)
    (hgo : Go1 M A Φ gs (s.setGen g .running)) (hq : ∀ e s', Φ e s' → e.quiet = true) (h : ∀ e s₁, Φ e s₁ → wpAny M A (k e.result) Q E (s₁.setGen g e.genState)) : wpAny M A (.resume g (.send .none) l k) Q E s := by
  intro Γ p hΓ
  rw [Sem.wp_resume]
  have hB : ∀ c, (Γ.wake c p).Woken A := fun c => hΓ.wake c p
  cases gs with
  | fresh c =>
    obtain ⟨e₁, s₁, hr, he⟩ := hgo (Γ.wake c p) p rfl (hB c)
    exact ⟨_, _, by unfold Wakes; rw [hg]; exact ⟨e₁, s₁, hr, hq _ _ he, rfl, rfl⟩, h _ _ he Γ p hΓ⟩
  | suspended k₀ l₀ c₀ p₀ fs₀ cl =>
    obtain ⟨e₁, s₁, hr, he⟩ := hgo (Γ.wake c₀ p) p₀ rfl (hB c₀)
    exact ⟨_, _, by unfold Wakes; rw [hg]; exact ⟨e₁, s₁, hr, hq _ _ he, rfl, rfl⟩, h _ _ he Γ p hΓ⟩
  | running => exact hgo.elim
  | finished => exact hgo.elim
end L2.MG

set_option Elab.async false
set_option linter.all false
set_option maxRecDepth 100000
set_option maxHeartbeats 4000000
/-! A generator's frame at a waking: its context cut anew, and back to the consumer's. -/
namespace L2.MG
open PySem PySem.Spec PyProof.Rows GenW L2.MP
/-- the heap as far as the objects below L reach -/
def cutH (h : Heap) (L : Nat) : Heap := { h with objs := h.objs.extract 0 L }
theorem cut_size {h : Heap} {L : Nat} (hl : L ≤ h.objs.size) : (cutH h L).objs.size = L := by simp [cutH]; omega
theorem cut_of {h : Heap} {L b : Nat} {o : Obj} (e : (cutH h L).get? b = some o) : b < L ∧ h.get? b = some o := by
  unfold Heap.get? cutH at e
  by_cases hb : b < L
  · have e1 : (h.objs.extract 0 L)[b]? = h.objs[b]? := by
      rw [Array.getElem?_extract]; simp; omega
    simp only [e1] at e
    exact ⟨hb, e⟩
  · have e1 : (h.objs.extract 0 L)[b]? = none := by
      rw [Array.getElem?_extract]; simp; omega
    simp only [e1] at e
    cases e
theorem cut_at {h : Heap} {L b : Nat} {o : Obj} (hb : b < L) (e : h.get? b = some o) : (cutH h L).get? b = some o := by
  have e1 : (h.objs.extract 0 L)[b]? = h.objs[b]? := by
    rw [Array.getElem?_extract]; simp; omega
  unfold Heap.get? at e ⊢
  simp only [cutH, e1]
  exact e
def isCellD : Data → Bool
  | .cell _ => true
  | _ => false
theorem notCell {o : Obj} (h : isCellD o.data = false) : ∀ v, o.data ≠ .cell v := fun v e => by rw [e] at h; cases h
theorem notCell' {o : Obj} (h : ∀ v, o.data ≠ .cell v) : isCellD o.data = false := by
  cases e : o.data <;> first | rfl | exact (h _ e).elim
/-- what is young and not the generator's own is pinned -/
def keepers (h : Heap) (H : Hp) (L : Nat) (own : List Addr) : List (Addr × Obj) := (List.range h.objs.size).filterMap fun b =>
  if L < b ∧ (H b).isNone = true ∧ b ∉ own then (match h.get? b with | some o => if isCellD o.data = true then none else some (b, o) | none => none) else none
theorem mem_keepers {h : Heap} {H : Hp} {L : Nat} {own : List Addr} {b : Addr} {o : Obj} (hb : L < b) (n : H b = none) (ho : b ∉ own) (e : h.get? b = some o) (hc : isCellD o.data = false) : (b, o) ∈ keepers h H L own := by
  refine List.mem_filterMap.mpr ⟨b, List.mem_range.mpr (Heap.lt_size e), ?_⟩
  rw [if_pos ⟨hb, by rw [n]; rfl, ho⟩, e]
  simp [hc]
theorem of_keepers {h : Heap} {H : Hp} {L : Nat} {own : List Addr} {p : Addr × Obj} (hp : p ∈ keepers h H L own) : L < p.1 ∧ H p.1 = none ∧ p.1 ∉ own ∧ h.get? p.1 = some p.2 ∧ isCellD p.2.data = false := by
  obtain ⟨b, _, e⟩ := List.mem_filterMap.mp hp
  split at e
  · rename_i hc
    obtain ⟨h1, h2, h3⟩ := hc
    cases q : h.get? b with
    | none => rw [q] at e; cases e
    | some o =>
      rw [q] at e
      dsimp only at e
      split at e
      · cases e
      · rename_i hd
        cases e
        exact ⟨h1, Option.isNone_iff_eq_none.mp h2, h3, q, by simpa using hd⟩
  · cases e
/-- what the consumer has is older than the generator's frame -/
structure Young (X : Cx) (L : Nat) : Prop where
  s0 : X.s_0.heap.objs.size ≤ L
  frs : ∀ b ∈ frs X.stack, b < L
  cel : ∀ x c, X.env.cells.lookup x = some c → c < L
/-- the generator's frame -/
structure GEnv (N : List Str) (env : Env) : Prop where
  kind : env.scope.kind = .function
  glob : env.globals = mainGlobals
  blt : env.builtins = builtinsNs
  cells : env.cells = []
  frame : env.frame = some env.locals
  plain : ∀ x, env.kindOf x ≠ some .cell ∧ env.kindOf x ≠ some .free
/-- the names' values stand in the frame's object -/
structure LocO (N : List Str) (env : Env) (σ : St) (oL : Obj) : Prop where
  len : σ.length = N.length
  ex : ∃ es ep, oL.data = .dict es ep ∧ StrKeys es ∧ ∀ (i : Nat) (x : Str) (v : V), N[i]? = some x → σ[i]? = some (some v) → Vis env.scope x → ∃ u, RelV v u ∧ env.kindOf x = some .local ∧ nsFind es x = some u
/-- the context of the generator's frame, woken at s -/
def rcx (X : Cx) (N : List Str) (env : Env) (A : Around) (s : Shared) (H : Hp) (own : List Addr) : Cx where
  prog := X.prog
  w := X.w
  K := X.K
  mg := X.mg
  base := X.base
  A := A
  N := N
  s_0 := { s with heap := cutH s.heap env.locals }
  H_0 := H
  env := env
  outer := X.stack
  stack := env :: X.stack
  ex := []
  calm := true
  fn := fun _ => true
  pn := keepers s.heap H env.locals own
  xe := fun _ _ => False
section
variable {X : Cx} {pins ip : List (Addr × Obj)} {σ σc : St} {H H1 : Hp} {s s1 : Shared} {N : List Str} {env : Env} {A : Around} {own : List Addr}
theorem Inv.frsLt (I : Inv X pins σc H s) {L : Nat} (y : Young X L) : ∀ b ∈ frs X.stack, b < L := y.frs
theorem Inv.frsAt (I : Inv X pins σc H s) {L : Nat} (h : s.heap.objs.size ≤ L) : ∀ b ∈ frs X.stack, b < L := fun b hb => by
  rcases List.mem_cons.mp (I.stkSub b hb) with e | hb
  · rw [e]; exact Nat.lt_of_lt_of_le I.lt h
  · obtain ⟨_, o, ho, _⟩ := I.ok.funs.mem hb
    exact Nat.lt_of_lt_of_le (Heap.lt_size ho) (Nat.le_trans I.sz h)
theorem recut (I : Inv X pins σc H s) (y : Young X env.locals) (g : GEnv N env) (hA : A.frames = some (env :: X.stack)) (hh : A.handled = none) {oL : Obj} (hL : s.heap.get? env.locals = some oL) (lo : LocO N env σ oL) (hn : H env.locals = none)
    (hip : ∀ p ∈ ip, s.heap.get? p.1 = some p.2 ∧ H p.1 = none ∧ env.locals < p.1 ∧ isCellD p.2.data = false) : Inv (rcx X N env A s H own) ip σ H s := by
  have hsz := cut_size (Nat.le_of_lt (Heap.lt_size hL))
  have hlt := Inv.frsLt I y
  have noc : ∀ x c, env.cells.lookup x = some c → False := fun x c e => by rw [g.cells] at e; cases e
  obtain ⟨es, ep, hd, hk, hlo⟩ := lo.ex
  refine ⟨⟨I.ok.mod, g.kind, g.glob, g.blt, Nat.le_of_eq hsz, fun x z c e _ => (noc x c e).elim, fun x hx => ?_, fun x c _ e => (noc x c e).elim, fun _ => hh, hA, .inr ⟨rfl, g.frame⟩, fun b hb => (by cases hb), fun b o e => ?_, ?_, fun b o e hb => (by cases hb),
    fun b hb => (by cases hb), ?_, I.stkFree⟩, rfl, I.bare, ⟨fun b o e _ _ _ => (cut_of e).2, fun b o e _ _ _ => ⟨o.slots, (cut_of e).2⟩, fun b o _ n _ => n, fun b o e _ => ⟨o, (cut_of e).2⟩, fun _ _ e => e, fun _ _ _ e => e, fun b ps e => ⟨#[], by rw [show H b = _ from e]; simp⟩⟩,
    ⟨fun name => nsFind es name, ⟨oL, es, ep, hL, hd, hk, fun _ => rfl⟩, fun i x v h1 h2 h3 => ?_⟩, fun x c e => (noc x c e).elim, hn, fun x c e => (noc x c e).elim, fun p hp => ?_, I.hok, lo.len⟩
  · rcases hx with z | z
    · exact ((g.plain x).1 z).elim
    · exact ((g.plain x).2 z).elim
  · have hb : b < env.locals := Nat.lt_of_lt_of_le (Heap.lt_size e) (Nat.le_trans I.ok.bsz y.s0)
    exact ⟨cut_at hb (I.bs b o e).1, (I.bs b o e).2⟩
  · show X.base.objs.size ≤ (cutH s.heap env.locals).objs.size
    rw [hsz]
    exact Nat.le_trans I.ok.bsz y.s0
  · have all : ∀ (l : List Env), (∀ b ∈ frs l, b < env.locals) → s.heap.FunFrames X.base l → (cutH s.heap env.locals).FunFrames X.base l := by
      intro l
      induction l with
      | nil => intro _ _; trivial
      | cons en r ih =>
        intro hs hl
        obtain ⟨hk, ⟨L, o, hf, hn, ho, hd⟩, hr⟩ := hl
        have hL : L < env.locals := hs L (by unfold frs; rw [List.filterMap_cons, hf]; exact List.mem_cons_self)
        exact ⟨hk, ⟨L, o, hf, hn, cut_at hL ho, hd⟩, ih (fun b hb => hs b (by unfold frs; rw [List.filterMap_cons, hf]; exact List.mem_cons_of_mem _ hb)) hr⟩
    exact all X.stack hlt I.stack
  · obtain ⟨u, r1, k1, f1⟩ := hlo i x v h1 h2 h3
    exact ⟨u, r1, .inl ⟨k1, f1⟩⟩
  · rcases List.mem_append.mp hp with z | z
    · obtain ⟨h1, h2, _, h4, h5⟩ := of_keepers z
      exact ⟨h4, h2, Nat.ne_of_gt h1, fun hm => absurd (hlt _ hm) (Nat.not_lt.mpr (Nat.le_of_lt h1)), notCell h5⟩
    · obtain ⟨h1, h2, h3, h4⟩ := hip p z
      exact ⟨h1, h2, Nat.ne_of_gt h3, fun hm => absurd (hlt _ hm) (Nat.not_lt.mpr (Nat.le_of_lt h3)), notCell h4⟩
theorem objOk_ex {P : Program} {w : World} {H : Hp} {h : Heap} {a : Addr} {o : HO} (x : ObjOk P w H h a o) : ∃ ob, h.get? a = some ob := by
  cases o with
  | lst xs => obtain ⟨_, _, _, _, e⟩ := x; exact ⟨_, e⟩
  | tup xs => obtain ⟨_, _, _, ol, e, _⟩ := x; exact ⟨_, e⟩
  | dK kvs => obtain ⟨_, _, _, _, o, _, _, e, _⟩ := x; exact ⟨_, e⟩
  | dT kvs => obtain ⟨_, _, _, _, o, _, _, e, _⟩ := x; exact ⟨_, e⟩
  | set S n => obtain ⟨o, _, _, _, e, _⟩ := x; exact ⟨_, e⟩
  | ins C dx fs => obtain ⟨_, _, _, e, _⟩ := x; exact ⟨_, e⟩
  | own y => exact x
  | xd fs => obtain ⟨_, ⟨_, _, _, e, _⟩, _⟩ := x; exact ⟨_, e⟩
  | rng lo hi => obtain ⟨_, _, _, e⟩ := x; exact ⟨_, e⟩
  | frz od u => exact ⟨_, x.1⟩
  | tbl ps => exact ⟨_, x⟩
  | met f y => exact ⟨_, x⟩
  | ext φ => exact x.2.1
/-- back in the consumer's frame -/
theorem recut_back (I : Inv X pins σc H s) (y : Young X env.locals) (hL : env.locals ∈ own) (ho : ∀ b ∈ own, FpOk X pins H b ∧ env.locals ≤ b) (J : Inv (rcx X N env A s H own) ip σ H1 s1) (hx : Ex H H1) : Inv X pins σc H1 s1 := by
  have hlt := Inv.frsLt I y
  refine I.call' (ch := own ++ (List.range s.heap.objs.size).filter fun b => decide (env.locals < b) && (match s.heap.get? b with | some o => isCellD o.data | none => false)) J.os ?_ J.hok J.bare fun b hb => ?_
  · have nch : ∀ {b : Addr} {o : Obj}, b ∉ own ++ (List.range s.heap.objs.size).filter (fun b => decide (env.locals < b) && (match s.heap.get? b with | some o => isCellD o.data | none => false)) → s.heap.get? b = some o → b ∉ own ∧ (env.locals < b → isCellD o.data = false) := fun {b o} h e => by
      refine ⟨fun z => h (List.mem_append_left _ z), fun hlb => ?_⟩
      cases q : isCellD o.data with
      | false => rfl
      | true => exact (h (List.mem_append_right _ (List.mem_filter.mpr ⟨List.mem_range.mpr (Heap.lt_size e), by rw [e]; simp [hlb, q]⟩))).elim
    have pinOf : ∀ {b : Addr} {o : Obj}, s.heap.get? b = some o → H b = none → b ∉ own ++ (List.range s.heap.objs.size).filter (fun b => decide (env.locals < b) && (match s.heap.get? b with | some o => isCellD o.data | none => false)) → ¬ b < env.locals → s1.heap.get? b = some o ∧ H1 b = none := fun {b o} e n h hb => by
      obtain ⟨h1, h2⟩ := nch h e
      have hne : b ≠ env.locals := fun z => h1 (z ▸ hL)
      have hlb : env.locals < b := Nat.lt_of_le_of_ne (Nat.not_lt.mp hb) (Ne.symm hne)
      obtain ⟨p1, p2, _⟩ := J.pin (b, o) (List.mem_append_left _ (mem_keepers hlb n h1 e (h2 hlb)))
      exact ⟨p1, p2⟩
    refine ⟨fun b o e n hf hc => ?_, fun b o e n hf hc => ?_, fun b o e n hc => ?_, fun b o e hc => ?_, fun b xs e => hx _ _ e, fun b o u e => hx _ _ e, fun b ps e => ⟨#[], by rw [hx _ _ e]; simp⟩⟩
    · by_cases hb : b < env.locals
      · exact J.base.keep b o (cut_at hb e) n hf (by intro z; cases z)
      · exact (pinOf e n hc hb).1
    · exact J.base.slot b o (cut_at (hlt b hf) e) n hf (by intro z; cases z)
    · by_cases hb : b < env.locals
      · exact J.base.free b o (cut_at hb e) n (by intro z; cases z)
      · exact (pinOf e n hc hb).2
    · by_cases hb : b < env.locals
      · exact J.base.there b o (cut_at hb e) (by intro z; cases z)
      · cases q : H b with
        | none => exact ⟨o, (pinOf e q hc hb).1⟩
        | some u => exact objOk_ex (J.hok b u (hx _ _ q))
  · rcases List.mem_append.mp hb with z | z
    · obtain ⟨⟨_, f1, _, f3, f4, f5⟩, _⟩ := ho b z
      exact ⟨f3, f1, f4, f5⟩
    · obtain ⟨_, hc⟩ := List.mem_filter.mp z
      simp only [Bool.and_eq_true, decide_eq_true_eq] at hc
      obtain ⟨hlb, hc⟩ := hc
      refine ⟨.inr (Nat.le_of_lt (Nat.lt_of_le_of_lt y.s0 hlb)), fun e => ?_, fun x c e e2 => ?_, fun p hp e => ?_⟩
      · obtain ⟨m, ⟨oX, es, ep, hoX, hdX, _⟩, _⟩ := I.loc
        rw [e, hoX] at hc
        dsimp only at hc
        rw [hdX] at hc
        cases hc
      · rw [← e2] at hlb; exact absurd (y.cel x c e) (Nat.not_lt.mpr (Nat.le_of_lt hlb))
      · obtain ⟨p1, _, _, _, p5⟩ := I.pin p hp
        rw [← e, p1] at hc
        have := notCell' p5
        dsimp only at hc
        rw [this] at hc
        cases hc
/-- the own objects' places behind it -/
theorem fp_back (I : Inv X pins σc H s) (y : Young X env.locals) (ho : ∀ b ∈ own, FpOk X pins H b) {b : Addr} {o : Obj} (hb : env.locals < b) (hn : H1 b = none) (hk : ∀ q ∈ keepers s.heap H env.locals own, q.1 ≠ b) : FpOk X pins H1 b := by
  have hlt := Inv.frsLt I y
  have hfs : ∀ c ∈ X.fs, c < env.locals := fun c hc => by
    obtain ⟨_, o, ho, _⟩ := I.ok.funs.mem hc
    exact Nat.lt_of_lt_of_le (Heap.lt_size ho) y.s0
  refine ⟨hn, fun e => ?_, fun z => absurd (hfs b z) (Nat.not_lt.mpr (Nat.le_of_lt hb)), .inr (Nat.le_of_lt (Nat.lt_of_le_of_lt y.s0 hb)), fun x c e => Nat.ne_of_lt (Nat.lt_trans (y.cel x c e) hb), fun p hp e => ?_⟩
  · obtain ⟨m, ⟨oX, es, ep, hoX, hdX, _⟩, _⟩ := I.loc
    by_cases hm : X.env.locals ∈ own
    · exact (ho _ hm).2.1 rfl
    · exact hk _ (mem_keepers (by rw [← e]; exact hb) I.free hm hoX (by rw [hdX]; rfl)) e.symm
  obtain ⟨p1, p2, _, _, p5⟩ := I.pin p hp
  by_cases hm : p.1 ∈ own
  · exact (ho _ hm).2.2.2.2.2 p hp rfl
  · exact hk _ (mem_keepers (by rw [e]; exact hb) p2 hm p1 (notCell' p5)) e
end
end L2.MG

set_option Elab.async false
set_option linter.all false
set_option maxRecDepth 100000
set_option maxHeartbeats 4000000
/-! A generator's body, statement by statement; between its turns others run. -/
namespace L2.MR
open PySem PySem.Spec PyProof.Rows GenW L2.MP L2.MG
/-- where a generator lives: its consumer's frames, the around of its waking, what it hands out, its frame -/
structure Gx where
  P : Program
  w : World
  K : PySem.W.Frag
  mg : Str → Option Value
  base : Heap
  stack : List Env
  A : Around
  J : It
  N : List Str
  env : Env
  M : Nat
  R : Hp → Hp → Prop
abbrev Gx.L (C : Gx) : Addr := C.env.locals
abbrev Gx.Ad (C : Gx) : Around := C.A.deeper C.env
structure Gx.Ok (C : Gx) : Prop where
  env : GEnv C.N C.env
  hd : C.A.handled = none
  fr : C.A.frames = some C.stack
  ex : ∀ i H x H', C.J.yld i H x H' → Ex H H'
/-- a waking: the consumer's context and state -/
structure Wk where
  X : Cx
  pins : List (Addr × Obj)
  σ : St
  H : Hp
  s : Shared
  own : List Addr
  i : Nat
structure WkOk (C : Gx) (u : Wk) : Prop where
  prog : u.X.prog = C.P
  w : u.X.w = C.w
  K : u.X.K = C.K
  mg : u.X.mg = C.mg
  base : u.X.base = C.base
  stack : u.X.stack = C.stack
  inv : Inv u.X u.pins u.σ u.H u.s
  young : Young u.X C.L
  own : ∀ b ∈ u.own, FpOk u.X u.pins u.H b ∧ C.L ≤ b
  ownL : C.L ∈ u.own
  has : ∃ oL, u.s.heap.get? C.L = some oL
  goes : C.J.go u.i u.H ∨ C.J.stop u.i u.H
def Gx.rc (C : Gx) (u : Wk) : Cx where
  prog := C.P
  w := C.w
  K := C.K
  mg := C.mg
  base := C.base
  A := C.Ad
  N := C.N
  s_0 := { u.s with heap := cutH u.s.heap C.env.locals }
  H_0 := u.H
  env := C.env
  outer := C.stack
  stack := C.env :: C.stack
  ex := []
  calm := true
  fn := fun _ => true
  pn := keepers u.s.heap u.H C.env.locals u.own
  xe := fun _ _ => False
theorem rc_eq {C : Gx} {u : Wk} (k : WkOk C u) : C.rc u = rcx u.X C.N C.env C.Ad u.s u.H u.own := by
  unfold Gx.rc rcx
  rw [k.prog, k.w, k.K, k.mg, k.base, k.stack]
/-- young objects of the generator's own -/
def Aged (C : Gx) (u : Wk) (l : List (Addr × Obj)) : Prop := ∀ p ∈ l, C.L < p.1 ∧ isCellD p.2.data = false ∧ ∀ q ∈ keepers u.s.heap u.H C.L u.own, q.1 ≠ p.1
/-- the end of a turn -/
def Phi (C : Gx) : Nat → Wk → End → Shared → Prop
  | _, u, .ret r, s1 => (r = .ok (.ret .none) ∨ r = .ok .next) ∧ C.J.stop u.i u.H ∧ ∃ σ' ip', Inv (C.rc u) ip' σ' u.H s1
  | 0, _, .susp .., _ => False
  | n + 1, u, .susp v g _ k c _ fs, s1 => (g = false ∧ fs.any Frame.guarded = false) ∧ C.J.go u.i u.H ∧ ∃ x H1 σ' ip', RelV x v ∧ C.J.yld u.i u.H x H1 ∧ Inv (C.rc u) ip' σ' H1 s1 ∧ Aged C u ip' ∧
      ∀ u' : Wk, WkOk C u' → u'.i = u.i + 1 → C.R H1 u'.H → u'.own = C.L :: ip'.map (·.1) → (∃ oL, u'.s.heap.get? C.L = some oL ∧ LocO C.N C.env σ' oL) → (∀ p ∈ ip', u'.s.heap.get? p.1 = some p.2) →
        Sg (model C.P C.w) C.A (Phi C n u') c (k (.send .none)) fs u'.s
structure GE where
  nx : Nat → Hp → St → Hp → Prop
  rt : Nat → Hp → VK
  bk : Nat → Hp → St → Hp → Prop := fun _ _ _ _ => False
  ct : Nat → Hp → St → Hp → Prop := fun _ _ _ _ => False
abbrev TGy := GE → Nat → Hp → St → Hp → Prop
def GE.at (D : GE) (i : Nat) (Hw : Hp) : Ends := { nx := D.nx i Hw, rt := D.rt i Hw, bk := D.bk i Hw, ct := D.ct i Hw }
/-- what follows -/
def KOk (C : Gx) (ip : List (Addr × Obj)) (D : GE) (c : Code) (fs : List Frame) (Kc : Flow → Sem PySem.Fin) : Prop :=
  ∀ (n : Nat) (u : Wk) (s : Shared) (f : Flow), n + u.i = C.M → WkOk C u → Aged C u ip → SP (C.rc u) ip (D.at u.i u.H) f s → Sg (model C.P C.w) C.A (Phi C n u) c (Kc f) fs s
structure GCd (C : Gx) (c : Code) (fs : List Frame) (gd : Bool → Bool) : Prop where
  over : C.A.over c fs = C.Ad
  split : splitAtGen fs = none
  guard : fs.any Frame.guarded = false
  gd : gd false = false
structure GSt (C : Gx) (st : Stmt) (t : TGy) : Prop where
  run : ∀ (n : Nat) (u : Wk) (ip : List (Addr × Obj)) (σ : St) (H : Hp) (s : Shared) (D : GE) (c : Code) (fs : List Frame) (Kc : Flow → Sem PySem.Fin) (Jc : Value → Sem PySem.Fin) (gd : Bool → Bool) (lv : List Value → List Value),
    n + u.i = C.M → WkOk C u → Aged C u ip → GCd C c fs gd → KOk C ip D c fs Kc → Inv (C.rc u) ip σ H s → t D u.i u.H σ H → Sg (model C.P C.w) C.A (Phi C n u) c ((exec st C.env).wrap Kc Jc gd lv) fs s
structure GSts (C : Gx) (st : List Stmt) (t : TGy) : Prop where
  run : ∀ (n : Nat) (u : Wk) (ip : List (Addr × Obj)) (σ : St) (H : Hp) (s : Shared) (D : GE) (c : Code) (fs : List Frame) (Kc : Flow → Sem PySem.Fin) (Jc : Value → Sem PySem.Fin) (gd : Bool → Bool) (lv : List Value → List Value),
    n + u.i = C.M → WkOk C u → Aged C u ip → GCd C c fs gd → KOk C ip D c fs Kc → Inv (C.rc u) ip σ H s → t D u.i u.H σ H → Sg (model C.P C.w) C.A (Phi C n u) c ((execs st C.env).wrap Kc Jc gd lv) fs s
section
variable {C : Gx} {st : Stmt} {rest : List Stmt}
theorem mdl {u : Wk} (_ : WkOk C u) : model (C.rc u).prog (C.rc u).w = model C.P C.w := rfl
/-- a statement that hands out nothing -/
def tPl (t : TS) : TGy := fun D i Hw σ H => t (D.at i Hw) σ H
theorem gst_ps {t : TS} (h : ∀ u, WkOk C u → PS (C.rc u) st t) : GSt C st (tPl t) := by
  refine ⟨fun n u ip σ H s D c fs Kc Jc gd lv hn hw ha g k I ht => ?_⟩
  refine sg_wrap ?_
  rw [g.over]
  have q := (h u hw).run ip s σ H (D.at u.i u.H) I ht
  rw [mdl hw] at q
  exact wpAny_mono q (fun f s' hs => k n u s' f hn hw ha hs) fun _ _ z => z.elim
theorem gsts_pss {t : TS} (h : ∀ u, WkOk C u → PSs (C.rc u) rest t) : GSts C rest (tPl t) := by
  refine ⟨fun n u ip σ H s D c fs Kc Jc gd lv hn hw ha g k I ht => ?_⟩
  refine sg_wrap ?_
  rw [g.over]
  have q := (h u hw).run ip s σ H (D.at u.i u.H) I ht
  rw [mdl hw] at q
  exact wpAny_mono q (fun f s' hs => k n u s' f hn hw ha hs) fun _ _ z => z.elim
def tG0 : TGy := fun D i Hw σ H => D.nx i Hw σ H
theorem gsts_nil : GSts C [] tG0 := by
  refine ⟨fun n u ip σ H s D c fs Kc Jc gd lv hn hw ha g k I ht => ?_⟩
  exact sg_execs_nil (k n u s .next hn hw ha ⟨σ, H, I, ht⟩)
def tGSeq (t v : TGy) : TGy := fun D i Hw σ H => t { D with nx := fun i' Hw' σ' H' => v D i' Hw' σ' H' } i Hw σ H
theorem gsts_cons {t v : TGy} (a : GSt C st t) (b : GSts C rest v) : GSts C (st :: rest) (tGSeq t v) := by
  refine ⟨fun n u ip σ H s D c fs Kc Jc gd lv hn hw ha g k I ht => ?_⟩
  refine sg_execs_cons ?_
  refine a.run n u ip σ H s { D with nx := fun i' Hw' σ' H' => v D i' Hw' σ' H' } c fs _ Jc gd lv hn hw ha g (fun n' u' s' f hn' hw' ha' hs => ?_) I ht
  cases f with
  | next =>
    obtain ⟨σ', H', I', q⟩ := hs
    exact b.run n' u' ip σ' H' s' D c fs Kc Jc gd lv hn' hw' ha' g k I' q
  | brk => exact k n' u' s' .brk hn' hw' ha' hs
  | cont => exact k n' u' s' .cont hn' hw' ha' hs
  | ret x => exact k n' u' s' (.ret x) hn' hw' ha' hs
theorem gsts_one {t : TGy} (a : GSt C st t) : GSts C [st] (tGSeq t tG0) := gsts_cons a gsts_nil
/-- the frame's object at a sleep -/
theorem locO_of {u : Wk} {ip : List (Addr × Obj)} {σ : St} {H : Hp} {s : Shared} (g : GEnv C.N C.env) (I : Inv (C.rc u) ip σ H s) : ∃ oL, s.heap.get? C.L = some oL ∧ LocO C.N C.env σ oL := by
  obtain ⟨m, ⟨o, es, ep, ho, hd, hk, hf⟩, hl⟩ := I.loc
  refine ⟨o, ho, I.len, es, ep, hd, hk, fun i x v h1 h2 h3 => ?_⟩
  obtain ⟨u', r, hlk⟩ := hl i x v h1 h2 h3
  rcases hlk with ⟨k1, e1⟩ | ⟨k1, _⟩
  · exact ⟨u', r, k1, by rw [hf]; exact e1⟩
  · rcases k1 with k1 | k1
    · exact ((g.plain x).1 k1).elim
    · exact ((g.plain x).2 k1).elim
/-- awake again: the frame's context cut anew -/
theorem rewake (ok : C.Ok) {u' : Wk} (hw : WkOk C u') {ip : List (Addr × Obj)} {σ : St} (ho : u'.own = C.L :: ip.map (·.1)) (hl : ∃ oL, u'.s.heap.get? C.L = some oL ∧ LocO C.N C.env σ oL) (hp : ∀ p ∈ ip, u'.s.heap.get? p.1 = some p.2)
    (hage : ∀ p ∈ ip, C.L < p.1 ∧ isCellD p.2.data = false) : Inv (C.rc u') ip σ u'.H u'.s ∧ Aged C u' ip := by
  obtain ⟨oL, hL, lo⟩ := hl
  refine ⟨rc_eq hw ▸ recut hw.inv hw.young ok.env (by rw [hw.stack]; exact Around.frames_deeper ok.fr) ok.hd hL lo (hw.own _ hw.ownL).1.1 fun p hm => ?_, fun p hm => ⟨(hage p hm).1, (hage p hm).2, fun q hq e => ?_⟩⟩
  · exact ⟨hp p hm, (hw.own p.1 (by rw [ho]; exact List.mem_cons_of_mem _ (List.mem_map.mpr ⟨p, hm, rfl⟩))).1.1, hage p hm⟩
  · refine (of_keepers hq).2.2.1 ?_
    rw [e, ho]
    exact List.mem_cons_of_mem _ (List.mem_map.mpr ⟨p, hm, rfl⟩)
/-- yield e -/
def tGYield (C : Gx) (te : TE) : TGy := fun D i Hw σ H => i < C.M ∧ C.J.go i Hw ∧ te σ H fun x H1 => C.J.yld i Hw x H1 ∧ ∀ H2, C.R H1 H2 → (C.J.go (i + 1) H2 ∨ C.J.stop (i + 1) H2) → D.nx (i + 1) H2 σ H2
theorem gst_yield {e : Expr} {yp pos : Pos} {te : TE} (ok : C.Ok) (he : ∀ u, WkOk C u → PE (C.rc u) e te) (hco : C.env.scope.isCoroutine = false := by rfl) (hi : interactive C.env = false := by rfl) : GSt C (.Expr (.Yield (some e) yp) pos) (tGYield C te) := by
  refine ⟨fun n u ip σ H s D c fs Kc Jc gd lv hn hw ha g k I ht => ?_⟩
  obtain ⟨hlt, hgo, ht⟩ := ht
  obtain ⟨n, rfl⟩ : ∃ m, n = m + 1 := ⟨n - 1, by omega⟩
  refine sg_Expr_Yield g.split ?_ hco hi
  rw [g.over]
  have q := (he u hw).run ip s σ H _ I ht
  rw [mdl hw] at q
  refine wpAny_mono q (fun v s' hv p kk hk => ?_) fun _ _ z => z.elim
  obtain ⟨x, H1, I1, rv, hy, hnx⟩ := hv
  refine ⟨⟨g.gd, g.guard⟩, hgo, x, H1, σ, ip, rv, hy, I1, ha, fun u' hw' hi' hR' ho' hl' hp' => ?_⟩
  rw [hk]
  obtain ⟨I2, ha2⟩ := rewake ok hw' ho' hl' hp' fun p hm => ⟨(ha p hm).1, (ha p hm).2.1⟩
  refine k n u' u'.s .next (by omega) hw' ha2 ⟨σ, u'.H, I2, ?_⟩
  show D.nx u'.i u'.H σ u'.H
  rw [hi']
  exact hnx u'.H hR' (by rw [← hi']; exact hw'.goes)
/-- the same, by what the generator gives alone -/
abbrev tGYR (J : It) (M : Nat) (R : Hp → Hp → Prop) (te : TE) : TGy := fun D i Hw σ H => i < M ∧ J.go i Hw ∧ te σ H fun x H1 => J.yld i Hw x H1 ∧ ∀ H2, R H1 H2 → (J.go (i + 1) H2 ∨ J.stop (i + 1) H2) → D.nx (i + 1) H2 σ H2
theorem gst_yieldR {e : Expr} {yp pos : Pos} {te : TE} (ok : C.Ok) (he : ∀ u, WkOk C u → PE (C.rc u) e te) (hco : C.env.scope.isCoroutine = false := by rfl) (hi : interactive C.env = false := by rfl) : GSt C (.Expr (.Yield (some e) yp) pos) (tGYR C.J C.M C.R te) := gst_yield ok he hco hi
theorem gcd_loop {c c' : Code} {fs : List Frame} {gd : Bool → Bool} {k : Result → Sem PySem.Fin} {l kp : List Value} {p : Pos} (g : GCd C c fs gd) (hw : c'.weight = 0) (hu : c'.cUnits = 0) :
    GCd C c' (.ret k none (gd false) l c p kp :: fs) id where
  over := (over_loop hw hu).trans g.over
  split := by
    show (splitAtGen fs).map _ = none
    rw [g.split]; rfl
  guard := by
    show (gd false || fs.any Frame.guarded) = false
    rw [g.gd, g.guard]; rfl
  gd := rfl
/-- for, its body hands out -/
def tGFor (wi : TI) (g : TG) (tb : TGy) : TGy := fun D i Hw σ H => wi σ H fun J H1 => ∃ W : Nat → Nat → Nat → Hp → St → Hp → Prop, (∃ m, W 0 m i Hw σ H1) ∧ ∀ j m i Hw σ H, W j m i Hw σ H →
  (J.stop j H ∧ D.nx i Hw σ H) ∨ (J.go j H ∧ ∃ N : Nat → Hp → St → Hp → Prop, (∀ i' Hw' σ' H', N i' Hw' σ' H' → ∃ m', m' < m ∧ W (j + 1) m' i' Hw' σ' H') ∧
    ∀ x H', J.yld j H x H' → g x σ H' fun σ2 H2 => tb { D with nx := N, ct := N, bk := D.nx } i Hw σ2 H2)
theorem gst_for {tg iter : Expr} {body : List Stmt} {wi : TI} {g : TG} {tb : TGy} {pos : Pos} (ok : C.Ok) (hi : ∀ u, WkOk C u → PI (C.rc u) tg iter wi) (hg : ∀ u, WkOk C u → PG (C.rc u) tg g) (hb : GSts C body tb)
    (hs : ∀ x, foldedSetIterable iter C.env x = pure x := by intro _; rfl) : GSt C (.For tg iter body [] pos) (tGFor wi g tb) := by
  refine ⟨fun n u ip σ H s D c fs Kc Jc gd lv hn hw ha gc k I ht => ?_⟩
  refine sg_For ?_ hs
  rw [gc.over]
  have q := (hi u hw).run ip s σ H _ I ht
  rw [mdl hw] at q
  refine wpAny_mono q (fun v s1 h1 => wpAny_mono h1 (fun itv s2 h2 => ?_) fun _ _ z => z.elim) fun _ _ z => z.elim
  obtain ⟨it, fp, tn, J, H2, e, I2, T, st2, f2, W, ⟨m0, w0⟩, turn⟩ := h2
  subst e
  intro p
  have gl : GCd C (.forLoop tg (.ref it) body [] C.env) (.ret (backK C.env Kc Jc gd lv) none (gd false) (lv []) c p [] :: fs) id := gcd_loop gc rfl rfl
  have T' : Turn C.P C.w C.K tg J fp it tn := by
    exact T
  -- the loop's objects against what stands around it
  have apart : ∀ b ∈ fp, ∀ p ∈ ip, p.1 ≠ b := fun b hb p hp => (f2 b hb).2.2.2.2.2 p (List.mem_append_right _ hp)
  have fpAt : ∀ {u : Wk} {s : Shared} {H : Hp} {σ : St} {ips : List (Addr × Obj)}, WkOk C u → Inv (C.rc u) ips σ H s → (∀ b ∈ fp, C.L < b ∧ ∀ q ∈ keepers u.s.heap u.H C.L u.own, q.1 ≠ b) → (∀ b ∈ fp, H b = none) → ∀ b ∈ fp, FpOk (C.rc u) ip H b := fun {u s H σ ips} hw I hag hn b hb => by
    obtain ⟨h1, h2⟩ := hag b hb
    have hlt := Inv.frsLt hw.inv hw.young
    rw [hw.stack] at hlt
    refine ⟨hn b hb, Nat.ne_of_gt h1, fun z => absurd (hlt b z) (Nat.not_lt.mpr (Nat.le_of_lt h1)), .inr ?_, fun x c e => ?_, fun q hq => ?_⟩
    · have hsz := I.ok.above
      exact Nat.le_trans hsz (Nat.le_of_lt h1)
    · rw [show (C.rc u).env.cells = [] from ok.env.cells] at e
      cases e
    · rcases List.mem_append.mp hq with z | z
      · exact h2 q z
      · exact apart b hb q z
  have hM : ∀ {u : Wk}, WkOk C u → (C.rc u).s_0.heap.objs.size = C.L := fun {u} hw => by
    obtain ⟨oL, hL⟩ := hw.has
    exact cut_size (Nat.le_of_lt (Heap.lt_size hL))
  have fpAge : ∀ b ∈ fp, C.L < b ∧ ∀ q ∈ keepers u.s.heap u.H C.L u.own, q.1 ≠ b := fun b hb => by
    obtain ⟨_, h1, _, h3, _, h5⟩ := f2 b hb
    refine ⟨?_, fun q hq => h5 q (List.mem_append_left _ hq)⟩
    rcases h3 with h3 | h3
    · cases h3
    · rw [hM hw] at h3
      exact Nat.lt_of_le_of_ne h3 (Ne.symm h1)
  have loop : ∀ (m n : Nat) (u : Wk) (s : Shared) (σ : St) (H : Hp) (j : Nat), n + u.i = C.M → WkOk C u → Aged C u ip → (∀ b ∈ fp, C.L < b ∧ ∀ q ∈ keepers u.s.heap u.H C.L u.own, q.1 ≠ b) → Inv (C.rc u) ip σ H s → tn j s.heap → (∀ b ∈ fp, H b = none) → W j m u.i u.H σ H →
      Sg (model C.P C.w) C.A (Phi C n u) (.forLoop tg (.ref it) body [] C.env) ((model C.P C.w).den (.forLoop tg (.ref it) body [] C.env)) (.ret (backK C.env Kc Jc gd lv) none (gd false) (lv []) c p [] :: fs) s := by
    intro m
    induction m using Nat.strongRecOn with
    | ind m ih =>
      intro n u s σ H j hn hw ha hfa I st fr w
      refine sg_forLoop ?_
      rw [gl.over]
      have fpo := fpAt hw I hfa fr
      rcases turn j m u.i u.H σ H w with ⟨stop, qn⟩ | ⟨go, N, hN, step⟩
      · refine wpAny_mono (T'.done (C.rc u) rfl rfl rfl rfl j ip s σ H (fun _ _ => False) I fpo st stop) (fun r s4 hr => ?_) fun _ _ z => z
        obtain ⟨rfl, I4⟩ := hr
        exact sg_block0 (sg_leaf (.ok .next) (k n u s4 .next hn hw ha ⟨σ, H, I4, qn⟩))
      · refine wpAny_mono (T'.item (C.rc u) rfl rfl rfl rfl j ip s σ H (fun _ _ => False) I fpo st go) (fun r s4 hr => ?_) fun _ _ z => z
        obtain ⟨uv, rfl, h4⟩ := hr
        refine wpAny_mono h4 (fun _ s5 h5 => ?_) fun _ _ z => z
        obtain ⟨x, H5, I5, r5, y5, st5, fr5⟩ := h5
        have fpo5 := fpAt hw I5 hfa fr5
        have I5' := I5.pinned fpo5 (T'.obj _ _ st5)
        have q6 := (hg u hw).run _ s5 σ H5 x uv _ I5' r5 (step x H5 y5)
        rw [mdl hw] at q6
        refine wpAny_mono q6 (fun _ s6 h6 => ?_) fun _ _ z => z
        obtain ⟨σ6, H6, I6, q6⟩ := h6
        intro H'
        have age : Aged C u (ip ++ pinsAt fp s5.heap) := fun q hq => by
          rcases List.mem_append.mp hq with z | z
          · exact ha q z
          · obtain ⟨hb, e⟩ := of_pinsAt z
            obtain ⟨o, e', d⟩ := T'.obj _ _ st5 q.1 hb
            rw [e] at e'; cases e'
            exact ⟨(hfa q.1 hb).1, notCell' d, (hfa q.1 hb).2⟩
        refine hb.run n u (ip ++ pinsAt fp s5.heap) σ6 H6 s6 { D with nx := N, ct := N, bk := D.nx } _ _ _ H' id id hn hw age gl (fun n' u' s' f hn' hw' ha' hs => ?_) I6 q6
        have ha1 : Aged C u' ip := fun q hq => ha' q (List.mem_append_left _ hq)
        have hfa1 : ∀ b ∈ fp, C.L < b ∧ ∀ q ∈ keepers u'.s.heap u'.H C.L u'.own, q.1 ≠ b := fun b hb => by
          obtain ⟨o, e, d⟩ := T'.obj _ _ st5 b hb
          obtain ⟨z1, _, z3⟩ := ha' (b, o) (List.mem_append_right _ (mem_pinsAt hb e))
          exact ⟨z1, z3⟩
        have again : ∀ {σ7 : St} {H7 : Hp}, Inv (C.rc u') (ip ++ pinsAt fp s5.heap) σ7 H7 s' → N u'.i u'.H σ7 H7 → Sg (model C.P C.w) C.A (Phi C n' u') (.forLoop tg (.ref it) body [] C.env) (.pure (.again (.forLoop tg (.ref it) body [] C.env))) (.ret (backK C.env Kc Jc gd lv) none (gd false) (lv []) c p [] :: fs) s' := fun {σ7 H7} I7 n7 => by
          obtain ⟨m', hm, w7⟩ := hN _ _ σ7 H7 n7
          refine sg_again rfl (ih m' hm n' u' s' σ7 H7 (j + 1) hn' hw' ha1 hfa1 I7.unpinned (T'.keep _ _ _ st5 fun b hb o e => (I7.pin (b, o) (List.mem_append_right _ (List.mem_append_right _ (mem_pinsAt hb e)))).1) (fun b hb => ?_) w7)
          obtain ⟨o, e, d⟩ := T'.obj _ _ st5 b hb
          exact (I7.pin (b, o) (List.mem_append_right _ (List.mem_append_right _ (mem_pinsAt hb e)))).2.1
        cases f with
        | next => obtain ⟨σ7, H7, I7, n7⟩ := hs; exact again I7 n7
        | cont => obtain ⟨σ7, H7, I7, n7⟩ := hs; exact again I7 n7
        | brk => obtain ⟨σ7, H7, I7, q7⟩ := hs; exact sg_leaf (.ok .next) (k n' u' s' .next hn' hw' ha1 ⟨σ7, H7, I7.unpinned, q7⟩)
        | ret v => obtain ⟨x7, σ7, H7, I7, r7, q7⟩ := hs; exact sg_leaf (.ok (.ret v)) (k n' u' s' (.ret v) hn' hw' ha1 ⟨x7, σ7, H7, I7.unpinned, r7, q7⟩)
  exact loop m0 n u s2 σ H2 0 hn hw ha fpAge I2 st2 (fun b hb => (f2 b hb).1) w0
end
end L2.MR

set_option Elab.async false
set_option linter.all false
set_option maxRecDepth 100000
set_option maxHeartbeats 4000000
/-! A generator asleep, and woken by its consumer. -/
namespace L2.MR
open PySem PySem.Spec PyProof.Rows GenW L2.MP L2.MG
/-- the generator's own object -/
def GenObj (ao : Obj) (g : Nat) : Prop := ∃ nm qn, ao.cls = .type "generator" ∧ ao.data = .fields #[.int g 0, nm, qn] ∧ ao.slots = #[]
theorem GenObj.is {h : Heap} {a : Addr} {ao : Obj} {g : Nat} (x : GenObj ao g) (e : h.get? a = some ao) : h.IsGen a g := let ⟨nm, qn, h1, h2, h3⟩ := x; ⟨ao, nm, qn, e, h1, h2, h3⟩
theorem GenObj.nc {ao : Obj} {g : Nat} (x : GenObj ao g) : isCellD ao.data = false := by obtain ⟨_, _, _, e, _⟩ := x; rw [e]; rfl
def IsSus (gs : GenState) : Prop := ∃ k l c p fs cl, gs = .suspended k l c p fs cl
/-- asleep ahead of its i-th item; own: its objects -/
def Slp (C : Gx) (a : Addr) (g i : Nat) (own : List (Addr × Obj)) (gs : GenState) (Rq : Hp → Prop) : Prop :=
  ∃ n σ ip oL ao, n + i = C.M ∧ own = (a, ao) :: (C.L, oL) :: ip ∧ GenObj ao g ∧ LocO C.N C.env σ oL ∧ (∀ p ∈ ip, C.L < p.1 ∧ isCellD p.2.data = false) ∧ C.L < a ∧ (∀ p ∈ ip, p.1 ≠ a) ∧ gs.bare = true ∧
    ∀ u : Wk, WkOk C u → u.i = i → Rq u.H → u.own = C.L :: ip.map (·.1) → (∃ oL, u.s.heap.get? C.L = some oL ∧ LocO C.N C.env σ oL) → (∀ p ∈ ip, u.s.heap.get? p.1 = some p.2) → Go1 (model C.P C.w) C.A (Phi C n u) gs u.s
theorem LocO.nc {N : List Str} {env : Env} {σ : St} {oL : Obj} (x : LocO N env σ oL) : isCellD oL.data = false := by obtain ⟨_, es, ep, e, _⟩ := x; rw [e]; rfl
theorem Slp.nc {C : Gx} {a : Addr} {g i : Nat} {own : List (Addr × Obj)} {gs : GenState} {Rq : Hp → Prop} (h : Slp C a g i own gs Rq) : ∀ p ∈ own, C.L ≤ p.1 ∧ ∀ v, p.2.data ≠ .cell v := by
  obtain ⟨n, σ, ip, oL, ao, _, rfl, go, lo, hip, hla, _⟩ := h
  intro p hp
  rcases List.mem_cons.mp hp with rfl | hp
  · exact ⟨Nat.le_of_lt hla, notCell go.nc⟩
  · rcases List.mem_cons.mp hp with rfl | hp
    · exact ⟨Nat.le_refl _, notCell (LocO.nc lo)⟩
    · exact ⟨Nat.le_of_lt (hip p hp).1, notCell (hip p hp).2⟩
section
variable {X : Cx} {pins : List (Addr × Obj)} {σ : St} {H : Hp} {s : Shared}
theorem Inv.regen {G : Array GenState} (I : Inv X pins σ H s) (hb : AllBare G) : Inv X pins σ H { s with gens := G } := ⟨I.ok, I.os, hb, I.base, I.loc, I.cell, I.free, I.freeC, I.pin, I.hok, I.len⟩
theorem bare_set {G : Array GenState} {g : Nat} {x : GenState} (h : AllBare G) (hx : x.bare = true) : AllBare (G.setIfInBounds g x) := by
  intro y hy
  obtain ⟨i, hi⟩ := Array.mem_iff_getElem?.mp hy
  by_cases e : g = i
  · subst e
    by_cases hl : g < G.size
    · rw [Array.getElem?_setIfInBounds_self_of_lt hl] at hi
      cases hi
      exact hx
    · simp [Array.getElem?_setIfInBounds, hl] at hi
  · rw [Array.getElem?_setIfInBounds_ne e] at hi
    exact h y (Array.mem_of_getElem? hi)
theorem fp_H {H1 : Hp} {b : Addr} (f : FpOk X pins H b) (n : H1 b = none) : FpOk X pins H1 b := ⟨n, f.2⟩
theorem susp_bare {v : Value} {g : Bool} {l : List Value} {k : Resume → Sem PySem.Fin} {c : Code} {p : Pos} {fs : List Frame} (h1 : g = false) (h2 : fs.any Frame.guarded = false) : (End.susp v g l k c p fs).quiet = true ∧ (End.susp v g l k c p fs).genState = .suspended k l c p fs false := by
  subst h1
  refine ⟨?_, ?_⟩
  · show (!(false || fs.any Frame.guarded)) = true
    rw [h2]; rfl
  · show GenState.suspended k l c p fs (false || fs.any Frame.guarded) = _
    rw [h2]; rfl
/-- what a waking gives -/
def Woke (C : Gx) (X : Cx) (pins : List (Addr × Obj)) (σ : St) (H : Hp) (a : Addr) (g i : Nat) (r : Option Value) (s1 : Shared) : Prop :=
  (r = none ∧ C.J.stop i H ∧ Inv X pins σ H s1) ∨
  ∃ uv x H1 own' gs', r = some uv ∧ C.J.go i H ∧ RelV x uv ∧ C.J.yld i H x H1 ∧ Inv X pins σ H1 s1 ∧ Slp C a g (i + 1) own' gs' (C.R H1) ∧ (∀ p ∈ own', FpOk X pins H1 p.1 ∧ s1.heap.get? p.1 = some p.2) ∧ s1.gens[g]? = some gs' ∧ IsSus gs'
theorem Phi.end_ {C : Gx} {n : Nat} {u : Wk} {r : Result} {s1 : Shared} (h : Phi C n u (.ret r) s1) : (r = .ok (.ret .none) ∨ r = .ok .next) ∧ C.J.stop u.i u.H ∧ ∃ σ' ip', Inv (C.rc u) ip' σ' u.H s1 := by
  cases n <;> exact h
theorem Phi.mk_end {C : Gx} {n : Nat} {u : Wk} {r : Result} {s1 : Shared} (h : (r = .ok (.ret .none) ∨ r = .ok .next) ∧ C.J.stop u.i u.H ∧ ∃ σ' ip', Inv (C.rc u) ip' σ' u.H s1) : Phi C n u (.ret r) s1 := by
  cases n <;> exact h
theorem wake {C : Gx} (ok : C.Ok) {A0 : Around} (hA : C.A = A0.in1) (hroom : A0.depth < recursionLimit) {a : Addr} {g i : Nat} {own : List (Addr × Obj)} {gs : GenState} {Rq : Hp → Prop} (sl : Slp C a g i own gs Rq) (hRq : Rq H) (hp : X.prog = C.P) (hw : X.w = C.w) (hK : X.K = C.K) (hm : X.mg = C.mg) (hbase : X.base = C.base) (hst : X.stack = C.stack)
    (I : Inv X pins σ H s) (y : Young X C.L) (hown : ∀ p ∈ own, FpOk X pins H p.1 ∧ s.heap.get? p.1 = some p.2) (hg : s.gens[g]? = some gs) (goes : C.J.go i H ∨ C.J.stop i H) (E : Value → Shared → Prop) :
    wpAny (model C.P C.w) A0 (pyNext (.ref a)) (fun r s1 => Woke C X pins σ H a g i r s1) E s := by
  obtain ⟨n, σg, ip, oL, ao, hn, rfl, go, lo, hip, hla, hipa, hbare, hrun⟩ := sl
  have hao := hown (a, ao) List.mem_cons_self
  have hoL := hown (C.L, oL) (List.mem_cons_of_mem _ List.mem_cons_self)
  have hips : ∀ p ∈ ip, FpOk X pins H p.1 ∧ s.heap.get? p.1 = some p.2 := fun p h => hown p (List.mem_cons_of_mem _ (List.mem_cons_of_mem _ h))
  have isg := go.is hao.2
  have hlt : g < s.gens.size := (Array.getElem?_eq_some_iff.mp hg).1
  have hh : A0.handled = none := by have := ok.hd; rw [hA] at this; exact this
  refine wpAny_gsz (n := g + 1) hlt ?_
  let u : Wk := ⟨X, pins, σ, H, s.setGen g .running, C.L :: ip.map (·.1), i⟩
  have hu : WkOk C u := by
    refine ⟨hp, hw, hK, hm, hbase, hst, Inv.regen I (bare_set I.bare rfl), y, fun b hb => ?_, List.mem_cons_self, ⟨oL, hoL.2⟩, goes⟩
    rcases List.mem_cons.mp hb with e | hb
    · rw [e]; exact ⟨hoL.1, Nat.le_refl _⟩
    · obtain ⟨p, hp, e⟩ := List.mem_map.mp hb
      rw [← e]
      exact ⟨(hips p hp).1, Nat.le_of_lt (hip p hp).1⟩
  have hgo := hrun u hu rfl hRq rfl ⟨oL, hoL.2, lo⟩ fun p h => (hips p h).2
  unfold pyNext
  refine wpAny_bind (wpAny_attempt ?_)
  refine wpAny_callSpecial?_slot (name := Str.ofString "__next__") isg.typeIs slot_gen_next (wpAny_call_entry slot_gen_next isg.typeIs entry_gen_next ?_ (args_gen_next _))
  show wpAny _ A0.in1 (Builtin.Generator.genWake (.ref a) (.send .none)) _ _ s
  unfold Builtin.Generator.genWake
  refine wpAny_bind (wpAny_holding (wpAny_genNumber isg ?_))
  refine wpAny_bind (wpAny_genState hg ?_)
  have ends : ∀ (e : End) (s1 : Shared), Phi C n u e s1 → e.quiet = true := fun e s1 h => by
    cases e with
    | ret r => rfl
    | susp v gd l k c p fs =>
      cases n with
      | zero => exact h.elim
      | succ n => exact (susp_bare h.1.1 h.1.2).1
  have back : ∀ {ip' : List (Addr × Obj)} {σ' : St} {H1 : Hp} {s1 : Shared}, Inv (C.rc u) ip' σ' H1 s1 → Ex H H1 → Inv X pins σ H1 s1 := fun {ip' σ' H1 s1} J hx =>
    recut_back hu.inv y hu.ownL hu.own (rc_eq hu ▸ J) hx
  cases gs with
  | running => exact hgo.elim
  | finished => exact hgo.elim
  | _ =>
    refine wpAny_bind (wpAny_roomToWake I.nolimit hroom ?_)
    show wpAny _ A0.in1 (.resume g (.send .none) [] _) _ _ s
    refine wpAny_resume1 (A := A0.in1) (Φ := Phi C n u) hg (hA ▸ hgo) ends fun e s1 he => ?_
    cases e with
    | ret r =>
      obtain ⟨hr, hstop, σ', ip', J⟩ := he.end_
      have er : (End.ret r).result = .returned .none := by rcases hr with rfl | rfl <;> rfl
      rw [er]
      have I1 : Inv X pins σ H (s1.setGen g (End.ret r).genState) := Inv.regen (back J (Ex.refl _)) (bare_set (back J (Ex.refl _)).bare rfl)
      generalize s1.setGen g (End.ret r).genState = s2 at I1 ⊢
      show wpAny (model C.P C.w) A0.in1 ((newExc (.type "StopIteration") []) >>= _) _ _ s2
      refine wpAny_bind ?_; simp only [newExc, newTuple]
      refine wpAny_bind (wpAny_newObj_type (hd := by size_fits) ?_)
      refine wpAny_bind (m := firstArgMember _ _) (wpAny_of_eq (a := Value.none) (by first | rfl | (simp only [firstArgMember]; rfl)) ?_)
      refine wpAny_newObj_type (hd := by size_fits) ?_
      simp only [raiseNew]
      refine wpAny_bind (wpAny_bind (wpAny_handled ?_))
      first | rw [show A0.in1.handled = none from hh] | rw [hh]
      refine wpAny_throw ?_
      refine wpAny_bind (wpAny_isInstance (b := true) (T := "StopIteration") ⟨_, Heap.get?_push_size _ rfl, rfl⟩ isSubtype_stop ?_)
      refine wpAny_pure fun _ => .inl ⟨rfl, hstop, ?_⟩
      exact I1.kept fun b o h => Heap.get?_push_of_some _ (Heap.get?_push_of_some _ h)
    | susp v gd l k c p fs =>
      cases n with
      | zero => exact he.elim
      | succ n =>
        obtain ⟨⟨e1, e2⟩, hgoi, x, H1, σ', ip', rv, hy, J, ha, hk⟩ := he
        have I1 := back J (ok.ex _ _ _ _ hy)
        rw [(susp_bare (v := v) (l := l) (k := k) (c := c) (p := p) e1 e2).2]
        refine wpAny_pure ⟨v, rfl, wpAny_pure fun hsz => ?_⟩
        have hsz' : g < s1.gens.size := by
          have : (s1.setGen g (.suspended k l c p fs false)).gens.size = s1.gens.size := setGen_size _ _ _
          omega
        obtain ⟨oL', hoL', lo'⟩ := locO_of ok.env J
        have hka : (a, ao) ∈ keepers u.s.heap u.H C.L u.own := mem_keepers hla hao.1.1 (fun z => by
          rcases List.mem_cons.mp z with z | z
          · exact absurd z (Nat.ne_of_gt hla)
          · obtain ⟨q, hq, e⟩ := List.mem_map.mp z
            exact hipa q hq e) hao.2 go.nc
        have pa := J.pin (a, ao) (List.mem_append_left _ hka)
        refine .inr ⟨v, x, H1, (a, ao) :: (C.L, oL') :: ip', _, rfl, hgoi, rv, hy, Inv.regen I1 (bare_set I1.bare rfl), ?_, fun q hq => ?_, ?_, ⟨k, l, c, p, fs, false, rfl⟩⟩
        · exact ⟨n, σ', ip', oL', ao, by omega, rfl, go, lo', fun q hq => ⟨(ha q hq).1, (ha q hq).2.1⟩, hla, fun q hq => ((ha q hq).2.2 _ hka).symm, rfl, fun u' h1 h2 h3 h4 h5 h6 => hk u' h1 h2 h3 h4 h5 h6⟩
        · rcases List.mem_cons.mp hq with rfl | hq
          · exact ⟨fp_H hao.1 pa.2.1, pa.1⟩
          · rcases List.mem_cons.mp hq with rfl | hq
            · exact ⟨fp_H hoL.1 J.free, hoL'⟩
            · have pq := J.pin q (List.mem_append_right _ hq)
              exact ⟨fp_back (o := q.2) hu.inv y (fun b hb => (hu.own b hb).1) (ha q hq).1 pq.2.1 (ha q hq).2.2, pq.1⟩
        · show (s1.gens.setIfInBounds g _)[g]? = _
          rw [Array.getElem?_setIfInBounds_self_of_lt hsz']
end
end L2.MR

set_option Elab.async false
set_option linter.all false
set_option maxRecDepth 100000
set_option maxHeartbeats 4000000
/-! A call of a generator def; for over what it gives. -/
namespace L2.MR
open PySem PySem.Spec PyProof.Rows GenW L2.MP L2.MG
/-- a generator made, not begun -/
structure MadeW (P : Program) (w : World) (K : PySem.W.Frag) (mg : Str → Option Value) (base : Heap) (k : Nat) (outer : List Env) (J : It) (M : Nat) (R : Hp → Hp → Prop) (s s' : Shared) (a : Addr) : Prop where
  os : s'.os = s.os
  bare : AllBare s'.gens
  keep : ∀ b o, s.heap.get? b = some o → s'.heap.get? b = some o
  ex : ∃ (g : Nat) (env : Env) (N : List Str) (oL ao : Obj) (gs : GenState), s.heap.objs.size ≤ env.locals ∧ env.locals < a ∧ s'.heap.get? a = some ao ∧ s'.heap.get? env.locals = some oL ∧ s'.gens[g]? = some gs ∧
    ∀ A0 : Around, Room k A0 → A0.frames = some outer → Gx.Ok ⟨P, w, K, mg, base, outer, A0.in1, J, N, env, M, R⟩ ∧ Slp ⟨P, w, K, mg, base, outer, A0.in1, J, N, env, M, R⟩ a g 0 [(a, ao), (env.locals, oL)] gs (fun _ => True)
/-- a generator def's promise -/
structure GFnW (P : Program) (w : World) (K : PySem.W.Frag) (mg : Str → Option Value) (base : Heap) (k : Nat) (f : Addr) (fd : FuncData) (ps : List Str) (sp : List V → It → Nat → (Hp → Hp → Prop) → Prop) : Prop where
  len : ∀ vs J M R, sp vs J M R → vs.length = ps.length
  one : ∀ vs J M R, sp vs J M R → ∀ i H, J.go i H → J.stop i H → False
  run : ∀ (A : Around) (outer : List Env) (s : Shared) (H : Hp) (args : Args) (us : List Value) (vs : List V) (J : It) (M : Nat) (R : Hp → Hp → Prop), Room k A → Env0 P w K mg base A outer s H → BindsTo s fd args (ps.zip us) → Vals vs us → sp vs J M R →
    codeAny (model P w) A (.call (.ref f) args) (fun r s' => ∃ a, r = .ok (.ret (.ref a)) ∧ MadeW P w K mg base k outer J M R s s' a) s
/-- what the end of the body must say -/
def endD (J : It) : GE := { nx := fun i Hw _ H => H = Hw ∧ J.stop i Hw, rt := fun i Hw v H => v = .non ∧ H = Hw ∧ J.stop i Hw }
theorem room_d {k : Nat} {A0 : Around} (r : Room (k + 2) A0) (env : Env) : Room k (A0.in1.deeper env) := (Room.in1 r).deeper env
theorem gfnw_of {P : Program} {w : World} {K : PySem.W.Frag} {mg : Str → Option Value} {base : Heap} {k : Nat} {f : Addr} {name qual : Str} {params : Arguments} {body : List Stmt} {scope : Scope} {dV kV doc pm cdv ct oc : Value} {an od : Option Addr}
    {osl : Array (Option Value)} {N ps : List Str} {sp : List V → It → Nat → (Hp → Hp → Prop) → Prop} (lk : K.lookup f = some ⟨oc, od, .func (PySem.W.fnOf name qual params body scope dV kV doc pm an cdv ct), osl⟩) (hcd : PySem.W.codeIn K cdv qual = true) (S : GScope N ps scope)
    (hpl : ∀ x, scope.names.lookup x ≠ some .cell ∧ scope.names.lookup x ≠ some .free) (hcl : ∀ n, cellsFrom n scope.names [] = []) (len : ∀ vs J M R, sp vs J M R → vs.length = ps.length) (hJ : ∀ vs J M R, sp vs J M R → ∀ i H x H', J.yld i H x H' → Ex H H') (hone : ∀ vs J M R, sp vs J M R → ∀ i H, J.go i H → J.stop i H → False)
    (hbody : ∀ (C : Gx) (L : Addr) (vs : List V), C.Ok → C.P = P → C.w = w → C.K = K → C.mg = mg → C.base = base → C.N = N → C.env = envOfC qual scope L f cdv → Room k C.Ad → sp vs C.J C.M C.R →
      ∃ t, GSts C body t ∧ ∀ H, (C.J.go 0 H ∨ C.J.stop 0 H) → t (endD C.J) 0 H (start N vs) H) :
    GFnW P w K mg base (k + 2) f (PySem.W.fnOf name qual params body scope dV kV doc pm an cdv ct) ps sp := by
  refine ⟨len, hone, fun A outer s H args us vs J M R hr e0 hb r hsp => ?_⟩
  have hl := len _ _ _ _ hsp
  have KX : K.In s.heap := e0.mod.kin.keeps fun b o e => (e0.bs b o e).1
  have lim : s.heap.NoLimit := e0.mod.nolimit.keeps fun b o e => (e0.bs b o e).1
  have kinds : ∀ y ∈ ps.zip us, scope.names.lookup y.1 = some .local ∨ (scope.names.lookup y.1 = some .cell ∧ ((cellsFrom (s.heap.objs.size + 1) scope.names []).lookup y.1).isSome = true) := fun ⟨n, v⟩ hy => by
    rcases S.par n (List.of_mem_zip hy).1 with q | q
    · exact .inl q
    · exact ((hpl n).1 q).elim
  refine codeAny_call_generator hr.depth (KX _ _ lk) rfl S.co S.gen rfl (PySem.W.codeRec_of KX hcd) (hb _ _ _ _ ?_)
  refine wpAny_newFunctionEnv_cells S.kind kinds fun env he s1 x => ?_
  subst he
  have keep1 : ∀ b o, s.heap.get? b = some o → s1.heap.get? b = some o := x.toInCall.keep
  refine ⟨lim.keeps keep1, ?_⟩
  obtain ⟨h1, tk, es1, hk1⟩ := x.done
  have I1 : Inv (gcxOf P w K mg base N qual scope f cdv A outer s H (fun _ _ _ => False) []) [] (start N vs) H s1 := inv_startG S hr.hd e0 hl r x
  have genv : GEnv N (envOfC qual scope s.heap.objs.size f cdv) := ⟨S.kind, rfl, rfl, hcl _, rfl, hpl⟩
  have lo : ∃ oL, s1.heap.get? s.heap.objs.size = some oL ∧ LocO N (envOfC qual scope s.heap.objs.size f cdv) (start N vs) oL := by
    obtain ⟨m, ⟨o, es, ep, ho, hd, hk, hf⟩, hlk⟩ := I1.loc
    refine ⟨o, ho, I1.len, es, ep, hd, hk, fun i y v h1 h2 h3 => ?_⟩
    obtain ⟨u', r', hlk'⟩ := hlk i y v h1 h2 h3
    rcases hlk' with ⟨k1, e1⟩ | ⟨k1, _⟩
    · exact ⟨u', r', k1, by rw [hf]; exact e1⟩
    · rcases k1 with k1 | k1
      · exact ((hpl y).1 k1).elim
      · exact ((hpl y).2 k1).elim
  obtain ⟨oL, hoL, lo⟩ := lo
  have lt1 : s.heap.objs.size < s1.heap.objs.size := Heap.lt_size hoL
  refine ⟨s1.heap.objs.size, rfl, by rw [es1], AllBare.push (by rw [es1]; exact e0.bare) rfl, fun b o e => Heap.get?_push_of_some _ (keep1 b o e), s1.gens.size, envOfC qual scope s.heap.objs.size f cdv, N, oL, _, _, Nat.le_refl _, lt1, Heap.get?_push_size _ rfl, Heap.get?_push_of_some _ hoL,
    Array.getElem?_push_size .., fun A0 hA0 hfr => ?_⟩
  have ok : Gx.Ok ⟨P, w, K, mg, base, outer, A0.in1, J, N, envOfC qual scope s.heap.objs.size f cdv, M, R⟩ := ⟨genv, hA0.hd, hfr, hJ _ _ _ _ hsp⟩
  refine ⟨ok, M, start N vs, [], oL, _, rfl, rfl, ⟨_, _, rfl, rfl, rfl⟩, lo, fun p hp => (by cases hp), lt1, fun p hp => (by cases hp), rfl, fun u hu hi _ ho hL _ => ?_⟩
  obtain ⟨t, ht, hq⟩ := hbody ⟨P, w, K, mg, base, outer, A0.in1, J, N, envOfC qual scope s.heap.objs.size f cdv, M, R⟩ s.heap.objs.size vs ok rfl rfl rfl rfl rfl rfl rfl (room_d hA0 _) hsp
  obtain ⟨I2, ha⟩ := rewake ok hu (ip := []) ho hL (fun p hp => (by cases hp)) fun p hp => (by cases hp)
  refine sg_func ?_
  refine ht.run M u [] (start N vs) u.H u.s (endD J) _ [] _ _ id id (by show M + u.i = M; rw [hi]; rfl) hu ha ⟨over_func, rfl, rfl, rfl⟩ (fun n u' s' fl hn hw' ha' hs => ?_) I2 ?_
  · cases fl with
    | next =>
      obtain ⟨σ', H', J', eH, hst⟩ := hs
      subst eH
      exact sg_end (.ok (.ret .none)) (Phi.mk_end ⟨.inl rfl, hst, σ', [], J'⟩)
    | brk => obtain ⟨_, _, _, q⟩ := hs; exact False.elim q
    | cont => obtain ⟨_, _, _, q⟩ := hs; exact False.elim q
    | ret v =>
      obtain ⟨y, σ', H', J', rv, ev, eH, hst⟩ := hs
      subst ev eH
      have ev : v = Value.none := rv
      subst ev
      exact sg_end (.ok (.ret .none)) (Phi.mk_end ⟨.inl rfl, hst, σ', [], J'⟩)
  · rw [hi]
    refine hq u.H ?_
    have := hu.goes
    rw [hi] at this
    exact this
end L2.MR

set_option Elab.async false
set_option linter.all false
set_option maxRecDepth 100000
set_option maxHeartbeats 4000000
/-! Expressions run while generators sleep; a context whose beginning is an older state. -/
namespace L2.MR
open PySem PySem.Spec PyProof.Rows GenW L2.MP L2.MG
/-- a context whose beginning is an older state -/
abbrev older (B : Cx) (s0 : Shared) (H0 : Hp) : Cx := { B with s_0 := s0, H_0 := H0 }
theorem ok_older {B : Cx} (ok : B.Ok) {s0 : Shared} {H0 : Hp} (hs : s0.heap.objs.size ≤ B.s_0.heap.objs.size) (bs : ∀ b o, B.base.get? b = some o → s0.heap.get? b = some o ∧ H0 b = none) (bsz : B.base.objs.size ≤ s0.heap.objs.size)
    (funs : s0.heap.FunFrames B.base B.outer) (frf : ∀ b ∈ B.fs, H0 b = none) : (older B s0 H0).Ok :=
  ⟨ok.mod, ok.kind, ok.glob, ok.blt, Nat.le_trans hs ok.above, ok.inj, ok.has, fun x c h e => Nat.le_trans hs (ok.cab x c h e), ok.hd, ok.frames, ok.stk, ok.exf, bs, bsz, ok.noex, ok.exfs, funs, frf⟩
theorem inv_older {B : Cx} {pins : List (Addr × Obj)} {σ : St} {H : Hp} {s : Shared} (I : Inv B pins σ H s) {s0 : Shared} {H0 : Hp} (okN : (older B s0 H0).Ok) (os : B.s_0.os = s0.os) (un : Un B.fs B.ex H0 B.H_0 s0.heap B.s_0.heap) : Inv (older B s0 H0) pins σ H s :=
  ⟨okN, I.os.trans os, I.bare, un.trans I.base, I.loc, I.cell, I.free, I.freeC, I.pin, I.hok, I.len⟩
/-- exceptions know nothing of the sleepers -/
def XeG (X : Cx) : Prop := ∀ (G gt : Array GenState) (e : Value) (s' : Shared), Bl G gt s'.gens → X.xe e { s' with gens := gt } → X.xe e s'
section
variable {X : Cx} {pins : List (Addr × Obj)} {σ : St} {H : Hp} {s : Shared}
theorem inv_asleep {G gt : Array GenState} (b : Bl G gt s.gens) (I : Inv X pins σ H { s with gens := gt }) : Inv X pins σ H s := Inv.regen (s := { s with gens := gt }) (G := s.gens) I (b.bare I.bare)
theorem ps_asleep {st : List Stmt} {t : TS} (hx : XeG X) (h : PSs X st t) {D : Ends} (I : Inv X pins σ H s) (ht : t D σ H) : wpAny (model X.prog X.w) X.A (execs st X.env) (fun f s' => SP X pins D f s' ∧ KeptG s.gens s'.gens) X.xe s := by
  refine wpAny_mono (wpAny_asleep (h.run pins { s with gens := blindG s.gens } σ H D (Inv.regen I (blindG_bare I.bare)) ht)) (fun f s' ⟨gt, b, q⟩ => ⟨?_, b.kept⟩) fun e s' ⟨gt, b, q⟩ => hx _ _ _ _ b q
  cases f with
  | next => obtain ⟨σ', H', J, q⟩ := q; exact ⟨σ', H', inv_asleep b J, q⟩
  | brk => obtain ⟨σ', H', J, q⟩ := q; exact ⟨σ', H', inv_asleep b J, q⟩
  | cont => obtain ⟨σ', H', J, q⟩ := q; exact ⟨σ', H', inv_asleep b J, q⟩
  | ret v => obtain ⟨x, σ', H', J, r, q⟩ := q; exact ⟨x, σ', H', inv_asleep b J, r, q⟩
theorem pg_asleep {tg : Expr} {g : TG} (hx : XeG X) (h : PG X tg g) {x : V} {u : Value} {Q : St → Hp → Prop} (I : Inv X pins σ H s) (r : RelV x u) (ht : g x σ H Q) : wpAny (model X.prog X.w) X.A (assign tg X.env u) (fun _ s' => (∃ σ' H', Inv X pins σ' H' s' ∧ Q σ' H') ∧ KeptG s.gens s'.gens) X.xe s :=
  wpAny_mono (wpAny_asleep (h.run pins { s with gens := blindG s.gens } σ H x u Q (Inv.regen I (blindG_bare I.bare)) r ht)) (fun _ s' ⟨gt, b, σ', H', J, q⟩ => ⟨⟨σ', H', inv_asleep b J, q⟩, b.kept⟩) fun e s' ⟨gt, b, q⟩ => hx _ _ _ _ b q
theorem pe_asleep {e : Expr} {te : TE} (hx : XeG X) (h : PE X e te) {Q : VK} (I : Inv X pins σ H s) (ht : te σ H Q) : wpAny (model X.prog X.w) X.A (eval e X.env) (fun v s' => EP X pins σ Q v s' ∧ KeptG s.gens s'.gens) X.xe s :=
  wpAny_mono (wpAny_asleep (h.run pins { s with gens := blindG s.gens } σ H Q (Inv.regen I (blindG_bare I.bare)) ht)) (fun v s' ⟨gt, b, x, H', J, r, q⟩ => ⟨⟨x, H', inv_asleep b J, r, q⟩, b.kept⟩) fun e s' ⟨gt, b, q⟩ => hx _ _ _ _ b q
theorem pts_asleep {ifs : List Expr} {tt : TT} (hx : XeG X) (h : PTs X ifs tt) {Q : Bool → Hp → Prop} (I : Inv X pins σ H s) (ht : tt σ H Q) :
    wpAny (model X.prog X.w) X.A (forIn ifs true fun c r => if r = true then do let ok ← isTrue c X.env (eval c X.env); pure (ForInStep.yield ok) else pure (ForInStep.yield r)) (fun v s' => TP X pins σ Q v s' ∧ KeptG s.gens s'.gens) X.xe s :=
  wpAny_mono (wpAny_asleep (h.run pins { s with gens := blindG s.gens } σ H Q (Inv.regen I (blindG_bare I.bare)) ht)) (fun v s' ⟨gt, b, H', J, q⟩ => ⟨⟨H', inv_asleep b J, q⟩, b.kept⟩) fun e s' ⟨gt, b, q⟩ => hx _ _ _ _ b q
theorem app_asleep {E : Value → Shared → Prop} {D : Addr} {xs : List V} {y : V} {v : Value} (I : Inv X pins σ H s) (hD : H D = some (.lst xs)) (hz : xs.length < sizeLine) (r : RelV y v) :
    wpAny (model X.prog X.w) X.A (call (.builtin "list.append") [.ref D, v]) (fun _ s' => Inv X pins σ (upd H D (.lst (xs ++ [y]))) s' ∧ KeptG s.gens s'.gens) E s :=
  wpAny_mono (wpAny_asleep (E := fun _ _ => False) (app_ok (Q := fun _ s' => Inv X pins σ (upd H D (.lst (xs ++ [y]))) s') (Inv.regen I (blindG_bare I.bare)) hD hz r fun s' J => J)) (fun _ s' ⟨gt, b, J⟩ => ⟨inv_asleep b J, b.kept⟩) fun _ _ ⟨_, _, z⟩ => z.elim
end
end L2.MR

set_option Elab.async false
set_option linter.all false
set_option maxRecDepth 100000
set_option maxHeartbeats 4000000
/-! A comprehension over a generator that counts on what its consumer leaves as it was. -/
namespace L2.MR
open PySem PySem.Spec PyProof.Rows GenW L2.MP L2.MG
/-- the generator belongs to this consumer -/
structure Mine (X : Cx) (A0 : Around) (C : Gx) (J : It) (R : Hp → Hp → Prop) : Prop where
  ok : C.Ok
  A : C.A = A0.in1
  P : X.prog = C.P
  w : X.w = C.w
  K : X.K = C.K
  mg : X.mg = C.mg
  base : X.base = C.base
  stack : X.stack = C.stack
  eqJ : C.J = J
  eqR : C.R = R
  young : Young X C.L
  one : ∀ i H, J.go i H → J.stop i H → False
/-- asleep at the state s -/
structure AtG (X : Cx) (C : Gx) (pins : List (Addr × Obj)) (H : Hp) (s : Shared) (a : Addr) (g i : Nat) (own : List (Addr × Obj)) (gs : GenState) (Rq : Hp → Prop) : Prop where
  slp : Slp C a g i own gs Rq
  own : ∀ p ∈ own, FpOk X pins H p.1 ∧ s.heap.get? p.1 = some p.2
  gen : s.gens[g]? = some gs
section
variable {X : Cx} {pins : List (Addr × Obj)} {σ : St} {H : Hp} {s : Shared}
theorem AtG.is {C : Gx} {a : Addr} {g i : Nat} {own : List (Addr × Obj)} {gs : GenState} {Rq : Hp → Prop} (x : AtG X C pins H s a g i own gs Rq) : ∃ ao, GenObj ao g ∧ s.heap.get? a = some ao := by
  obtain ⟨n, σg, ip, oL, ao, _, e, go, _⟩ := x.slp
  exact ⟨ao, go, (x.own (a, ao) (by rw [e]; exact List.mem_cons_self)).2⟩
/-- the generator's objects among the pins -/
theorem AtG.pin {C : Gx} {a : Addr} {g i : Nat} {own : List (Addr × Obj)} {gs : GenState} {Rq : Hp → Prop} (x : AtG X C pins H s a g i own gs Rq) (I : Inv X pins σ H s) : Inv X (pins ++ own) σ H s :=
  I.pins_of fun p hp => by
    rcases List.mem_append.mp hp with z | z
    · exact I.pin p (List.mem_append_right _ z)
    · obtain ⟨⟨f0, f1, f2, _⟩, e⟩ := x.own p z
      exact ⟨e, f0, f1, f2, (x.slp.nc p z).2⟩
theorem AtG.stay {C : Gx} {a : Addr} {g i : Nat} {own : List (Addr × Obj)} {gs : GenState} {Rq : Hp → Prop} {σ' : St} {H' : Hp} {s' : Shared} (x : AtG X C pins H s a g i own gs Rq) (hs : IsSus gs) (I : Inv X (pins ++ own) σ' H' s') (k : KeptG s.gens s'.gens) : AtG X C pins H' s' a g i own gs Rq :=
  ⟨x.slp, fun p hp => let ⟨e, n, _⟩ := I.pin p (List.mem_append_right _ (List.mem_append_right _ hp)); ⟨fp_H (x.own p hp).1 n, e⟩, k _ _ hs x.gen⟩
end
/-- what a generator gives, and what it counts on -/
abbrev TIR := St → Hp → (It → (Hp → Hp → Prop) → Hp → Prop) → Prop
/-- an expression that makes a generator, the state ahead of it told -/
structure PIG2 (X : Cx) (A0 : Around) (e : Expr) (t : TIR) : Prop where
  run : ∀ (pins : List (Addr × Obj)) (s : Shared) (σ : St) (H : Hp) (R : It → (Hp → Hp → Prop) → Hp → Prop), Inv X pins σ H s → t σ H R →
    wpAny (model X.prog X.w) X.A (eval e X.env) (fun v s1 => ∃ a s0 H1 J RR C g own gs, v = .ref a ∧ Inv X pins σ H1 s0 ∧ s1.os = s0.os ∧ (∀ b o, s0.heap.get? b = some o → s1.heap.get? b = some o) ∧ s0.heap.objs.size ≤ C.L ∧ (∀ p ∈ own, s0.heap.objs.size ≤ p.1) ∧
      Inv X pins σ H1 s1 ∧ Mine X A0 C J RR ∧ AtG X C pins H1 s1 a g 0 own gs (fun _ => True) ∧ R J RR H1) X.xe s
section
variable {X : Cx} {k : Nat} {f : Addr} {fd : FuncData} {ps : List Str} {sp : List V → It → Nat → (Hp → Hp → Prop) → Prop} {dvs : List V} {ds : List Value}
def GotG2 (X : Cx) (pins : List (Addr × Obj)) (σ : St) (R : It → (Hp → Hp → Prop) → Hp → Prop) (v : Value) (s1 : Shared) : Prop :=
  ∃ a s0 H1 J RR C g own gs, v = .ref a ∧ Inv X pins σ H1 s0 ∧ s1.os = s0.os ∧ (∀ b o, s0.heap.get? b = some o → s1.heap.get? b = some o) ∧ s0.heap.objs.size ≤ C.L ∧ (∀ p ∈ own, s0.heap.objs.size ≤ p.1) ∧ Inv X pins σ H1 s1 ∧ Mine X X.A C J RR ∧ AtG X C pins H1 s1 a g 0 own gs (fun _ => True) ∧ R J RR H1
theorem run_g2 {pins : List (Addr × Obj)} {σ : St} {H : Hp} {s : Shared} {us : List Value} {vs : List V} {J : It} {M : Nat} {RR : Hp → Hp → Prop} {R : It → (Hp → Hp → Prop) → Hp → Prop} (F : GFnW X.prog X.w X.K X.mg X.base k f fd ps sp) (hr : Room k X.A) (hb : Binds X.K fd ps ds) (hd : Vals dvs ds) (I : Inv X pins σ H s) (r : Vals vs us)
    (hsp : sp (vs ++ dvs) J M RR) (q : R J RR H) : wpAny (model X.prog X.w) X.A (call (.ref f) us) (GotG2 X pins σ R) X.xe s := by
  have r2 : Vals (vs ++ dvs) (us ++ ds) := r.append hd
  have hl : (us ++ ds).length = ps.length := by rw [← r2.length]; exact F.len _ _ _ _ hsp
  refine wpAny_call (codeAny_mono (F.run X.A X.stack s H ⟨us, []⟩ (us ++ ds) (vs ++ dvs) J M RR hr I.env0 (hb s us I.kIn hl) r2 hsp) fun r s' hq => ?_)
  obtain ⟨a, rfl, md⟩ := hq
  obtain ⟨g, env, N, oL, ao, gs, h1, h2, h3, h4, h5, h6⟩ := md.ex
  obtain ⟨ok, sl⟩ := h6 X.A hr I.ok.frames
  have I1 : Inv X pins σ H s' := I.call' (ch := []) md.os (Un.kept md.keep) (I.hok.kept md.keep) md.bare fun b z => by cases z
  refine ⟨a, s, H, J, RR, _, g, _, gs, rfl, I, md.os, md.keep, h1, fun p hp => ?_, I1, ⟨ok, rfl, rfl, rfl, rfl, rfl, rfl, rfl, rfl, rfl, ⟨Nat.le_trans I.sz h1, Inv.frsAt I h1, fun x c e => ?_⟩, F.one _ _ _ _ hsp⟩, ⟨sl, fun p hp => ?_, h5⟩, q⟩
  · rcases List.mem_cons.mp hp with rfl | hp
    · exact Nat.le_trans h1 (Nat.le_of_lt h2)
    · rcases List.mem_cons.mp hp with rfl | hp
      · exact h1
      · cases hp
  · obtain ⟨v, hc⟩ := I.cell x c e
    exact Nat.lt_of_lt_of_le hc.lt h1
  · have fp : ∀ b, s.heap.objs.size ≤ b → FpOk X pins H b := fun b hb => I.fpOk hb (I.hok.fresh hb)
    rcases List.mem_cons.mp hp with rfl | hp
    · exact ⟨fp _ (Nat.le_trans h1 (Nat.le_of_lt h2)), h3⟩
    · rcases List.mem_cons.mp hp with rfl | hp
      · exact ⟨fp _ h1, h4⟩
      · cases hp
/-- o.m(..), m a generator def of the class at C -/
def iGmR (C : Addr) (m : Str) (sp : List V → It → Nat → (Hp → Hp → Prop) → Prop) (dvs : List V) (to : TE) (ta : TA) : TIR := fun σ H R => to σ H fun x H1 => ∃ a dx fs, x = .ref a ∧ H1 a = some (.ins C dx fs) ∧ fs.lookup m = none ∧ ta σ H1 fun vs H2 => ∃ J M RR, sp (x :: (vs ++ dvs)) J M RR ∧ R J RR H2
theorem pig2_meth {o e : Expr} {es : List Expr} {m : Str} {C : Addr} {apos pos : Pos} {to : TE} {ta : TA} {pl : Sem Bool} (ho : PE X o to) (c : Cls X.K C) (hm : Meth X.K C m f) (F : GFnW X.prog X.w X.K X.mg X.base k f fd ps sp) (hr : Room k X.A) (hb : Binds X.K fd ps ds) (hd : Vals dvs ds) (ha : PA X (e :: es) ta)
    (hst : starEach (e :: es) X.env = (false, eval e X.env) :: starEach es X.env := by rfl) (hpl : (backTo pos (starEach es X.env)).any (·.1) = false := by rfl)
    (ht : eval (.Call (.Attribute o m apos) (e :: es) [] pos) X.env = (eval o X.env >>= fun ov => standAt apos.atName >>= fun _ => holding [ov] (getMethod ov m pl) >>= fun z =>
      callWith pos z.1 z.2 (backTo pos (starEach (e :: es) X.env)) (backToKw pos (keywordEach [] X.env))) := by rfl) : PIG2 X X.A (.Call (.Attribute o m apos) (e :: es) [] pos) (iGmR C m sp dvs to ta) := by
  refine ⟨fun pins s σ H R I h => PySem.W.methodCall_KW (pl := pl) (thn (ho.run pins s σ H _ I h) ?_) ht⟩
  rintro u s1 ⟨x, H1, I1, rx, a, dx, fs, rfl, ea, l, q⟩
  obtain rfl : u = Value.ref a := rx
  exact getmeth_ok I1 ea c hm l (PySem.W.callWith_K (first := [.ref a]) (h₀ := X.base) I.ok.mod.kin hm.kp
    (thn (ha.run pos pins s1 σ H1 _ I1 q) fun us s2 ⟨vs, H2, I2, r, J, M, RR, hsp, q2⟩ => ⟨I2.kIn, run_g2 (us := .ref a :: us) (vs := .ref a :: vs) F hr hb hd I2 (.cons rfl r) hsp q2⟩) hst hpl)
end
section
variable {X : Cx} {pins : List (Addr × Obj)} {σ : St} {H : Hp} {s : Shared}
/-- [elt for target in generator if ..]: behind each turn the heap must stand to the item's heap as the generator counts on it -/
def tLcR (wi : TIR) (g : TG) (tt : TT) (te : TE) (vs : List Nat) : TE := fun σ H Q => wi σ H fun J R H1 => ∀ D, H1 D = none → ∃ W : Nat → Nat → Hp → Prop, (∃ m, W 0 m (upd H1 D (.lst []))) ∧ ∀ i m H, W i m H →
  (J.stop i H ∧ Q (.ref D) H) ∨ (J.go i H ∧ ∃ Nx : Hp → Prop, (∀ H', Nx H' → ∃ m', m' < m ∧ W (i + 1) m' H') ∧ ∀ x H', J.yld i H x H' → g x (wipe σ vs) H' fun σ2 H2 => wipe σ2 vs = wipe σ vs ∧ tt σ2 H2 fun b H3 =>
    if b = true then te σ2 H3 fun y H4 => ∃ acc, H4 D = some (.lst acc) ∧ acc.length < sizeLine ∧ R H' (upd H4 D (.lst (acc ++ [y]))) ∧ Nx (upd H4 D (.lst (acc ++ [y]))) else R H' H3 ∧ Nx H3)
theorem lcR_core {pins : List (Addr × Obj)} {s : Shared} {σ : St} {H : Hp} {Q : VK} {use : Option (Value → Sem Unit)} {Qf : Value → Shared → Prop} {pos' : Pos} {elt tg iter : Expr} {ifs : List Expr} {scope : Scope} {own : List (Str × Nat)} {pos : Pos} {wi : TIR} {g : TG} {tt : TT} {te : TE} (I : Inv X pins σ H s) (hroom : X.A.depth < recursionLimit) (hN : X.N.Nodup) (hi : PIG2 X X.A iter wi) (ok : BlkOk X.N X.env.scope scope own) (hnc : ∀ y ∈ scope.names, y.2 ≠ .cell)
    (hg : ∀ (s : Shared) (H : Hp) (C : Addr) (cl : List (Str × Addr)) (fp : List Addr), PG (X.blk s H scope (compEnvC scope cl C X.env) fp) tg g) (ht : ∀ (s : Shared) (H : Hp) (C : Addr) (cl : List (Str × Addr)) (fp : List Addr), PTs (X.blk s H scope (compEnvC scope cl C X.env) fp) ifs tt)
    (he : ∀ (s : Shared) (H : Hp) (C : Addr) (cl : List (Str × Addr)) (fp : List Addr), PE (X.blk s H scope (compEnvC scope cl C X.env) fp) elt te) (hs : ∀ x, foldedSetIterable iter X.env x = pure x) (h : tLcR wi g tt te (own.map (·.2)) σ H Q)
    (hRR : ∀ D C s' m H', Inv X pins σ H' s' → Q (.ref D) H' → s'.heap.Ns C m → FpOk X pins H' C → compPost (model X.prog X.w) X.A X.xe use Qf (.ref D) C (.ok .next) s') :
    wpAny (model X.prog X.w) X.A (comprehension (.ListComp elt [⟨tg, iter, ifs, 0⟩] scope pos) scope X.env pos' (newList []) false (eval iter X.env) use) Qf X.xe s := by
  have hfree : ∀ y ∈ scope.names, y.2 = .free → ∃ c, X.env.cells.lookup y.1 = some c := fun y hy e => by
    rcases ok.free y hy e with k | k
    · exact I.ok.has _ (.inl k)
    · exact I.ok.has _ (.inr k)
  refine wpAny_comprehension_free (use := use) rfl hs (closure_ok hfree) ok.kind (fun y hy e => by rw [ok.uniq y hy, e]) (thn (hi.run pins s σ H _ I h) fun xv s1 hx => ?_)
  obtain ⟨a, s0, H1, J, RR, C, gi, own0, gs0, rfl, I0, os1, kp1, hCL, hown0, I1, mi, at0, q⟩ := hx
  obtain ⟨ao, gob, eao⟩ := at0.is
  refine wpAny_pyIter_gen (gob.is eao) ?_
  refine wpAny_newObj_type (newEnv_comp ?_) (by show 0 ≤ sizeLine; decide)
  generalize hD : s1.heap.objs.size = D
  have hDn : H1 D = none := I1.hok.fresh (Nat.le_of_eq hD)
  obtain ⟨W, ⟨m0, w0⟩, turn⟩ := q D hDn
  generalize hs3 : ({ s1 with heap := s1.heap.push { cls := .type "list", data := .seq ([] : List Value).toArray } } : Shared) = s3
  have I3 : Inv X pins σ (upd H1 D (.lst [])) s3 := by
    rw [← hs3]
    refine I1.laid (t' := s1.toks) (fun b o e => Heap.get?_push_of_some _ e) (Nat.le_of_eq hD) ⟨Nat.zero_le _, [], 0, .nil, ?_⟩
    rw [← hD]
    exact Heap.get?_push_size _ rfl
  have h3 : s3.heap = s1.heap.push { cls := .type "list", data := .seq ([] : List Value).toArray } := by rw [← hs3]
  have k3 : ∀ b o, s1.heap.get? b = some o → s3.heap.get? b = some o := fun b o e => by rw [h3]; exact Heap.get?_push_of_some _ e
  have f3 : ∀ b ∈ own0.map (·.1), FpOk X pins (upd H1 D (.lst [])) b ∧ b < s3.heap.objs.size := fun b hb => by
    obtain ⟨p, hp, rfl⟩ := List.mem_map.mp hb
    obtain ⟨f, e⟩ := at0.own p hp
    have hlt := Heap.lt_size e
    refine ⟨⟨?_, f.2⟩, by rw [h3, Heap.size_push]; exact Nat.lt_succ_of_lt hlt⟩
    rw [upd_ne (by rw [← hD]; exact Nat.ne_of_lt hlt)]
    exact f.1
  have I4f := block_start I3 ok hN f3
  have I4 := block_start (fp := []) I3 ok hN (fun b hb => nomatch hb)
  have pg := hg s0 H1 s3.heap.objs.size (cellsFrom (s3.heap.objs.size + 1) scope.names (cloFrom X.env.cells scope.names [])) []
  have pt := ht s0 H1 s3.heap.objs.size (cellsFrom (s3.heap.objs.size + 1) scope.names (cloFrom X.env.cells scope.names [])) []
  have pe := he s0 H1 s3.heap.objs.size (cellsFrom (s3.heap.objs.size + 1) scope.names (cloFrom X.env.cells scope.names [])) []
  have hcel : ∀ x c, (compEnvC scope (cellsFrom (s3.heap.objs.size + 1) scope.names (cloFrom X.env.cells scope.names [])) s3.heap.objs.size X.env).cells.lookup x = some c → c < C.L := fun x c e => by
    have e : (cellsFrom (s3.heap.objs.size + 1) scope.names (cloFrom X.env.cells scope.names [])).lookup x = some c := e
    rw [← Heap.size_push s3.heap { cls := .type "dict", data := .dict #[] }] at e
    rcases cells_mem (PySem.mem_of_lookup e) with hm | ⟨h2, _, _⟩
    · rcases cloFrom_mem hm with hm | ⟨h1, rfl⟩
      · cases hm
      · obtain ⟨c, hc⟩ := hfree _ h1 rfl
        have hc' : X.env.cells.lookup x = some c := hc
        rw [hc']
        exact mi.young.cel x c hc'
    · exact absurd rfl (hnc _ h2)
  show codeAny _ _ (.compStart (.ListComp elt [⟨tg, iter, ifs, 0⟩] scope pos) 0 (.ref a) (.ref D) (compEnvC scope (cellsFrom (s3.heap.objs.size + 1) scope.names (cloFrom X.env.cells scope.names [])) s3.heap.objs.size X.env)) _ { s3 with heap := pushCells (s3.heap.push { cls := .type "dict", data := .dict #[] }) scope.names }
  generalize hce : compEnvC scope (cellsFrom (s3.heap.objs.size + 1) scope.names (cloFrom X.env.cells scope.names [])) s3.heap.objs.size X.env = ce at I4 I4f pg pt pe hcel ⊢
  have cL : ce.locals = s3.heap.objs.size := by subst hce; rfl
  have sz01 : s0.heap.objs.size ≤ s3.heap.objs.size := by
    rw [h3, Heap.size_push]
    obtain ⟨_, _, _, _, ao', _, eo, _⟩ := at0.slp
    exact Nat.le_succ_of_le (Nat.le_trans (hown0 (a, ao') (by rw [eo]; exact List.mem_cons_self)) (Nat.le_of_lt (Heap.lt_size eao)))
  have un3 : Un (frs X.stack) [] H1 (upd H1 D (.lst [])) s0.heap s3.heap := (Un.kept kp1).trans (Un.laid k3 (Nat.le_of_eq hD) hDn)
  generalize hH3 : upd H1 D (.lst []) = H3 at I3 I4 I4f f3 w0 un3
  generalize hs4 : ({ s3 with heap := pushCells (s3.heap.push { cls := .type "dict", data := .dict #[] }) scope.names } : Shared) = s4 at I4 I4f ⊢
  have k4 : ∀ b o, s1.heap.get? b = some o → s4.heap.get? b = some o := fun b o e => by rw [← hs4]; exact pushCells_keeps _ _ _ _ (Heap.get?_push_of_some _ (k3 b o e))
  have okB := ok_older (s0 := s0) (H0 := H1) I4.ok sz01 I0.bs (Nat.le_trans I0.ok.bsz I0.sz) I0.stack I0.stkFree
  have I5 : Inv (X.blk s0 H1 scope ce []) [] (wipe σ (own.map (·.2))) H3 s4 := inv_older I4 okB (by rw [← hs3]; exact os1) un3
  have hx : XeG (X.blk s0 H1 scope ce []) := fun _ _ _ _ _ z => z
  have mb : Mine (X.blk s0 H1 scope ce []) X.A C J RR := ⟨mi.ok, mi.A, mi.P, mi.w, mi.K, mi.mg, mi.base, mi.stack, mi.eqJ, mi.eqR, ⟨hCL, mi.young.frs, hcel⟩, mi.one⟩
  have at4 : AtG (X.blk s0 H1 scope ce []) C [] H3 s4 a gi 0 own0 gs0 (fun _ => True) := ⟨at0.slp, fun p hp => by
    have hm : p.1 ∈ own0.map (·.1) := List.mem_map_of_mem hp
    exact ⟨⟨(f3 p.1 hm).1.1, (I4f.ok.exf p.1 hm).1, I4f.ok.exfs p.1 hm, .inr (hown0 p hp), fun x c e => (I4f.ok.exf p.1 hm).2 x c e, fun p hp => absurd (show p ∈ ([] : List (Addr × Obj)) ++ [] from hp) (by simp)⟩, k4 _ _ (at0.own p hp).2⟩, by rw [← hs4, ← hs3]; exact at0.gen⟩
  have loop : codeAny (model X.prog X.w) X.A (.compLoop (.ListComp elt [⟨tg, iter, ifs, 0⟩] scope pos) 0 (.ref a) (.ref D) ce) (compPost (model X.prog X.w) X.A X.xe use Qf (.ref D) s3.heap.objs.size) s4 := by
    refine compLoop_any (fun n s' => ∃ i H' own' gs' Rq, Inv (X.blk s0 H1 scope ce []) [] (wipe σ (own.map (·.2))) H' s' ∧ AtG (X.blk s0 H1 scope ce []) C [] H' s' a gi i own' gs' Rq ∧ Rq H' ∧ W i n H') ?_ m0 ⟨0, H3, own0, gs0, _, I5, at4, trivial, w0⟩
    rintro n s5 ⟨i, H5, own5, gs5, Rq5, I5, at5, rq5, w5⟩
    have goes : C.J.go i H5 ∨ C.J.stop i H5 := by
      rw [mi.eqJ]
      rcases turn i n H5 w5 with ⟨stop, _⟩ | ⟨go, _⟩
      · exact .inr stop
      · exact .inl go
    have wk := wake mb.ok mb.A hroom at5.slp rq5 mb.P mb.w mb.K mb.mg mb.base mb.stack I5 mb.young at5.own at5.gen goes (fun _ _ => False)
    rw [← mi.P, ← mi.w] at wk
    refine thnF wk fun r s6 hr => ?_
    rcases hr with ⟨rfl, hst, I6⟩ | ⟨uv, x, H6, own6, gs6, rfl, hgo, rv, hy, I6, sl6, ho6, hg6, sus⟩
    · rcases turn i n H5 w5 with ⟨_, qq⟩ | ⟨go, _⟩
      · have I7 : Inv X pins σ H5 s6 := I0.call' (ch := []) I6.os I6.base I6.hok I6.bare fun b z => by cases z
        have nC : H5 s3.heap.objs.size = none := by
          have z : H5 ce.locals = none := I6.free
          rw [cL] at z
          exact z
        obtain ⟨m, hn, _⟩ := I6.loc
        have hn : s6.heap.Ns ce.locals m := hn
        rw [cL] at hn
        exact hRR D _ s6 m H5 I7 qq hn (I3.fpOk (Nat.le_refl _) nC)
      · exact (mi.one i H5 go (mi.eqJ ▸ hst)).elim
    · rcases turn i n H5 w5 with ⟨stop, _⟩ | ⟨go, Nx, hNx, step⟩
      · exact (mi.one i H5 (mi.eqJ ▸ hgo) stop).elim
      have at6 : AtG (X.blk s0 H1 scope ce []) C [] H6 s6 a gi (i + 1) own6 gs6 (C.R H6) := ⟨sl6, ho6, hg6⟩
      obtain ⟨ao', gob', eao'⟩ := at6.is
      obtain ⟨nm, qn, c1, c2, _⟩ := gob'
      refine go_of eao' c1 c2 (by decide) ?_
      refine thnF (pg_asleep hx pg (at6.pin I6) rv (step x H6 (mi.eqJ ▸ hy))) fun _ s8 ⟨⟨σ8, H8, I8, hw8, q8⟩, k8⟩ => ?_
      have at8 := at6.stay sus I8 k8
      refine thnF (pts_asleep hx pt I8 q8) fun b s9 ⟨⟨H9, I9, q9⟩, k9⟩ => ?_
      have at9 := at8.stay sus I9 k9
      have fin : ∀ {s' : Shared} {H' : Hp}, Inv (X.blk s0 H1 scope ce []) ([] ++ own6) σ8 H' s' → AtG (X.blk s0 H1 scope ce []) C [] H' s' a gi (i + 1) own6 gs6 (C.R H6) → RR H6 H' ∧ Nx H' → ∃ m, m < n ∧ ∃ i H' own' gs' Rq, Inv (X.blk s0 H1 scope ce []) [] (wipe σ (own.map (·.2))) H' s' ∧ AtG (X.blk s0 H1 scope ce []) C [] H' s' a gi i own' gs' Rq ∧ Rq H' ∧ W i m H' := fun {s' H'} I' at' ⟨rr, nx⟩ => by
        obtain ⟨m', hm, w'⟩ := hNx H' nx
        have hl : (wipe σ (own.map (·.2))).length = σ8.length := by rw [← hw8, wipe_length]
        refine ⟨m', hm, i + 1, H', own6, gs6, _, (I'.unpinned (pins := [])).weak hl (fun j v e => ?_), at', by rw [mi.eqR]; exact rr, w'⟩
        rw [← hw8] at e
        exact (wipe_some e).1
      cases b with
      | false =>
        simp only [Bool.false_eq_true, if_false] at q9 ⊢
        exact fin I9 at9 q9
      | true =>
        simp only [if_true] at q9 ⊢
        refine thnF (pe_asleep hx pe I9 q9) fun z s10 ⟨⟨yv, H10, I10, r10, acc, hD10, hz10, nx⟩, k10⟩ => ?_
        have at10 := at9.stay sus I10 k10
        refine thnF (app_asleep (X := X.blk s0 H1 scope ce []) (E := fun _ _ => False) I10 hD10 hz10 r10) fun _ s11 ⟨I11, k11⟩ => ?_
        exact fin I11 (at10.stay sus I11 k11) nx
  obtain ⟨ao4, gob4, eao4⟩ := at4.is
  exact codeAny_compStart_list loop (wpAny_pyIter_gen (gob4.is eao4) loop)
theorem pe_lcR {elt tg iter : Expr} {ifs : List Expr} {scope : Scope} {own : List (Str × Nat)} {pos : Pos} {wi : TIR} {g : TG} {tt : TT} {te : TE} (hroom : X.A.depth < recursionLimit) (hN : X.N.Nodup) (hi : PIG2 X X.A iter wi) (ok : BlkOk X.N X.env.scope scope own) (hnc : ∀ y ∈ scope.names, y.2 ≠ .cell)
    (hg : ∀ (s : Shared) (H : Hp) (C : Addr) (cl : List (Str × Addr)) (fp : List Addr), PG (X.blk s H scope (compEnvC scope cl C X.env) fp) tg g) (ht : ∀ (s : Shared) (H : Hp) (C : Addr) (cl : List (Str × Addr)) (fp : List Addr), PTs (X.blk s H scope (compEnvC scope cl C X.env) fp) ifs tt)
    (he : ∀ (s : Shared) (H : Hp) (C : Addr) (cl : List (Str × Addr)) (fp : List Addr), PE (X.blk s H scope (compEnvC scope cl C X.env) fp) elt te) (hs : ∀ x, foldedSetIterable iter X.env x = pure x := by intro _; rfl) :
    PE X (.ListComp elt [⟨tg, iter, ifs, 0⟩] scope pos) (tLcR wi g tt te (own.map (·.2))) := by
  refine ⟨fun pins s σ H Q I h => ?_⟩
  rw [eval_ListComp]
  refine lcR_core I hroom hN hi ok hnc hg ht he hs h fun D C s' m H' I' q hn f => ⟨m, hn, fun h'' sb => ?_⟩
  obtain ⟨f0, f1, f2, f3, f4, f5⟩ := f
  exact ⟨.ref D, H', I'.turned (t' := s'.toks) (fun b o hb e => (sb.2 b hb).trans e) f0 f1 f3 f4 f5, rfl, q⟩
theorem ps_setLcR {i : Nat} {y : Str} {py : Pos} {elt tg iter : Expr} {ifs : List Expr} {scope : Scope} {own : List (Str × Nat)} {pos spos : Pos} {wi : TIR} {g : TG} {tt : TT} {te : TE} (hroom : X.A.depth < recursionLimit) (hN : X.N.Nodup) (hy : X.N[i]? = some y) (hyl : X.env.scope.names.lookup y = some .local)
    (hsw : swapsWith (.ListComp elt [⟨tg, iter, ifs, 0⟩] scope pos) (some (.Name y py)) spos.line X.env = pure true) (hi : PIG2 X X.A iter wi) (ok : BlkOk X.N X.env.scope scope own) (hnc : ∀ y ∈ scope.names, y.2 ≠ .cell)
    (hg : ∀ (s : Shared) (H : Hp) (C : Addr) (cl : List (Str × Addr)) (fp : List Addr), PG (X.blk s H scope (compEnvC scope cl C X.env) fp) tg g) (ht : ∀ (s : Shared) (H : Hp) (C : Addr) (cl : List (Str × Addr)) (fp : List Addr), PTs (X.blk s H scope (compEnvC scope cl C X.env) fp) ifs tt)
    (he : ∀ (s : Shared) (H : Hp) (C : Addr) (cl : List (Str × Addr)) (fp : List Addr), PE (X.blk s H scope (compEnvC scope cl C X.env) fp) elt te) (hs : ∀ x, foldedSetIterable iter X.env x = pure x := by intro _; rfl) :
    PS X (.Assign [.Name y py] (.ListComp elt [⟨tg, iter, ifs, 0⟩] scope pos) spos) (tAsg (tLcR wi g tt te (own.map (·.2))) (gName i)) := by
  refine ⟨fun pins s σ H D I h => ?_⟩
  rw [exec_Assign_Name_used _ _ _ _ hsw]
  refine wpAny_bind (wpAny_standAt (wpAny_bind ?_))
  show wpAny _ X.A (do let _ ← comprehension (.ListComp elt [⟨tg, iter, ifs, 0⟩] scope pos) scope X.env (firstIterPos [⟨tg, iter, ifs, 0⟩] pos) (newList []) false (eval iter X.env) (some (assign (.Name y py) X.env))) _ _ s
  have h : tLcR wi g tt te (own.map (·.2)) σ H (fun x H1 => gName i x σ H1 D.nx) := h
  refine wpAny_bind (thn (lcR_core (Qf := fun _ s' => SP X pins D .next s') I hroom hN hi ok hnc hg ht he hs h fun L C s' m H' I' q hn f => ?_) fun _ s' hq => wpAny_pure (wpAny_pure hq))
  show wpAny _ _ (assign (.Name y py) X.env (.ref L)) _ _ _
  refine wpAny_assign_Name (store_ok2 (v := V.ref L) I' hN hy (.inl hyl) rfl (fun s2 I2 ⟨a, sb, ha⟩ => ?_) (.inr hyl))
  obtain ⟨f0, f1, f2, f3, f4, f5⟩ := f
  have haC : C ≠ a := by
    rcases ha with z | z
    · rw [z]; exact f1
    · exact fun e => f4 y a z e.symm
  refine ⟨m, hn.sameBut sb haC, fun h3 sb3 => ?_⟩
  exact ⟨_, H', I2.turned (t' := s2.toks) (fun b o hb e => (sb3.2 b hb).trans e) f0 f1 f3 f4 f5, q⟩
end
end L2.MR

set_option Elab.async false
set_option linter.all false
set_option maxRecDepth 100000
set_option maxHeartbeats 4000000
/-! A generator method without arguments. -/
namespace L2.MR
open PySem PySem.Spec PyProof.Rows GenW L2.MP L2.MG
section
variable {X : Cx} {k : Nat} {f : Addr} {fd : FuncData} {ps : List Str} {sp : List V → It → Nat → (Hp → Hp → Prop) → Prop} {dvs : List V} {ds : List Value}
theorem pig2_meth0 {o : Expr} {m : Str} {C : Addr} {apos pos : Pos} {to : TE} {pl : Sem Bool} (ho : PE X o to) (c : Cls X.K C) (hm : Meth X.K C m f) (F : GFnW X.prog X.w X.K X.mg X.base k f fd ps sp) (hr : Room k X.A) (hb : Binds X.K fd ps ds) (hd : Vals dvs ds)
    (ht : eval (.Call (.Attribute o m apos) [] [] pos) X.env = (eval o X.env >>= fun ov => standAt apos.atName >>= fun _ => holding [ov] (getMethod ov m pl) >>= fun z =>
      callWith pos z.1 z.2 (backTo pos (starEach [] X.env)) (backToKw pos (keywordEach [] X.env))) := by rfl) : PIG2 X X.A (.Call (.Attribute o m apos) [] [] pos) (iGmR C m sp dvs to tNil) := by
  refine ⟨fun pins s σ H R I h => PySem.W.methodCall_KW (pl := pl) (thn (ho.run pins s σ H _ I h) ?_) ht⟩
  rintro u s1 ⟨x, H1, I1, rx, a, dx, fs, rfl, ea, l, J, M, RR, hsp, q⟩
  obtain rfl : u = Value.ref a := rx
  exact getmeth_ok I1 ea c hm l (PySem.W.callWith_K0 (first := [.ref a]) I1.kIn hm.kp (run_g2 (us := [.ref a]) (vs := [.ref a]) F hr hb hd I1 (.cons rfl .nil) hsp q))
end
end L2.MR

set_option Elab.async false
set_option linter.all false
set_option maxRecDepth 100000
set_option maxHeartbeats 4000000
/-! A generator def's promise: by its facts, for more room, for nothing. -/
namespace L2.MR
open PySem PySem.Spec PyProof.Rows GenW L2.MP L2.MG
section
variable {P : Program} {w : World} {K : PySem.W.Frag} {mg : Str → Option Value} {base : Heap} {f : Addr} {fd : FuncData} {ps : List Str}
theorem GFnW.none {k : Nat} : GFnW P w K mg base k f fd ps (fun _ _ _ _ => False) := ⟨fun _ _ _ _ h => h.elim, fun _ _ _ _ h => h.elim, fun _ _ _ _ _ _ _ _ _ _ _ _ _ _ h => h.elim⟩
theorem GFnW.mono {k k' : Nat} {sp : List V → It → Nat → (Hp → Hp → Prop) → Prop} (hk : k ≤ k') (F : GFnW P w K mg base k f fd ps sp) : GFnW P w K mg base k' f fd ps sp :=
  ⟨F.len, F.one, fun A outer s H args us vs J M R hr e0 hb r hsp => codeAny_mono (F.run A outer s H args us vs J M R (hr.mono hk) e0 hb r hsp) fun _ _ ⟨a, e, md⟩ => ⟨a, e, md.os, md.bare, md.keep, by
    obtain ⟨g, env, N, oL, ao, gs, h1, h2, h3, h4, h5, h6⟩ := md.ex
    exact ⟨g, env, N, oL, ao, gs, h1, h2, h3, h4, h5, fun A0 hA0 hf => h6 A0 (hA0.mono hk) hf⟩⟩⟩
end
theorem lookup_ne {l : List (Str × NameKind)} {k : NameKind} (h : (l.all fun p => p.2 != k) = true) (x : Str) : l.lookup x ≠ some k := fun e => by
  have := List.all_eq_true.mp h _ (PySem.mem_of_lookup e)
  simp at this
theorem gfnwF {P : Program} {w : World} {K : PySem.W.Frag} {mg : Str → Option Value} {base : Heap} {x qual : Str} {params : Arguments} {body : List Stmt} {scope : Scope} {dvs : List V} {kws : List (Str × V)} {f : Addr} {fd : FuncData} {N ps : List Str} {k : Nat} {sp : List V → It → Nat → (Hp → Hp → Prop) → Prop}
    (F : FunD K x qual params body scope dvs kws f fd) (S : GScope N ps scope) (hpl : ∀ y, scope.names.lookup y ≠ some .cell ∧ scope.names.lookup y ≠ some .free) (hcl : ∀ n, cellsFrom n scope.names [] = []) (len : ∀ vs J M R, sp vs J M R → vs.length = ps.length)
    (hJ : ∀ vs J M R, sp vs J M R → ∀ i H y H', J.yld i H y H' → Ex H H') (hone : ∀ vs J M R, sp vs J M R → ∀ i H, J.go i H → J.stop i H → False)
    (hbody : ∀ (cdv : Value) (C : Gx) (L : Addr) (vs : List V), C.Ok → C.P = P → C.w = w → C.K = K → C.mg = mg → C.base = base → C.N = N → C.env = envOfC qual scope L f cdv → Room k C.Ad → sp vs C.J C.M C.R → ∃ t, GSts C body t ∧ ∀ H, (C.J.go 0 H ∨ C.J.stop 0 H) → t (endD C.J) 0 H (start N vs) H) :
    GFnW P w K mg base (k + 2) f fd ps sp := by
  obtain ⟨oc, od, dV, kV, doc, pm, an, cdv, ct, osl, rfl, lk, hcd, _, _⟩ := F.ex
  exact gfnw_of lk hcd S hpl hcl len hJ hone fun C L vs ok a b c d e f g hr h => hbody cdv C L vs ok a b c d e f g hr h
end L2.MR

set_option Elab.async false
set_option linter.all false
set_option maxRecDepth 100000
set_option maxHeartbeats 4000000
/-! MPMenu: menus of books, the plain law. -/
namespace L2.MP
open PySem L2
/-- the told choices of an entry, weaker ones first -/
def toldE (o : Str → List Str) (e : Str) : List Str := (chs e).filter fun c => decide (c ∈ o e)
/-- the entries that are told, in their order -/
def entsE (l : List Str) : List Str := ENT.filter fun e => decide (e ∈ l)
def mcnt (t : Str → List Str) : List Str → Nat
  | [] => 1
  | e :: r => mcnt t r * (t e).length
/-- the books of a menu; the entries from the last on -/
def mbR (t : Str → List Str) (f : Str → Str) : List Str → List (Str → Str)
  | [] => [f]
  | e :: r => (mbR t f r).flatMap fun g => (t e).map fun c => fset g e c
/-- the book of a number -/
def numR (t : Str → List Str) : List Str → Nat → (Str → Str) → (Str → Str)
  | [], _, f => f
  | e :: r, k, f => numR t r (k / (t e).length) (fset f e ((t e).getD (k % (t e).length) ""))
theorem fset_comm {f : Str → Str} {a b c d : Str} (h : a ≠ b) : fset (fset f a c) b d = fset (fset f b d) a c := by
  funext x
  unfold fset
  by_cases h1 : x = b
  · by_cases h2 : x = a
    · exact absurd (h2.symm.trans h1) h
    · rw [if_pos h1, if_neg h2, if_pos h1]
  · by_cases h2 : x = a
    · rw [if_neg h1, if_pos h2, if_pos h2]
    · rw [if_neg h1, if_neg h2, if_neg h2, if_neg h1]
theorem numR_fset (t : Str → List Str) {e c : Str} : ∀ (r : List Str) (k : Nat) (f : Str → Str), e ∉ r → numR t r k (fset f e c) = fset (numR t r k f) e c
  | [], _, _, _ => rfl
  | a :: r, k, f, h => by
    have ha : a ≠ e := fun z => h (z ▸ List.mem_cons_self)
    show numR t r _ (fset (fset f e c) a _) = _
    rw [fset_comm (Ne.symm ha), numR_fset t r _ _ fun z => h (List.mem_cons_of_mem _ z)]
    rfl
theorem flat_get {α β : Type} (F : α → List β) {n : Nat} (hn : 0 < n) : ∀ (L : List α) (k : Nat), (∀ a ∈ L, (F a).length = n) → (L.flatMap F)[k]? = L[k / n]?.bind fun a => (F a)[k % n]?
  | [], k, _ => by simp
  | a :: L, k, h => by
    have ha := h a List.mem_cons_self
    rw [List.flatMap_cons]
    by_cases hk : k < n
    · rw [List.getElem?_append_left (by omega), Nat.div_eq_of_lt hk, Nat.mod_eq_of_lt hk]
      rfl
    · obtain ⟨j, rfl⟩ : ∃ j, k = j + n := ⟨k - n, by omega⟩
      rw [List.getElem?_append_right (by omega), ha, Nat.add_sub_cancel, flat_get F hn L j fun a z => h a (List.mem_cons_of_mem _ z), Nat.add_div_right _ hn, Nat.add_mod_right]
      rfl
theorem flat_len {α β : Type} (F : α → List β) {n : Nat} : ∀ (L : List α), (∀ a ∈ L, (F a).length = n) → (L.flatMap F).length = L.length * n
  | [], _ => by simp
  | a :: L, h => by
    rw [List.flatMap_cons, List.length_append, h a List.mem_cons_self, flat_len F L fun a z => h a (List.mem_cons_of_mem _ z), List.length_cons, Nat.add_mul]
    omega
theorem mbR_len (t : Str → List Str) (f : Str → Str) : ∀ r, (mbR t f r).length = mcnt t r
  | [] => rfl
  | e :: r => by
    show ((mbR t f r).flatMap _).length = mcnt t r * (t e).length
    rw [flat_len _ _ fun a _ => List.length_map .., mbR_len t f r]
/-- the books by number -/
theorem mbR_get (t : Str → List Str) (f : Str → Str) : ∀ (r : List Str) (k : Nat), r.Nodup → (∀ e ∈ r, 0 < (t e).length) → k < mcnt t r → (mbR t f r)[k]? = some (numR t r k f)
  | [], k, _, _, hk => by
    have : k = 0 := by
      have : k < 1 := hk
      omega
    subst this
    rfl
  | e :: r, k, hd, ht, hk => by
    have hn := ht e List.mem_cons_self
    obtain ⟨h1, h2⟩ := List.nodup_cons.mp hd
    have hk' : k / (t e).length < mcnt t r := Nat.div_lt_of_lt_mul (by rw [Nat.mul_comm]; exact hk)
    have hm : k % (t e).length < (t e).length := Nat.mod_lt _ hn
    show ((mbR t f r).flatMap fun g => (t e).map fun c => fset g e c)[k]? = _
    rw [flat_get _ hn _ _ fun a _ => List.length_map .., mbR_get t f r _ h2 (fun a z => ht a (List.mem_cons_of_mem _ z)) hk']
    show ((t e).map fun c => fset (numR t r (k / (t e).length) f) e c)[k % (t e).length]? = some (numR t r (k / (t e).length) (fset f e ((t e).getD (k % (t e).length) "")))
    rw [numR_fset t r _ _ h1, List.getElem?_map, List.getElem?_eq_getElem hm, List.getD_eq_getElem?_getD, List.getElem?_eq_getElem hm]
    rfl
theorem mem_mbR (t : Str → List Str) (f : Str → Str) : ∀ (r : List Str) (h : Str → Str), r.Nodup → (h ∈ mbR t f r ↔ (∀ e ∈ r, h e ∈ t e) ∧ ∀ e, e ∉ r → h e = f e)
  | [], h, _ => by
    constructor
    · intro z
      have : h = f := List.mem_singleton.mp z
      subst this
      exact ⟨fun _ z => (nomatch z), fun _ _ => rfl⟩
    · intro ⟨_, z⟩
      have : h = f := funext fun x => z x (fun z => nomatch z)
      subst this
      exact List.mem_singleton.mpr rfl
  | e :: r, h, hd => by
    obtain ⟨h1, h2⟩ := List.nodup_cons.mp hd
    show h ∈ (mbR t f r).flatMap _ ↔ _
    rw [List.mem_flatMap]
    constructor
    · rintro ⟨g, hg, hm⟩
      obtain ⟨c, hc, rfl⟩ := List.mem_map.mp hm
      obtain ⟨a, b⟩ := (mem_mbR t f r g h2).mp hg
      refine ⟨fun x hx => ?_, fun x hx => ?_⟩
      · rcases List.mem_cons.mp hx with rfl | hx
        · rw [fset_eq]; exact hc
        · have hne : x ≠ e := fun z => h1 (z ▸ hx)
          rw [fset_ne hne]; exact a x hx
      · have : x ≠ e := fun z => hx (z ▸ List.mem_cons_self)
        rw [fset_ne this]
        exact b x fun z => hx (List.mem_cons_of_mem _ z)
    · rintro ⟨a, b⟩
      refine ⟨fset h e (f e), (mem_mbR t f r _ h2).mpr ⟨fun x hx => ?_, fun x hx => ?_⟩, List.mem_map.mpr ⟨h e, a e List.mem_cons_self, ?_⟩⟩
      · have hne : x ≠ e := fun z => h1 (z ▸ hx)
        rw [fset_ne hne]; exact a x (List.mem_cons_of_mem _ hx)
      · by_cases z : x = e
        · subst z; rw [fset_eq]
        · rw [fset_ne z]
          exact b x fun y => by
            rcases List.mem_cons.mp y with y | y
            · exact z y
            · exact hx y
      · funext x
        by_cases z : x = e
        · subst z; rw [fset_eq]
        · rw [fset_ne z, fset_ne z]
/-- is the book one of the menu's -/
def inMenu (t : Str → List Str) (f : Str → Str) (es : List Str) (g : Str → Str) : Bool := ENT.all fun e => if e ∈ es then decide (g e ∈ t e) else decide (g e = f e)
theorem eqD_bk {f g : Str → Str} : eqD (bk f) (bk g) = ENT.all fun e => decide (f e = g e) := by
  unfold eqD
  rw [bk_len, bk_len, show ((10 : Nat) == 10) = true from rfl, Bool.true_and]
  show (ENT.map fun e => ((Sum.inr e : Key), V.str (f e))).all _ = _
  rw [List.all_map, Bool.eq_iff_iff, List.all_eq_true, List.all_eq_true]
  refine forall_congr' fun e => forall_congr' fun he => ?_
  show (match valV (bk g) (.inr e) with | some y => eqV (.str (f e)) y | none => false) = true ↔ _
  rw [bk_get he]
  show eqV (.str (f e)) (.str (g e)) = true ↔ _
  rw [decide_eq_true_iff]
  show (f e == g e) = true ↔ _
  exact beq_iff_eq
theorem inMenu_any (t : Str → List Str) (f g : Str → Str) {es : List Str} (hd : es.Nodup) (hs : ∀ e ∈ es, e ∈ ENT) : (mbR t f es.reverse).any (fun h => eqD (bk h) (bk g)) = inMenu t f es g := by
  have hr : es.reverse.Nodup := List.pairwise_reverse.mpr (hd.imp Ne.symm)
  rw [Bool.eq_iff_iff, List.any_eq_true]
  unfold inMenu
  rw [List.all_eq_true]
  constructor
  · rintro ⟨h, hm, he⟩ e hE
    rw [eqD_bk, List.all_eq_true] at he
    have e1 := of_decide_eq_true (he e hE)
    obtain ⟨a, b⟩ := (mem_mbR t f _ h hr).mp hm
    by_cases z : e ∈ es
    · rw [if_pos z, ← e1]; exact decide_eq_true (a e (List.mem_reverse.mpr z))
    · rw [if_neg z, ← e1]; exact decide_eq_true (b e fun y => z (List.mem_reverse.mp y))
  · intro q
    refine ⟨fun x => if x ∈ es then g x else f x, (mem_mbR t f _ _ hr).mpr ⟨fun e he => ?_, fun e he => ?_⟩, ?_⟩
    · have he' := List.mem_reverse.mp he
      have := q e (hs e he')
      rw [if_pos he'] at this ⊢
      exact of_decide_eq_true this
    · exact if_neg fun y => he (List.mem_reverse.mpr y)
    · rw [eqD_bk, List.all_eq_true]
      intro e hE
      refine decide_eq_true ?_
      have := q e hE
      by_cases z : e ∈ es
      · rw [if_pos z]
      · rw [if_neg z] at this ⊢
        exact (of_decide_eq_true this).symm
theorem filt_one {A : List Str} {x : Str} (hA : A.Nodup) (hx : x ∈ A) : (A.filter fun y => decide (y = x)).length = 1 := by
  induction A with
  | nil => cases hx
  | cons a A ih =>
    obtain ⟨h1, h2⟩ := List.nodup_cons.mp hA
    rw [List.filter_cons]
    by_cases e : a = x
    · subst e
      rw [if_pos (by simp)]
      have z : A.filter (fun y => decide (y = a)) = [] := List.filter_eq_nil_iff.mpr fun y hy => by
        simp only [decide_eq_true_eq]
        exact fun z => h1 (z ▸ hy)
      rw [z]
      rfl
    · rw [if_neg (by simpa using e)]
      exact ih h2 ((List.mem_cons.mp hx).resolve_left fun z => e z.symm)
theorem filt_len {A : List Str} (hA : A.Nodup) : ∀ {l : List Str}, l.Nodup → (∀ x ∈ l, x ∈ A) → (A.filter fun x => decide (x ∈ l)).length = l.length
  | [], _, _ => by simp
  | x :: l, hd, hs => by
    obtain ⟨h1, h2⟩ := List.nodup_cons.mp hd
    have ih := filt_len hA h2 fun y hy => hs y (List.mem_cons_of_mem _ hy)
    have one := filt_one hA (hs x List.mem_cons_self)
    rw [List.length_cons, ← ih, ← one]
    clear ih one hA hd hs h2
    induction A with
    | nil => rfl
    | cons a A ih =>
      rw [List.filter_cons, List.filter_cons, List.filter_cons]
      by_cases e : a = x
      · subst e
        rw [if_pos (by simp), if_neg (by simpa using h1), if_pos (by simp)]
        simp only [List.length_cons]
        omega
      · by_cases y : a ∈ l
        · rw [if_pos (by simp [y]), if_pos (by simpa using y), if_neg (by simpa using e)]
          simp only [List.length_cons]
          omega
        · rw [if_neg (by simp [y, e]), if_neg (by simpa using y), if_neg (by simpa using e)]
          exact ih
theorem ENT_nd : ENT.Nodup := by decide +kernel
theorem entsE_nd {l : List Str} : (entsE l).Nodup := ENT_nd.filter _
theorem entsE_sub {l : List Str} : ∀ e ∈ entsE l, e ∈ ENT := fun e h => (List.mem_filter.mp h).1
theorem mem_entsE {l : List Str} {e : Str} : e ∈ entsE l ↔ e ∈ ENT ∧ e ∈ l := by
  unfold entsE
  rw [List.mem_filter, decide_eq_true_iff]
/-- a menu's options are right -/
def okOpt (l : List Str) (o : Str → List Str) : Bool := (entsE l).length == l.length && ((entsE l).all fun e => !(toldE o e).isEmpty && (toldE o e).length == (o e).length) && decide (mcnt (toldE o) (entsE l).reverse ≤ 24)
theorem mcnt_le {t : Str → List Str} {n : Nat} (hn : 1 ≤ n) : ∀ {r : List Str} {m : Nat}, (∀ e ∈ r, (t e).length ≤ n) → r.length ≤ m → mcnt t r ≤ n ^ m
  | [], m, _, _ => Nat.one_le_pow _ _ hn
  | e :: r, m, h, hl => by
    obtain ⟨m, rfl⟩ : ∃ j, m = j + 1 := ⟨m - 1, by have : r.length + 1 ≤ m := hl; omega⟩
    have := mcnt_le hn (r := r) (m := m) (fun a z => h a (List.mem_cons_of_mem _ z)) (by have : r.length + 1 ≤ m + 1 := hl; omega)
    show mcnt t r * (t e).length ≤ n ^ (m + 1)
    rw [Nat.pow_succ]
    exact Nat.mul_le_mul this (h e List.mem_cons_self)
theorem mcnt_pos {t : Str → List Str} : ∀ {r : List Str}, (∀ e ∈ r, 0 < (t e).length) → 0 < mcnt t r
  | [], _ => Nat.one_pos
  | e :: r, h => Nat.mul_pos (mcnt_pos fun a z => h a (List.mem_cons_of_mem _ z)) (h e List.mem_cons_self)
theorem mcnt_app {t : Str → List Str} {e : Str} : ∀ (l : List Str), mcnt t (l ++ [e]).reverse = mcnt t l.reverse * (t e).length := fun l => by
  rw [List.reverse_append]
  rfl
end L2.MP

set_option Elab.async false
set_option linter.all false
set_option maxRecDepth 100000
set_option maxHeartbeats 4000000
/-! MPMenR: a dict of lists of texts; comprehensions over a tuple; a generator's loop over a range. -/
namespace L2.MP
open PySem PySem.Spec PyProof.Rows L2
section
variable {K : PySem.W.Frag} {σ : L2.St} {H : Hp} {te : TE} {Q : VK} {a : Addr} {xs : List V}
def RLT (K : PySem.W.Frag) (g : TG) (tt : TT) (te : TE) (vs : List Nat) (σ : L2.St) (Q : VK) (x : V) (H : Hp) : Prop := ∃ a, x = .ref a ∧ (∃ xs, SqT K H a xs) ∧ RLc (Itt K a) g tt te vs σ Q H
theorem k_lcT {tl : TE} {g : TG} {tt : TT} {vs : List Nat} (h : tl σ H (RLT K g tt te vs σ Q)) : tLc (iTup K tl) g tt te vs σ H Q := h
theorem k_lcTI {j : Nat} {g : TG} {tt : TT} {vs : List Nat} (h : SqT K H a xs) (P : Addr → Nat → Hp → Prop) (h0 : ∀ D, H D = none → P D 0 (upd H D (.lst [])))
    (hl : ∀ D m H', H D = none → m ≤ xs.length → P D m H' → SqT K H' a xs)
    (hs : ∀ D m x H', H D = none → xs[m]? = some x → P D m H' → g x (wipe σ vs) H' fun σ2 H2 => wipe σ2 vs = wipe σ vs ∧ tt σ2 H2 fun b H3 =>
      if b = true then te σ2 H3 fun y H4 => ∃ acc, H4 D = some (.lst acc) ∧ acc.length < sizeLine ∧ P D (m + 1) (upd H4 D (.lst (acc ++ [y]))) else P D (m + 1) H3)
    (hd : ∀ D H', H D = none → P D xs.length H' → Q (.ref D) H') : RLT K g tt te vs σ Q (.ref a) H :=
  ⟨a, rfl, ⟨xs, h⟩, fun D hD => lc_tup (P D) (h0 D hD) (fun m H' hm q => hl D m H' hD hm q) (fun m x H' hm q => hs D m x H' hD hm q) fun H' q => hd D H' hD q⟩
end
section
variable {K : PySem.W.Frag} {σ : L2.St} {H : Hp} {Q : VK} {a : Addr} {j : Nat} {tt : TT}
theorem flt_turn {l : List Str} {p : Str → Bool} {D : Addr} {m : Nat} {x : V} {H' : Hp} (hj : j < σ.length) (hl : l.length ≤ 1000) (hD : H D = none) (hm : (l.map V.str)[m]? = some x)
    (ht : ∀ e ∈ l, ∀ H' (Q' : Bool → Hp → Prop), Ex H H' → Q' (p e) H' → tt ((σ.set j none).set j (some (.str e))) H' Q') (hP : Ex H H' ∧ H' D = some (.lst (((l.take m).filter p).map V.str))) :
    gName j x (wipe σ [j]) H' fun σ2 H2 => wipe σ2 [j] = wipe σ [j] ∧ tt σ2 H2 fun b H3 =>
      if b = true then tVar j σ2 H3 fun y H4 => ∃ acc, H4 D = some (.lst acc) ∧ acc.length < sizeLine ∧ (Ex H (upd H4 D (.lst (acc ++ [y]))) ∧ (upd H4 D (.lst (acc ++ [y]))) D = some (.lst (((l.take (m + 1)).filter p).map V.str)))
      else (Ex H H3 ∧ H3 D = some (.lst (((l.take (m + 1)).filter p).map V.str))) := by
  obtain ⟨hx, hd⟩ := hP
  rw [List.getElem?_map] at hm
  obtain ⟨e, he, rfl⟩ := Option.map_eq_some_iff.mp hm
  have htk : (l.take (m + 1)).filter p = (l.take m).filter p ++ if p e = true then [e] else [] := by
    rw [List.take_succ, he, List.filter_append]
    congr 1
    by_cases z : p e <;> simp [z]
  have hw : wipe σ [j] = σ.set j none := rfl
  rw [hw]
  refine ⟨by simp [wipe, List.set_set], ht e (List.mem_of_getElem? he) H' _ hx ?_⟩
  by_cases z : p e = true
  · rw [if_pos z] at htk ⊢
    have hj' : ((σ.set j none).set j (some (V.str e)))[j]? = some (some (V.str e)) := List.getElem?_set_self (by rw [List.length_set]; exact hj)
    refine ⟨_, hj', _, hd, szl_of ?_, hx.new' hD, ?_⟩
    · rw [List.length_map]
      have h1 := List.length_filter_le p (l.take m)
      have h2 : (l.take m).length ≤ l.length := by rw [List.length_take]; omega
      omega
    · rw [upd_same, htk, List.map_append]
      rfl
  · rw [if_neg z] at htk ⊢
    rw [htk, List.append_nil]
    exact ⟨hx, hd⟩
theorem k_lcFT {l : List Str} (p : Str → Bool) (hj : j < σ.length) (h : SqT K H a (l.map V.str)) (hl : l.length ≤ 1000)
    (ht : ∀ e ∈ l, ∀ H' (Q' : Bool → Hp → Prop), Ex H H' → Q' (p e) H' → tt ((σ.set j none).set j (some (.str e))) H' Q') (q : ∀ D H', H D = none → Ex H H' → H' D = some (.lst ((l.filter p).map V.str)) → Q (.ref D) H') :
    RLT K (gName j) tt (tVar j) [j] σ Q (.ref a) H :=
  k_lcTI (j := j) h (fun D m H' => Ex H H' ∧ H' D = some (.lst (((l.take m).filter p).map V.str))) (fun D hD => ⟨Ex.new hD, upd_same⟩) (fun D m H' hD _ ⟨e, _⟩ => e.sqT h) (fun D m x H' hD hm hP => flt_turn hj hl hD hm ht hP)
    fun D H' hD ⟨e, z⟩ => q D H' hD e (by rw [List.length_map, List.take_length] at z; exact z)
theorem k_lcFA {l : List Str} (p : Str → Bool) (hj : j < σ.length) (h : SqL K H a (l.map V.str) ∨ SqT K H a (l.map V.str)) (hl : l.length ≤ 1000)
    (ht : ∀ e ∈ l, ∀ H' (Q' : Bool → Hp → Prop), Ex H H' → Q' (p e) H' → tt ((σ.set j none).set j (some (.str e))) H' Q') (q : ∀ D H', H D = none → Ex H H' → H' D = some (.lst ((l.filter p).map V.str)) → Q (.ref D) H') :
    RLA K (gName j) tt (tVar j) [j] σ Q (.ref a) H :=
  k_lcI (j := j) h (fun D m H' => Ex H H' ∧ H' D = some (.lst (((l.take m).filter p).map V.str))) (fun D hD => ⟨Ex.new hD, upd_same⟩) (fun D m H' hD _ ⟨e, _⟩ => ⟨e.sqL, e.sqT⟩) (fun D m x H' hD hm hP => flt_turn hj hl hD hm ht hP)
    fun D H' hD ⟨e, z⟩ => q D H' hD e (by rw [List.length_map, List.take_length] at z; exact z)
end
/-- a dict of lists of texts: its keys l, o what each tells -/
structure OptK (H : Hp) (kvs : List (Key × V)) (l : List Str) (o : Str → List Str) : Prop where
  keys : kvs.map Prod.fst = l.map Sum.inr
  nd : l.Nodup
  at_ : ∀ e ∈ l, ∃ p, valV kvs (.inr e) = some (.ref p) ∧ H p = some (.lst ((o e).map V.str))
def oset (o : Str → List Str) (e : Str) (cs : List Str) : Str → List Str := fun x => if x = e then cs else o x
section
variable {H H' : Hp} {kvs : List (Key × V)} {l : List Str} {o : Str → List Str} {e : Str}
theorem OptK.len (h : OptK H kvs l o) : kvs.length = l.length := by
  have := congrArg List.length h.keys
  simpa using this
theorem OptK.ex (h : OptK H kvs l o) (x : ∀ b v, H b = some (.lst v) → H' b = some (.lst v)) : OptK H' kvs l o := ⟨h.keys, h.nd, fun e he => let ⟨p, a, b⟩ := h.at_ e he; ⟨p, a, x _ _ b⟩⟩
theorem val_none_of {k : Key} : ∀ {kvs : List (Key × V)}, k ∉ kvs.map Prod.fst → valV kvs k = none
  | [], _ => rfl
  | p :: r, h => by
    rw [valV_neg (fun z => h (by rw [List.map_cons, z]; exact List.mem_cons_self))]
    exact val_none_of fun z => h (List.mem_cons_of_mem _ z)
theorem OptK.none (h : OptK H kvs l o) (he : e ∉ l) : valV kvs (.inr e) = .none := val_none_of fun z => by
  rw [h.keys] at z
  obtain ⟨x, hx, ex⟩ := List.mem_map.mp z
  exact he (Sum.inr.inj ex ▸ hx)
theorem OptK.some_ (h : OptK H kvs l o) : (valV kvs (.inr e)).isSome = decide (e ∈ l) := by
  by_cases he : e ∈ l
  · obtain ⟨p, a, _⟩ := h.at_ e he
    rw [a, decide_eq_true he]; rfl
  · rw [h.none he, decide_eq_false he]; rfl
theorem OptK.nil : OptK H [] [] o := ⟨rfl, List.nodup_nil, fun _ z => nomatch z⟩
theorem OptK.put (h : OptK H kvs l o) {p : Addr} {cs : List Str} (hp : H p = some (.lst (cs.map V.str))) : OptK H (putK kvs (.inr e) (.ref p)) (if e ∈ l then l else l ++ [e]) (oset o e cs) := by
  have at2 : ∀ x ∈ (if e ∈ l then l else l ++ [e]), ∃ p', valV (putK kvs (.inr e) (.ref p)) (.inr x) = some (.ref p') ∧ H p' = some (.lst ((oset o e cs x).map V.str)) := fun x hx => by
    rw [valV_put]
    by_cases z : x = e
    · subst z
      exact ⟨p, if_pos rfl, by unfold oset; rw [if_pos rfl]; exact hp⟩
    · rw [if_neg (fun y => z (Sum.inr.inj y))]
      unfold oset
      rw [if_neg z]
      refine h.at_ x ?_
      by_cases he : e ∈ l
      · rw [if_pos he] at hx; exact hx
      · rw [if_neg he] at hx
        exact (List.mem_append.mp hx).resolve_right fun y => z (List.mem_singleton.mp y)
  by_cases he : e ∈ l
  · rw [if_pos he] at at2 ⊢
    refine ⟨?_, h.nd, at2⟩
    have hs := h.some_ (e := e)
    rw [decide_eq_true he] at hs
    have : putK kvs (.inr e) (.ref p) = kvs.map fun kv => if kv.1 = .inr e then (kv.1, V.ref p) else kv := by
      unfold putK
      rw [valV_any, hs]
      rfl
    rw [this, List.map_map, ← h.keys]
    refine List.map_congr_left fun kv _ => ?_
    show (if kv.1 = Sum.inr e then (kv.1, V.ref p) else kv).1 = kv.1
    split <;> rfl
  · rw [if_neg he] at at2 ⊢
    refine ⟨?_, List.nodup_append.mpr ⟨h.nd, by simp, fun a ha b hb => ?_⟩, at2⟩
    · rw [putK_new _ (h.none he), List.map_append, List.map_append, h.keys]
      rfl
    · rw [List.mem_singleton.mp hb]
      exact fun z => he (z ▸ ha)
theorem OptK.key (h : OptK H kvs l o) {m : Nat} {k : Key} {v : V} (e : kvs[m]? = some (k, v)) : ∃ x, k = .inr x ∧ l[m]? = some x := by
  have : (kvs.map Prod.fst)[m]? = some k := by rw [List.getElem?_map, e]; rfl
  rw [h.keys, List.getElem?_map] at this
  obtain ⟨x, hx, rfl⟩ := Option.map_eq_some_iff.mp this
  exact ⟨x, rfl, hx⟩
end
section
variable {K : PySem.W.Frag} {H : Hp} {Q : VK} {a : Addr} {kvs : List (Key × V)} {l : List Str} {o : Str → List Str} {e : Str} {od : Obj}
/-- read, or locked -/
theorem o_inOpt (h : Rd H a (.dK kvs)) (ho : OptK H kvs l o) (q : Q (.bl (decide (e ∈ l))) H) : rInA K false (.str e) (.ref a) H Q := .inr ⟨a, valV kvs (.inr e), rfl, .inl ⟨kvs, .inr e, h, rfl, rfl⟩, by rw [ho.some_]; exact q⟩
theorem k_getOpt (h : Rd H a (.dK kvs)) {p : Addr} (hv : valV kvs (.inr e) = some (.ref p)) (q : Q (.ref p) H) : RDGet (.ref a) (.str e) H Q := ⟨a, _, rfl, .inl ⟨kvs, .inr e, h, rfl, hv.symm⟩, q⟩
end
end L2.MP
namespace L2.MR
open PySem PySem.Spec PyProof.Rows GenW L2.MP L2.MG
section
variable {σ : L2.St} {H Hw : Hp} {tr : TA} {D : GE} {i0 k : Nat} {tb : TGy}
def RGR (k : Nat) (tb : TGy) (D : GE) (i0 : Nat) (Hw : Hp) (σ : L2.St) (us : List V) (H : Hp) : Prop := ∃ j : Int, us = [.int j] ∧ -(2 ^ 62) ≤ j ∧ j < 2 ^ 62 ∧ ∃ W : Nat → Nat → Nat → Hp → L2.St → Hp → Prop, (∃ m, W 0 m i0 Hw σ H) ∧ ∀ j' m i Hw σ H, W j' m i Hw σ H →
  ((Itr 0 j.toNat).stop j' H ∧ D.nx i Hw σ H) ∨ ((Itr 0 j.toNat).go j' H ∧ ∃ N : Nat → Hp → L2.St → Hp → Prop, (∀ i' Hw' σ' H', N i' Hw' σ' H' → ∃ m', m' < m ∧ W (j' + 1) m' i' Hw' σ' H') ∧
    ∀ x H', (Itr 0 j.toNat).yld j' H x H' → gName k x σ H' fun σ2 H2 => tb { D with nx := N, ct := N, bk := D.nx } i Hw σ2 H2)
theorem gFor_r (h : tr σ H (RGR k tb D i0 Hw σ)) : tGFor (iRng1 tr) (gName k) tb D i0 Hw σ H := h
theorem rgr_of {n : Nat} (hn : n < 2 ^ 62) (Pv : Nat → Nat → Hp → L2.St → Hp → Prop) (h0 : Pv 0 i0 Hw σ H)
    (hs : ∀ (j : Nat) i Hw σ H, j < n → Pv j i Hw σ H → tb { D with nx := Pv (j + 1), ct := Pv (j + 1), bk := D.nx } i Hw (σ.set k (some (.int j))) H) (hd : ∀ i Hw σ H, Pv n i Hw σ H → D.nx i Hw σ H) : RGR k tb D i0 Hw σ [.int (n : Nat)] H := by
  refine ⟨n, rfl, by omega, by omega, fun j m i Hw σ H => m = n - j ∧ j ≤ n ∧ Pv j i Hw σ H, ⟨n, by simp, Nat.zero_le _, h0⟩, ?_⟩
  rintro j m i Hw σ H ⟨rfl, hj, p⟩
  rw [Int.toNat_natCast]
  by_cases hlt : j < n
  · refine .inr ⟨hlt, Pv (j + 1), fun i' Hw' σ' H' p' => ⟨n - (j + 1), by omega, rfl, hlt, p'⟩, fun x H' y => ?_⟩
    obtain ⟨e, y⟩ := y
    subst e
    have z := hs j i Hw σ _ hlt p
    rw [← Int.zero_add (j : Int)] at z
    rw [y]
    exact z
  · have e : j = n := by omega
    subst e
    exact .inl ⟨Nat.le_refl _, hd i Hw σ H p⟩
end
end L2.MR

set_option Elab.async false
set_option linter.all false
set_option maxRecDepth 100000
set_option maxHeartbeats 4000000
/-! A comprehension over a range. -/
namespace L2.MP
open PySem PySem.Spec PyProof.Rows L2
section
variable {σ : L2.St} {H : Hp} {te : TE} {tr : TA} {Q : VK} {g : TG} {tt : TT} {vs : List Nat}
def RLR1 (g : TG) (tt : TT) (te : TE) (vs : List Nat) (σ : L2.St) (Q : VK) (us : List V) (H : Hp) : Prop := ∃ j : Int, us = [.int j] ∧ -(2 ^ 62) ≤ j ∧ j < 2 ^ 62 ∧ RLc (Itr 0 j.toNat) g tt te vs σ Q H
theorem k_lcR1 (h : tr σ H (RLR1 g tt te vs σ Q)) : tLc (iRng1 tr) g tt te vs σ H Q := h
theorem k_rlr1 {j : Int} (h : 0 ≤ j ∧ j < 2 ^ 62) (P : Addr → Nat → Hp → Prop) (h0 : ∀ D, H D = none → P D 0 (upd H D (.lst [])))
    (hs : ∀ D (m : Nat) H', H D = none → (m : Int) < j → P D m H' → g (.int m) (wipe σ vs) H' fun σ2 H2 => wipe σ2 vs = wipe σ vs ∧ tt σ2 H2 fun b H3 =>
      if b = true then te σ2 H3 fun y H4 => ∃ acc, H4 D = some (.lst acc) ∧ acc.length < sizeLine ∧ P D (m + 1) (upd H4 D (.lst (acc ++ [y]))) else P D (m + 1) H3)
    (hd : ∀ D H', H D = none → P D j.toNat H' → Q (.ref D) H') : RLR1 g tt te vs σ Q [.int j] H := by
  refine ⟨j, rfl, by omega, h.2, fun D hD => lc_range (P D) (h0 D hD) (fun m H' hm q => ?_) fun H' q => hd D H' hD q⟩
  have := hs D m H' hD (by omega) q
  rw [Int.zero_add]
  exact this
end
end L2.MP

set_option Elab.async false
set_option linter.all false
set_option maxRecDepth 100000
set_option maxHeartbeats 4000000
/-! Loops of a generator over a list; its consumer's turns. -/
namespace L2.MR
open PySem PySem.Spec PyProof.Rows GenW L2.MP L2.MG
section
variable {K : PySem.W.Frag} {σ : L2.St} {H Hw : Hp} {te : TE} {D : GE} {i0 k : Nat} {tb : TGy} {a : Addr} {xs : List V}
def RGL (K : PySem.W.Frag) (k : Nat) (tb : TGy) (D : GE) (i0 : Nat) (Hw : Hp) (σ : L2.St) (x : V) (H : Hp) : Prop := ∃ a, x = .ref a ∧ (∃ xs, SqL K H a xs) ∧ ∃ W : Nat → Nat → Nat → Hp → L2.St → Hp → Prop, (∃ m, W 0 m i0 Hw σ H) ∧ ∀ j m i Hw σ H, W j m i Hw σ H →
  ((Itl K a).stop j H ∧ D.nx i Hw σ H) ∨ ((Itl K a).go j H ∧ ∃ N : Nat → Hp → L2.St → Hp → Prop, (∀ i' Hw' σ' H', N i' Hw' σ' H' → ∃ m', m' < m ∧ W (j + 1) m' i' Hw' σ' H') ∧
    ∀ x H', (Itl K a).yld j H x H' → gName k x σ H' fun σ2 H2 => tb { D with nx := N, ct := N, bk := D.nx } i Hw σ2 H2)
theorem gFor_l (h : te σ H (RGL K k tb D i0 Hw σ)) : tGFor (iList K te) (gName k) tb D i0 Hw σ H := h
theorem rgl_of (h : SqL K H a xs) (Pv : Nat → Nat → Hp → L2.St → Hp → Prop) (h0 : Pv 0 i0 Hw σ H) (hl : ∀ j i Hw σ H, j ≤ xs.length → Pv j i Hw σ H → SqL K H a xs)
    (hs : ∀ j x i Hw σ H, xs[j]? = some x → Pv j i Hw σ H → tb { D with nx := Pv (j + 1), ct := Pv (j + 1), bk := D.nx } i Hw (σ.set k (some x)) H) (hd : ∀ i Hw σ H, Pv xs.length i Hw σ H → D.nx i Hw σ H) : RGL K k tb D i0 Hw σ (.ref a) H := by
  refine ⟨a, rfl, ⟨xs, h⟩, fun j m i Hw σ H => m = xs.length - j ∧ j ≤ xs.length ∧ Pv j i Hw σ H, ⟨xs.length, by simp, Nat.zero_le _, h0⟩, ?_⟩
  rintro j m i Hw σ H ⟨rfl, hj, p⟩
  have q := hl j i Hw σ H hj p
  by_cases hlt : j < xs.length
  · refine .inr ⟨⟨xs, xs[j], q, by simp [hlt]⟩, Pv (j + 1), fun i' Hw' σ' H' p' => ⟨xs.length - (j + 1), by omega, rfl, hlt, p'⟩, fun x H' y => ?_⟩
    obtain ⟨e, y⟩ := y
    subst e
    exact hs j x i Hw σ _ (y xs q) p
  · have e : j = xs.length := by omega
    subst e
    exact .inl ⟨⟨xs, q, Nat.le_refl _⟩, hd i Hw σ H p⟩
/-- o.m(..) whose generator is known -/
def RGm (C : Addr) (m : Str) (sp : List V → It → Nat → (Hp → Hp → Prop) → Prop) (dvs : List V) (ta : TA) (σ : L2.St) (R : It → (Hp → Hp → Prop) → Hp → Prop) (x : V) (H1 : Hp) : Prop := ∃ a dx fs, x = .ref a ∧ H1 a = some (.ins C dx fs) ∧ fs.lookup m = none ∧ ta σ H1 fun vs H2 => ∃ J M RR, sp (x :: (vs ++ dvs)) J M RR ∧ R J RR H2
def RLcR (g : TG) (tt : TT) (te : TE) (vs : List Nat) (σ : L2.St) (Q : VK) (J : It) (R : Hp → Hp → Prop) (H1 : Hp) : Prop := ∀ D, H1 D = none → ∃ W : Nat → Nat → Hp → Prop, (∃ m, W 0 m (upd H1 D (.lst []))) ∧ ∀ i m H, W i m H →
  (J.stop i H ∧ Q (.ref D) H) ∨ (J.go i H ∧ ∃ Nx : Hp → Prop, (∀ H', Nx H' → ∃ m', m' < m ∧ W (i + 1) m' H') ∧ ∀ x H', J.yld i H x H' → g x (wipe σ vs) H' fun σ2 H2 => wipe σ2 vs = wipe σ vs ∧ tt σ2 H2 fun b H3 =>
    if b = true then te σ2 H3 fun y H4 => ∃ acc, H4 D = some (.lst acc) ∧ acc.length < sizeLine ∧ R H' (upd H4 D (.lst (acc ++ [y]))) ∧ Nx (upd H4 D (.lst (acc ++ [y]))) else R H' H3 ∧ Nx H3)
theorem k_lcRm {C : Addr} {m : Str} {sp : List V → It → Nat → (Hp → Hp → Prop) → Prop} {dvs : List V} {to : TE} {ta : TA} {g : TG} {tt : TT} {te : TE} {vs : List Nat} {Q : VK} (h : to σ H (RGm C m sp dvs ta σ (RLcR g tt te vs σ Q))) : tLcR (iGmR C m sp dvs to ta) g tt te vs σ H Q := h
theorem rlcR_of {J : It} {R : Hp → Hp → Prop} {g : TG} {tt : TT} {te : TE} {vs : List Nat} {Q : VK} (n : Nat) (P : Addr → Nat → Hp → Prop) (h0 : ∀ D, H D = none → P D 0 (upd H D (.lst [])))
    (hgo : ∀ D i H', H D = none → i < n → P D i H' → J.go i H') (hst : ∀ D H', H D = none → P D n H' → J.stop n H')
    (hs : ∀ D i x H1 H', H D = none → i < n → P D i H1 → J.yld i H1 x H' → g x (wipe σ vs) H' fun σ2 H2 => wipe σ2 vs = wipe σ vs ∧ tt σ2 H2 fun b H3 =>
      if b = true then te σ2 H3 fun y H4 => ∃ acc, H4 D = some (.lst acc) ∧ acc.length < sizeLine ∧ R H' (upd H4 D (.lst (acc ++ [y]))) ∧ P D (i + 1) (upd H4 D (.lst (acc ++ [y]))) else R H' H3 ∧ P D (i + 1) H3)
    (hd : ∀ D H', H D = none → P D n H' → Q (.ref D) H') : RLcR g tt te vs σ Q J R H := by
  intro D hD
  refine ⟨fun i m H => m = n - i ∧ i ≤ n ∧ P D i H, ⟨n, by simp, Nat.zero_le _, h0 D hD⟩, ?_⟩
  rintro i m H1 ⟨rfl, hi, p⟩
  by_cases hlt : i < n
  · exact .inr ⟨hgo D i H1 hD hlt p, P D (i + 1), fun H' p' => ⟨n - (i + 1), by omega, rfl, hlt, p'⟩, fun x H' y => hs D i x H1 H' hD hlt p y⟩
  · have e : i = n := by omega
    subst e
    exact .inl ⟨hst D H1 hD p, hd D H1 hD p⟩
end
end L2.MR

namespace L2.MP
open PySem PySem.Spec PyProof.Rows
section
open PySem.W PySem.Calls HandSHeadRun
abbrev qV := view (OpenLaw.row PySem.Challenge.rw_stickymarks_k38_menu_books).prog [25]
abbrev topD := HandSHeadRun.topDef (OpenLaw.row PySem.Challenge.rw_stickymarks_k38_menu_books).prog 25
theorem law_name : topD.name = ("law" : PySem.Str) := by kernel_rfl
theorem top_dflt : topD.params.defaults = [] := by kernel_rfl
set_option maxHeartbeats 0 in
theorem head_done (call : PySem.W.WalkO qV looseN (XL qV []) hkM.says RRh.toRowW topD [] (fun f vs => PySem.call f vs)) : PySem.Challenge.rw_stickymarks_k38_menu_books.Holds := by
  w_on; o_law
  refine HandSHeadRun.head_any (r := OpenLaw.row PySem.Challenge.rw_stickymarks_k38_menu_books) (q := qV) (H := hkM) (ob := obsL adl fnl exb tbs) (M := 20000) (loose := looseN)
    (d := topD) (kwd := []) (obsL_eq adl fnl exb tbs)
    (by kernel_rfl) (fun s => by kernel_rfl) run_top (by kernel_rfl) (by kernel_rfl) (by kernel_rfl) (by rfl) (by first | assumption | decide +kernel) (by decide +kernel) ⟨rfl, rfl, rfl, rfl, rfl, by decide +kernel⟩ ?hw call
  case hw => w_witness2
end
def gg_Book_init_0 {α : Type} (us mv ws : List α) : List α := us ++ (((ws.drop 0).take 1) ++ (((ws.drop 1).take 1) ++ (((ws.drop 2).take 1) ++ (((ws.drop 3).take 1) ++ (((ws.drop 4).take 1) ++ (((ws.drop 5).take 1) ++ (((ws.drop 6).take 1) ++ (((ws.drop 7).take 1) ++ (((ws.drop 8).take 1) ++ (((ws.drop 9).take 1) ++ []))))))))))
def gv_Book_init_0 : List V → List V → List V := fun vs zs => gg_Book_init_0 vs [] zs
/-! ### the readings -/
section
variable (K : PySem.W.Frag) (W : World) (G : Gm) (E : XK)
variable (GG_Menu_books : List V → It → Nat → (Hp → Hp → Prop) → Prop)
def rdG_Menu_books (J : It) (M : Nat) (R : Hp → Hp → Prop) : L2.MR.TGy := (L2.MR.tGSeq (L2.MR.tGFor (iRng1 (tCons (tFld K (tVar 0) ("count" : Str)) tNil)) (gName 1) (L2.MR.tGSeq (L2.MR.tGYR J M R (tMethS (He.ga K "Menu") ("numbered" : Str) (G .Menu_numbered) [] (fun _ => E0) (tVar 0) (tCons (tVar 1) tNil))) L2.MR.tG0)) L2.MR.tG0)
def rd_Book_init : TS := (tSeq (tAsg (tTup (tCons (tVar 1) (tCons (tVar 2) (tCons (tVar 3) (tCons (tVar 4) (tCons (tVar 5) (tCons (tVar 6) (tCons (tVar 7) (tCons (tVar 8) (tCons (tVar 9) (tCons (tVar 10) tNil))))))))))) (gName 11)) (tSeq (sFld K (tVar 0) tDNewK ("held" : Str)) (tFor (iRng1 (tCons (tCB (rLenA K) (tCons (tC (.ref (He.ga K ("ENTRIES" : Str)))) tNil)) tNil)) (gName 12) (tSeq (tIfS (tTest (tOp (rInA K true) (tOp (rIx K) (tVar 11) (tVar 12)) (tOp (rIxW K W) (tC (.ref (He.ga K ("CHOICES" : Str)))) (tOp (rIx K) (tC (.ref (He.ga K ("ENTRIES" : Str)))) (tVar 12))))) (tRaiseE E (.ref (He.ga K "InvalidBook"))) tNext) (sDPut (tFld K (tVar 0) ("held" : Str)) (tOp (rIx K) (tC (.ref (He.ga K ("ENTRIES" : Str)))) (tVar 12)) (tOp (rIx K) (tVar 11) (tVar 12)))))))
def rd_Book_getitem : TS := (tSeq (tIfS (tTest (tOp (rInA K true) (tVar 1) (tC (.ref (He.ga K ("ENTRIES" : Str)))))) (tRaiseE E (.ref (He.ga K "InvalidBook"))) tNext) (tRet (tDGet (tFld K (tVar 0) ("held" : Str)) (tVar 1))))
def rd_Book_setitem : TS := (tSeq (tIfS (tOr (tTest (tOp (rInA K true) (tVar 1) (tC (.ref (He.ga K ("ENTRIES" : Str)))))) (tTest (tOp (rInA K true) (tVar 2) (tOp (rIxW K W) (tC (.ref (He.ga K ("CHOICES" : Str)))) (tVar 1))))) (tRaiseE E (.ref (He.ga K "InvalidBook"))) tNext) (sDPut (tFld K (tVar 0) ("held" : Str)) (tVar 1) (tVar 2)))
def rd_Book_copied : TS := (tRet (tMakeSp (He.ga K "Book") [("work" : Str), ("write" : Str), ("meet" : Str), ("test" : Str), ("partly" : Str), ("value" : Str), ("path" : Str), ("loop" : Str), ("guard" : Str), ("call" : Str)] (G .Book_init) gv_Book_init_0 (fun _ => E) (tFld K (tVar 0) ("held" : Str))))
def rd_Menu_init : TS := (tSeq (sFld K (tVar 0) (tMethS (He.ga K "Book") ("copied" : Str) (G .Book_copied) [] (fun _ => E) (tVar 1) tNil) ("base" : Str)) (tSeq (sFld K (tVar 0) (tLc (iTup K (tC (.ref (He.ga K ("ENTRIES" : Str))))) (gName 3) (tTest (tOp (rInA K false) (tVar 3) (tVar 2))) (tVar 3) [3]) ("entries" : Str)) (tSeq (tIfS (tTest (tOp (rNeA K) (tCB (rLenA K) (tCons (tFld K (tVar 0) ("entries" : Str)) tNil)) (tCB rLenD (tCons (tVar 2) tNil)))) (tRaiseE E (.ref (He.ga K "InvalidInput"))) tNext) (tSeq (sFld K (tVar 0) tDNewK ("options" : Str)) (tSeq (sFld K (tVar 0) (tC (.int 1)) ("count" : Str)) (tSeq (tFor (iAny K (tFld K (tVar 0) ("entries" : Str))) (gName 3) (tSeq (tAsg (tLc (iAny K (tOp (rIxW K W) (tC (.ref (He.ga K ("CHOICES" : Str)))) (tVar 3))) (gName 5) (tTest (tOp (rInA K false) (tVar 5) (tDGet (tVar 2) (tVar 3)))) (tVar 5) [5]) (gName 4)) (tSeq (tIfS (tOr (tTest (tOp (rEqA K) (tVar 4) (tLst tNil))) (tTest (tOp (rNeA K) (tCB (rLenA K) (tCons (tVar 4) tNil)) (tCB (rLenA K) (tCons (tDGet (tVar 2) (tVar 3)) tNil))))) (tRaiseE E (.ref (He.ga K "InvalidInput"))) tNext) (tSeq (sDPut (tFld K (tVar 0) ("options" : Str)) (tVar 3) (tVar 4)) (sFld K (tVar 0) (tOp rMulA (tFld K (tVar 0) ("count" : Str)) (tCB (rLenA K) (tCons (tVar 4) tNil))) ("count" : Str)))))) (tIfS (tTest (tOp rGtI (tFld K (tVar 0) ("count" : Str)) (tC (.int 24)))) (tRaiseE E (.ref (He.ga K "InvalidInput"))) tNext)))))))
def rd_Menu_contains : TS := (tSeq (tFor (iTup K (tC (.ref (He.ga K ("ENTRIES" : Str))))) (gName 2) (tIfS (tTest (tOp (rInA K false) (tVar 2) (tFld K (tVar 0) ("options" : Str)))) (tIfS (tTest (tOp (rInA K true) (tOwnIx (He.ga K "Book") (G .Book_getitem) (fun _ => E) (tVar 1) (tVar 2)) (tDGet (tFld K (tVar 0) ("options" : Str)) (tVar 2)))) (tRet (tC (.bl false))) tNext) (tIfS (tTest (tOp (rNeA K) (tOwnIx (He.ga K "Book") (G .Book_getitem) (fun _ => E) (tVar 1) (tVar 2)) (tOwnIx (He.ga K "Book") (G .Book_getitem) (fun _ => E) (tFld K (tVar 0) ("base" : Str)) (tVar 2)))) (tRet (tC (.bl false))) tNext))) (tRet (tC (.bl true))))
def rd_Menu_numbered : TS := (tSeq (tAsg (tMethS (He.ga K "Book") ("copied" : Str) (G .Book_copied) [] (fun _ => E) (tFld K (tVar 0) ("base" : Str)) tNil) (gName 2)) (tSeq (tAsg (tVar 1) (gName 3)) (tSeq (tFor (RT.iRevA K (tCB (rListA K) (tCons (tFld K (tVar 0) ("entries" : Str)) tNil))) (gName 4) (tSeq (tAsg (tDGet (tFld K (tVar 0) ("options" : Str)) (tVar 4)) (gName 5)) (tSeq (sOwnPut (He.ga K "Book") (G .Book_setitem) (fun _ => E) (tVar 2) (tVar 4) (tOp (rIx K) (tVar 5) (tOp rModI (tVar 3) (tCB (rLenA K) (tCons (tVar 5) tNil))))) (tAsg (tOp rFdivI (tVar 3) (tCB (rLenA K) (tCons (tVar 5) tNil))) (gName 3))))) (tRet (tVar 2)))))
def rd_law_cell : TS := (tSeq (tIfS (tTest (tOp rLtI (tVar 1) (tCB (rLenA K) (tCons (tVar 0) tNil)))) (tRet (tOp (rIx K) (tVar 0) (tVar 1))) tNext) (tRet (tC (.int 0))))
def rd_law_draws : TS := (tSeq (tAsg (tCB rAbsI (tCons (tVar 0) tNil)) (gName 3)) (tSeq (tAsg (tVar 3) (gName 4)) (tSeq (tAsg (tLst tNil) (gName 5)) (tSeq (tFor (iRng1 (tCons (tVar 1) tNil)) (gName 6) (tIfS (tAnd (tTest (tOp rGeI (tVar 3) (tOp rPowI (tC (.int 10)) (tC (.int 18))))) (tTest (tOp rGeI (tVar 4) (tC (.int 60))))) (tSeq (tDrop (tBM K "list" rAppend (tVar 5) (tCons (tOp rModI (tVar 4) (tC (.int 60))) tNil))) (tAsg (tOp rFdivI (tVar 4) (tC (.int 60))) (gName 4))) (tSeq (tAsg (tOp rModI (tOp (rAddA K) (tOp (rAddA K) (tOp (rAddA K) (tOp rMulA (tOp rModI (tVar 3) (tC (.int 1000003))) (tC (.int 48271))) (tOp rMulA (tVar 6) (tC (.int 69621)))) (tOp rMulA (tVar 2) (tC (.int 7919)))) (tC (.int 12345))) (tC (.int 2147483647))) (gName 7)) (tSeq (tAsg (tOp rModI (tOp (rAddA K) (tOp (rAddA K) (tOp rMulA (tVar 7) (tC (.int 16807))) (tOp rMulA (tVar 6) (tC (.int 40692)))) (tVar 2)) (tC (.int 2147483399))) (gName 7)) (tDrop (tBM K "list" rAppend (tVar 5) (tCons (tOp rModI (tOp rFdivI (tVar 7) (tC (.int 1009))) (tC (.int 60))) tNil))))))) (tRet (tVar 5))))))
def rd_law_entries : TS := (tRet (tLst (tCons (tC (.str ("work" : Str))) (tCons (tC (.str ("write" : Str))) (tCons (tC (.str ("meet" : Str))) (tCons (tC (.str ("test" : Str))) (tCons (tC (.str ("partly" : Str))) (tCons (tC (.str ("value" : Str))) (tCons (tC (.str ("path" : Str))) (tCons (tC (.str ("loop" : Str))) (tCons (tC (.str ("guard" : Str))) (tCons (tC (.str ("call" : Str))) tNil))))))))))))
def rd_law_choices : TS := (tSeq (tAsg (tDisp (((tC (.str ("work" : Str))), (tC (.str ("drop left short join" : Str)))) :: (((tC (.str ("write" : Str))), (tC (.str ("raise partly skip stop" : Str)))) :: (((tC (.str ("meet" : Str))), (tC (.str ("leave raise" : Str)))) :: (((tC (.str ("test" : Str))), (tC (.str ("ignore raise stop" : Str)))) :: (((tC (.str ("partly" : Str))), (tC (.str ("pass stop" : Str)))) :: (((tC (.str ("value" : Str))), (tC (.str ("show blank skip stop" : Str)))) :: (((tC (.str ("path" : Str))), (tC (.str ("show blank skip stop" : Str)))) :: [])))))))) (gName 1)) (tRet (tM1 rSplitA (tDGet2 (tVar 1) (tVar 0) (tC (.str ("forget stick stop" : Str)))) (tC (.str (" " : Str))))))
def rd_law_picks : TS := (tSeq (tAsg (tLst (tCons (tC (.str ("join stop leave raise stop skip skip stick stick stick" : Str))) (tCons (tC (.str ("join partly leave raise stop stop stop stick stop stick" : Str))) (tCons (tC (.str ("join raise raise raise pass blank skip stick stick stick" : Str))) (tCons (tC (.str ("short skip leave raise pass skip skip stick stick stop" : Str))) (tCons (tC (.str ("short raise leave stop pass blank show forget forget forget" : Str))) (tCons (tC (.str ("short partly raise raise stop stop skip stop stick stick" : Str))) (tCons (tC (.str ("join raise leave raise pass stop stop stick stick stick" : Str))) (tCons (tC (.str ("join partly leave raise pass stop stop stop stick stick" : Str))) (tCons (tC (.str ("short partly leave raise stop skip skip stick stick stick" : Str))) (tCons (tC (.str ("join stop leave raise stop skip skip stick forget stick" : Str))) tNil))))))))))) (gName 1)) (tSeq (tAsg (tM1 rSplitA (tOp (rIx K) (tVar 1) (tOp rModI (tOp (rIx K) (tVar 0) (tC (.int 1))) (tC (.int 10)))) (tC (.str (" " : Str)))) (gName 2)) (tSeq (tAsg (tCallSD (G .law_entries) [] (fun _ => E) tNil) (gName 3)) (tSeq (tAsg tDNewK (gName 4)) (tSeq (tFor (iRng1 (tCons (tC (.int 10)) tNil)) (gName 5) (tSeq (tAsg (tCallSD (G .law_choices) [] (fun _ => E) (tCons (tOp (rIx K) (tVar 3) (tVar 5)) tNil)) (gName 6)) (sDPut (tVar 4) (tOp (rIx K) (tVar 3) (tVar 5)) (tOp (rIx K) (tLst (tCons (tOp (rIx K) (tVar 2) (tVar 5)) (tCons (tOp (rIx K) (tVar 6) (tOp rModI (tOp (rIx K) (tVar 0) (tOp (rAddA K) (tC (.int 2)) (tVar 5))) (tCB (rLenA K) (tCons (tVar 6) tNil)))) tNil))) (tCB rIntA (tCons (tOp (rEqA K) (tOp rModI (tOp (rIx K) (tVar 0) (tC (.int 0))) (tC (.int 3))) (tC (.int 0))) tNil)))))) (tSeq (tFor (iRng1 (tCons (tOp rMulA (tCB rIntA (tCons (tOp (rEqA K) (tOp rModI (tOp (rIx K) (tVar 0) (tC (.int 0))) (tC (.int 3))) (tC (.int 1))) tNil)) (tOp (rAddA K) (tC (.int 1)) (tOp rModI (tOp (rIx K) (tVar 0) (tC (.int 12))) (tC (.int 2))))) tNil)) (gName 5) (tSeq (tAsg (tOp (rIx K) (tVar 3) (tOp rModI (tOp (rIx K) (tVar 0) (tOp (rAddA K) (tC (.int 13)) (tOp rMulA (tC (.int 2)) (tVar 5)))) (tC (.int 10)))) (gName 7)) (tSeq (tAsg (tCallSD (G .law_choices) [] (fun _ => E) (tCons (tVar 7) tNil)) (gName 6)) (sDPut (tVar 4) (tVar 7) (tOp (rIx K) (tVar 6) (tOp rModI (tOp (rIx K) (tVar 0) (tOp (rAddA K) (tC (.int 14)) (tOp rMulA (tC (.int 2)) (tVar 5)))) (tCB (rLenA K) (tCons (tVar 6) tNil)))))))) (tRet (tVar 4))))))))
def rd_law_book : TS := (tSeq (tAsg (tMakeS (He.ga K "Book") (G .Book_init) [V.str ("join" : Str), V.str ("stop" : Str), V.str ("raise" : Str), V.str ("stop" : Str), V.str ("stop" : Str), V.str ("stop" : Str), V.str ("stop" : Str), V.str ("stop" : Str), V.str ("stop" : Str), V.str ("stop" : Str)] (fun _ => E) tNil) (gName 1)) (tSeq (tFor (iList K (tCallSD (G .law_entries) [] (fun _ => E) tNil)) (gName 2) (sOwnPut (He.ga K "Book") (G .Book_setitem) (fun _ => E) (tVar 1) (tVar 2) (tDGet (tVar 0) (tVar 2)))) (tRet (tVar 1))))
def rd_law_options : TS := (tSeq (tAsg tDNewK (gName 1)) (tSeq (tAsg (tOp (rAddA K) (tC (.int 1)) (tOp rModI (tOp (rIx K) (tVar 0) (tC (.int 0))) (tC (.int 3)))) (gName 2)) (tSeq (tFor (iRng1 (tCons (tVar 2) tNil)) (gName 3) (tSeq (tAsg (tOp (rIx K) (tCallSD (G .law_entries) [] (fun _ => E) tNil) (tOp rModI (tOp (rIx K) (tVar 0) (tOp (rAddA K) (tC (.int 1)) (tVar 3))) (tC (.int 10)))) (gName 4)) (tSeq (tAsg (tCallSD (G .law_choices) [] (fun _ => E) (tCons (tVar 4) tNil)) (gName 5)) (tSeq (tAsg (tOp (rAddA K) (tC (.int 2)) (tOp rMulA (tOp rModI (tOp (rIx K) (tVar 0) (tOp (rAddA K) (tC (.int 4)) (tVar 3))) (tC (.int 2))) (tCB rIntA (tCons (tAndV (tOp rLtI (tVar 2) (tC (.int 3))) (tOp rGtI (tCB (rLenA K) (tCons (tVar 5) tNil)) (tC (.int 2)))) tNil)))) (gName 6)) (sDPut (tVar 1) (tVar 4) (tLc (iRng1 (tCons (tVar 6) tNil)) (gName 7) tYes (tOp (rIx K) (tVar 5) (tOp rModI (tOp (rAddA K) (tOp (rIx K) (tVar 0) (tOp (rAddA K) (tC (.int 7)) (tVar 3))) (tVar 7)) (tCB (rLenA K) (tCons (tVar 5) tNil)))) [7])))))) (tRet (tVar 1)))))
def rd_law_menu_books : TS := (tSeq (tAsg (tLst (tCons (tCB rDictA (tCons (tVar 0) tNil)) tNil)) (gName 2)) (tSeq (tFor (iList K (tCallSD (G .law_entries) [] (fun _ => E) tNil)) (gName 3) (tIfS (tTest (tOp (rInA K false) (tVar 3) (tVar 1))) (tSeq (tAsg (tLst tNil) (gName 4)) (tSeq (tFor (iAny K (tVar 2)) (gName 5) (tFor (iList K (tCallSD (G .law_choices) [] (fun _ => E) (tCons (tVar 3) tNil))) (gName 6) (tIfS (tTest (tOp (rInA K false) (tVar 6) (tDGet (tVar 1) (tVar 3)))) (tSeq (tAsg (tCB rDictA (tCons (tVar 5) tNil)) (gName 7)) (tSeq (sDPut (tVar 7) (tVar 3) (tVar 6)) (tAsg (tOp (rAddA K) (tVar 4) (tLst (tCons (tVar 7) tNil))) (gName 4)))) tNext))) (tAsg (tVar 4) (gName 2)))) tNext)) (tRet (tVar 2))))
def rd_law_read_book : TS := (tSeq (tAsg tDNewK (gName 1)) (tSeq (tFor (iList K (tCallSD (G .law_entries) [] (fun _ => E) tNil)) (gName 2) (sDPut (tVar 1) (tVar 2) (tOwnIx (He.ga K "Book") (G .Book_getitem) (fun _ => E) (tVar 0) (tVar 2)))) (tRet (tVar 1))))
def rd_law_bent : TS := (tSeq (tAsg (tCB rDictA (tCons (tVar 0) tNil)) (gName 2)) (tSeq (tFor (iRng1 (tCons (tOp (rAddA K) (tC (.int 1)) (tOp rModI (tOp (rIx K) (tVar 1) (tC (.int 0))) (tC (.int 3)))) tNil)) (gName 3) (tSeq (tAsg (tOp (rIx K) (tCallSD (G .law_entries) [] (fun _ => E) tNil) (tOp rModI (tOp (rIx K) (tVar 1) (tOp (rAddA K) (tC (.int 1)) (tVar 3))) (tC (.int 10)))) (gName 4)) (tSeq (tAsg (tCallSD (G .law_choices) [] (fun _ => E) (tCons (tVar 4) tNil)) (gName 5)) (sDPut (tVar 2) (tVar 4) (tOp (rIx K) (tVar 5) (tOp rModI (tOp (rIx K) (tVar 1) (tOp (rAddA K) (tC (.int 4)) (tVar 3))) (tCB (rLenA K) (tCons (tVar 5) tNil)))))))) (tRet (tVar 2))))
def rd_law_refused : TS := (tSeq (fun D σ H => (fun W => (tDrop (tMakeS (He.ga K "Menu") (G .Menu_init) [] (WE W) (tCons (tVar 0) (tCons (tVar 1) tNil))))) (wAs K (.ref (He.ga K "InvalidInput")) 2 (fun a cls d => (tRet (tCB (rIsX K a cls d (He.ga K ("InvalidInput" : Str))) (tCons (tVar 2) (tCons (tC (.ty "ValueError")) tNil))))) (fun cls d _ H => E cls d H) D) D σ H) (tRet (tC (.bl false))))
def rd_law : TS := (tSeq (tAsg (tCallSD (G .law_picks) [] (fun _ => E) (tCons (tCallSD (G .law_draws) [] (fun _ => E) (tCons (tCallSD (G .law_cell) [] (fun _ => E) (tCons (tVar 0) (tCons (tC (.int 0)) tNil))) (tCons (tC (.int 20)) (tCons (tC (.int 100)) tNil)))) tNil)) (gName 1)) (tSeq (tAsg (tCallSD (G .law_options) [] (fun _ => E) (tCons (tCallSD (G .law_draws) [] (fun _ => E) (tCons (tCallSD (G .law_cell) [] (fun _ => E) (tCons (tVar 0) (tCons (tC (.int 1)) tNil))) (tCons (tC (.int 12)) (tCons (tC (.int 101)) tNil)))) tNil)) (gName 2)) (tSeq (tAsg (tCallSD (G .law_book) [] (fun _ => E) (tCons (tVar 1) tNil)) (gName 3)) (tSeq (tAsg tDNewK (gName 4)) (tSeq (tLock (tFor (iKeys (tVar 2)) (gName 5) (sDPut (tVar 4) (tVar 5) (tCB (rListA K) (tCons (tDGet (tVar 2) (tVar 5)) tNil))))) (tSeq (tAsg (tMakeS (He.ga K "Menu") (G .Menu_init) [] (fun _ => E) (tCons (tVar 3) (tCons (tVar 4) tNil))) (gName 6)) (tSeq (tLock (tFor (iKeys (tVar 2)) (gName 5) (tDrop (tBM K "list" rAppend (tDGet (tVar 4) (tVar 5)) (tCons (tC (.str ("none" : Str))) tNil))))) (tSeq (tAsg (tOp (rIx K) (tCallSD (G .law_entries) [] (fun _ => E) tNil) (tOp rModI (tCallSD (G .law_cell) [] (fun _ => E) (tCons (tVar 0) (tCons (tC (.int 2)) tNil))) (tC (.int 10)))) (gName 7)) (tSeq (sOwnPut (He.ga K "Book") (G .Book_setitem) (fun _ => E) (tVar 3) (tVar 7) (tOp (rIx K) (tCallSD (G .law_choices) [] (fun _ => E) (tCons (tVar 7) tNil)) (tOp rModI (tOp rFdivI (tCallSD (G .law_cell) [] (fun _ => E) (tCons (tVar 0) (tCons (tC (.int 2)) tNil))) (tC (.int 10))) (tC (.int 2))))) (tSeq (tAsg (tCallSD (G .law_menu_books) [] (fun _ => E) (tCons (tVar 1) (tCons (tVar 2) tNil))) (gName 8)) (tSeq (tFor (iRng1 (tCons (tC (.int 2)) tNil)) (gName 9) (tIfS (tTest (tOp (rNeLD K) (L2.MR.tLcR (L2.MR.iGmR (He.ga K "Menu") ("books" : Str) GG_Menu_books [] (tVar 6) tNil) (gName 10) tYes (tCallSD (G .law_read_book) [] (fun _ => E0) (tCons (tVar 10) tNil)) [10]) (tVar 8))) (tRet (tC (.bl false))) tNext)) (tSeq (tAsg (tCallSD (G .law_bent) [] (fun _ => E) (tCons (tOp (rIx K) (tVar 8) (tOp rModI (tCallSD (G .law_cell) [] (fun _ => E) (tCons (tVar 0) (tCons (tC (.int 3)) tNil))) (tCB (rLenA K) (tCons (tVar 8) tNil)))) (tCons (tCallSD (G .law_draws) [] (fun _ => E) (tCons (tCallSD (G .law_cell) [] (fun _ => E) (tCons (tVar 0) (tCons (tC (.int 4)) tNil))) (tCons (tC (.int 8)) (tCons (tC (.int 102)) tNil)))) tNil))) (gName 11)) (tSeq (tFor (iList K (tLst (tCons (tOp (rIx K) (tVar 8) (tOp rModI (tCallSD (G .law_cell) [] (fun _ => E) (tCons (tVar 0) (tCons (tC (.int 3)) tNil))) (tCB (rLenA K) (tCons (tVar 8) tNil)))) (tCons (tVar 11) (tCons (tVar 1) tNil))))) (gName 12) (tSeq (tAsg (tOp (rOwnIn (He.ga K "Menu") (G .Menu_contains)) (tCallSD (G .law_book) [] (fun _ => E) (tCons (tVar 12) tNil)) (tVar 6)) (gName 13)) (tIfS (tOr (tNot (tB (tCB (rIsi K) (tCons (tVar 13) (tCons (tC (.ty "bool")) tNil))))) (tTest (tOp (rNeA K) (tVar 13) (tOp (rInLD K) (tVar 12) (tVar 8))))) (tRet (tC (.bl false))) tNext))) (tSeq (tAsg (tLst (tCons (tDisp (((tC (.str ("jump" : Str))), (tLst (tCons (tC (.str ("stop" : Str))) tNil))) :: [])) (tCons (tDisp (((tC (.str ("write" : Str))), (tLst tNil)) :: [])) (tCons (tDisp (((tC (.str ("write" : Str))), (tLst (tCons (tC (.str ("drop" : Str))) tNil))) :: [])) (tCons (tDisp (((tC (.str ("meet" : Str))), (tLst (tCons (tC (.str ("raise" : Str))) (tCons (tC (.str ("raise" : Str))) tNil)))) :: [])) tNil))))) (gName 14)) (tSeq (tAsg (tOp (rAddA K) (tVar 14) (tLst (tCons (tDisp (((tC (.str ("path" : Str))), (tLst (tCons (tC (.str ("show" : Str))) (tCons (tC (.str ("Stop" : Str))) tNil)))) :: [])) tNil))) (gName 14)) (tSeq (tDrop (tBM K "list" rAppend (tVar 14) (tCons (tDisp (((tC (.str ("work" : Str))), (tCallSD (G .law_choices) [] (fun _ => E) (tCons (tC (.str ("work" : Str))) tNil))) :: (((tC (.str ("write" : Str))), (tCallSD (G .law_choices) [] (fun _ => E) (tCons (tC (.str ("write" : Str))) tNil))) :: (((tC (.str ("test" : Str))), (tLst (tCons (tC (.str ("raise" : Str))) (tCons (tC (.str ("stop" : Str))) tNil)))) :: [])))) tNil))) (tSeq (tIfS (tNot (tB (tCallSD (G .law_refused) [] (fun _ => E) (tCons (tVar 3) (tCons (tOp (rIx K) (tVar 14) (tOp rModI (tCallSD (G .law_cell) [] (fun _ => E) (tCons (tVar 0) (tCons (tC (.int 5)) tNil))) (tC (.int 6)))) tNil))))) (tRet (tC (.bl false))) tNext) (tSeq (tAsg (tDisp (((tC (.str ("work" : Str))), (tCallSD (G .law_choices) [] (fun _ => E) (tCons (tC (.str ("work" : Str))) tNil))) :: (((tC (.str ("loop" : Str))), (tCallSD (G .law_choices) [] (fun _ => E) (tCons (tC (.str ("loop" : Str))) tNil))) :: (((tC (.str ("meet" : Str))), (tCallSD (G .law_choices) [] (fun _ => E) (tCons (tC (.str ("meet" : Str))) tNil))) :: [])))) (gName 15)) (tRet (tAndV (tOp (rEqA K) (tCB (rLenA K) (tCons (L2.MR.tLcR (L2.MR.iGmR (He.ga K "Menu") ("books" : Str) GG_Menu_books [] (tMakeS (He.ga K "Menu") (G .Menu_init) [] (fun _ => E) (tCons (tVar 3) (tCons (tVar 15) tNil))) tNil) (gName 10) tYes (tVar 10) [10]) tNil)) (tC (.int 24))) (tOp (rEqA K) (tCB (rLenA K) (tCons (L2.MR.tLcR (L2.MR.iGmR (He.ga K "Menu") ("books" : Str) GG_Menu_books [] (tMakeS (He.ga K "Menu") (G .Menu_init) [] (fun _ => E) (tCons (tVar 3) (tCons tDNewK tNil))) tNil) (gName 10) tYes (tVar 10) [10]) tNil)) (tC (.int 1)))))))))))))))))))))))
end
def spG_Menu_books (K : PySem.W.Frag) (W : World) (G : Gm) : List V → It → Nat → (Hp → Hp → Prop) → Prop := fun vs J M R => vs.length = 1 ∧ (∀ i H x H1, J.yld i H x H1 → Ex H H1) ∧ (∀ i H, J.go i H → J.stop i H → False) ∧ ∀ H, (J.go 0 H ∨ J.stop 0 H) → rdG_Menu_books K G J M R (L2.MR.endD J) 0 H (start N_Menu_books vs) H
mutual
def Gam (K : PySem.W.Frag) (W : World) : Nat → Gm
  | 0 => fun _ _ _ _ _ => False
  | k + 1 => fun f => match f with
    | .Book_init => fun vs H Q E => vs.length = 11 ∧ rd_Book_init K W E { nx := fun _ H' => Q .non H', rt := Q } (start N_Book_init vs) H
    | .Book_getitem => fun vs H Q E => vs.length = 2 ∧ rd_Book_getitem K E { nx := fun _ H' => Q .non H', rt := Q } (start N_Book_getitem vs) H
    | .Book_setitem => fun vs H Q E => vs.length = 3 ∧ rd_Book_setitem K W E { nx := fun _ H' => Q .non H', rt := Q } (start N_Book_setitem vs) H
    | .Book_copied => fun vs H Q E => vs.length = 1 ∧ rd_Book_copied K (Gam K W k) E { nx := fun _ H' => Q .non H', rt := Q } (start N_Book_copied vs) H
    | .Menu_init => fun vs H Q E => vs.length = 3 ∧ rd_Menu_init K W (Gam K W k) E { nx := fun _ H' => Q .non H', rt := Q } (start N_Menu_init vs) H
    | .Menu_contains => fun vs H Q E => vs.length = 2 ∧ rd_Menu_contains K (Gam K W k) E { nx := fun _ H' => Q .non H', rt := Q } (start N_Menu_contains vs) H
    | .Menu_numbered => fun vs H Q E => vs.length = 2 ∧ rd_Menu_numbered K (Gam K W k) E { nx := fun _ H' => Q .non H', rt := Q } (start N_Menu_numbered vs) H
    | .Menu_books => fun _ _ _ _ => False
    | .law_cell => fun vs H Q E => vs.length = 2 ∧ rd_law_cell K { nx := fun _ H' => Q .non H', rt := Q } (start N_law_cell vs) H
    | .law_draws => fun vs H Q E => vs.length = 3 ∧ rd_law_draws K { nx := fun _ H' => Q .non H', rt := Q } (start N_law_draws vs) H
    | .law_entries => fun vs H Q E => vs.length = 0 ∧ rd_law_entries  { nx := fun _ H' => Q .non H', rt := Q } (start N_law_entries vs) H
    | .law_choices => fun vs H Q E => vs.length = 1 ∧ rd_law_choices  { nx := fun _ H' => Q .non H', rt := Q } (start N_law_choices vs) H
    | .law_picks => fun vs H Q E => vs.length = 1 ∧ rd_law_picks K (Gam K W k) E { nx := fun _ H' => Q .non H', rt := Q } (start N_law_picks vs) H
    | .law_book => fun vs H Q E => vs.length = 1 ∧ rd_law_book K (Gam K W k) E { nx := fun _ H' => Q .non H', rt := Q } (start N_law_book vs) H
    | .law_options => fun vs H Q E => vs.length = 1 ∧ rd_law_options K (Gam K W k) E { nx := fun _ H' => Q .non H', rt := Q } (start N_law_options vs) H
    | .law_menu_books => fun vs H Q E => vs.length = 2 ∧ rd_law_menu_books K (Gam K W k) E { nx := fun _ H' => Q .non H', rt := Q } (start N_law_menu_books vs) H
    | .law_read_book => fun vs H Q E => vs.length = 1 ∧ rd_law_read_book K (Gam K W k) E { nx := fun _ H' => Q .non H', rt := Q } (start N_law_read_book vs) H
    | .law_bent => fun vs H Q E => vs.length = 2 ∧ rd_law_bent K (Gam K W k) E { nx := fun _ H' => Q .non H', rt := Q } (start N_law_bent vs) H
    | .law_refused => fun vs H Q E => vs.length = 2 ∧ rd_law_refused K (Gam K W k) E { nx := fun _ H' => Q .non H', rt := Q } (start N_law_refused vs) H
    | .law => fun vs H Q E => vs.length = 1 ∧ rd_law K (Gam K W k) E (GamG_Menu_books K W k) { nx := fun _ H' => Q .non H', rt := Q } (start N_law vs) H
termination_by structural n => n
def GamG_Menu_books (K : PySem.W.Frag) (W : World) : Nat → List V → It → Nat → (Hp → Hp → Prop) → Prop
  | 0 => fun _ _ _ _ => False
  | k + 1 => spG_Menu_books K W (Gam K W k)
termination_by structural n => n
end
def lev (k : Nat) : Nat := 2 * k
abbrev AllOk (P : Program) (w : World) (K : PySem.W.Frag) (mg : Str → Option Value) (base : Heap) (k : Nat) : Prop := ∀ f, FnOk P w K mg base (L2.CX P w) (lev k) ((dm f).adr K) (fdAt K ((dm f).adr K)) (ps f) (Gam K w k f)
abbrev GR_Menu_books (w : World) (K : PySem.W.Frag) (mg : Str → Option Value) (base : Heap) (k : Nat) : Prop := L2.MR.GFnW prog w K mg base (2 * k + 1) ((dm .Menu_books).adr K) (fdAt K ((dm .Menu_books).adr K)) (ps .Menu_books) (GamG_Menu_books K w k)
/-! ### the facts -/
class TxtK (K : PySem.W.Frag) : Prop where
  f_Book_init : FunM K (dm .Book_init)
  f_Book_getitem : FunM K (dm .Book_getitem)
  f_Book_setitem : FunM K (dm .Book_setitem)
  f_Book_copied : FunM K (dm .Book_copied)
  f_Menu_init : FunM K (dm .Menu_init)
  f_Menu_contains : FunM K (dm .Menu_contains)
  f_Menu_numbered : FunM K (dm .Menu_numbered)
  f_Menu_books : FunM K (dm .Menu_books)
  f_law_cell : FunM K (dm .law_cell)
  f_law_draws : FunM K (dm .law_draws)
  f_law_entries : FunM K (dm .law_entries)
  f_law_choices : FunM K (dm .law_choices)
  f_law_picks : FunM K (dm .law_picks)
  f_law_book : FunM K (dm .law_book)
  f_law_options : FunM K (dm .law_options)
  f_law_menu_books : FunM K (dm .law_menu_books)
  f_law_read_book : FunM K (dm .law_read_book)
  f_law_bent : FunM K (dm .law_bent)
  f_law_refused : FunM K (dm .law_refused)
  f_law : FunM K (dm .law)
  b_Book_copied_1 : Binds K (fdAt K ((dm .Book_copied).adr K)) (ps .Book_copied) []
  b_Book_getitem_2 : Binds K (fdAt K ((dm .Book_getitem).adr K)) (ps .Book_getitem) []
  b_Book_init_1 : ∃ ds, Vals [V.str ("join" : Str), V.str ("stop" : Str), V.str ("raise" : Str), V.str ("stop" : Str), V.str ("stop" : Str), V.str ("stop" : Str), V.str ("stop" : Str), V.str ("stop" : Str), V.str ("stop" : Str), V.str ("stop" : Str)] ds ∧ Binds K (fdAt K ((dm .Book_init).adr K)) (ps .Book_init) ds
  b_Book_setitem_3 : Binds K (fdAt K ((dm .Book_setitem).adr K)) (ps .Book_setitem) []
  b_Menu_books_1 : Binds K (fdAt K ((dm .Menu_books).adr K)) (ps .Menu_books) []
  b_Menu_contains_2 : Binds K (fdAt K ((dm .Menu_contains).adr K)) (ps .Menu_contains) []
  b_Menu_init_3 : Binds K (fdAt K ((dm .Menu_init).adr K)) (ps .Menu_init) []
  b_Menu_numbered_2 : Binds K (fdAt K ((dm .Menu_numbered).adr K)) (ps .Menu_numbered) []
  b_law_bent_2 : Binds K (fdAt K ((dm .law_bent).adr K)) (ps .law_bent) []
  b_law_book_1 : Binds K (fdAt K ((dm .law_book).adr K)) (ps .law_book) []
  b_law_cell_2 : Binds K (fdAt K ((dm .law_cell).adr K)) (ps .law_cell) []
  b_law_choices_1 : Binds K (fdAt K ((dm .law_choices).adr K)) (ps .law_choices) []
  b_law_draws_3 : Binds K (fdAt K ((dm .law_draws).adr K)) (ps .law_draws) []
  b_law_entries_0 : Binds K (fdAt K ((dm .law_entries).adr K)) (ps .law_entries) []
  b_law_menu_books_2 : Binds K (fdAt K ((dm .law_menu_books).adr K)) (ps .law_menu_books) []
  b_law_options_1 : Binds K (fdAt K ((dm .law_options).adr K)) (ps .law_options) []
  b_law_picks_1 : Binds K (fdAt K ((dm .law_picks).adr K)) (ps .law_picks) []
  b_law_read_book_1 : Binds K (fdAt K ((dm .law_read_book).adr K)) (ps .law_read_book) []
  b_law_refused_2 : Binds K (fdAt K ((dm .law_refused).adr K)) (ps .law_refused) []
  kb_Book_init_0 : ∃ g, KBn K (fdAt K ((dm .Book_init).adr K)) (ps .Book_init) 1 [("work" : Str), ("write" : Str), ("meet" : Str), ("test" : Str), ("partly" : Str), ("value" : Str), ("path" : Str), ("loop" : Str), ("guard" : Str), ("call" : Str)] g gv_Book_init_0
  mk_Menu : Mk K (He.ga K ("Menu" : Str)) (He.ma K (He.ga K ("Menu" : Str)) "__init__")
  ns_Book : PySem.W.noSeq K (He.ga K "Book") = true
  sp_Book_setitem : Spc K (He.ga K ("Book" : Str)) ("__setitem__" : Str) (He.ma K (He.ga K ("Book" : Str)) ("__setitem__" : Str))
  c_Menu : Cls K (He.ga K ("Menu" : Str))
  me_Menu_books : Meth K (He.ga K ("Menu" : Str)) ("books" : Str) (He.ma K (He.ga K ("Menu" : Str)) ("books" : Str))
  sp_Menu_contains : Spc K (He.ga K ("Menu" : Str)) ("__contains__" : Str) (He.ma K (He.ga K ("Menu" : Str)) ("__contains__" : Str))
  x_InvalidBook : PySem.W.excIn K (He.ga K ("InvalidBook" : Str)) He.veBase "ValueError.__new__" = true ∧ PySem.W.keepIn K (.ref (He.ga K ("InvalidBook" : Str))) = true ∧ PySem.W.subIn K (.ref (He.ga K ("InvalidBook" : Str))) (.type "BaseException") = some true ∧ PySem.W.typeIn K (.ref (He.ga K ("InvalidBook" : Str))) = some (.type "type")
  c_Book : Cls K (He.ga K ("Book" : Str))
  me_Book_copied : Meth K (He.ga K ("Book" : Str)) ("copied" : Str) (He.ma K (He.ga K ("Book" : Str)) ("copied" : Str))
  x_InvalidInput : PySem.W.excIn K (He.ga K ("InvalidInput" : Str)) He.veBase "ValueError.__new__" = true ∧ PySem.W.keepIn K (.ref (He.ga K ("InvalidInput" : Str))) = true ∧ PySem.W.subIn K (.ref (He.ga K ("InvalidInput" : Str))) (.type "BaseException") = some true ∧ PySem.W.typeIn K (.ref (He.ga K ("InvalidInput" : Str))) = some (.type "type")
  sp_Book_getitem : Spc K (He.ga K ("Book" : Str)) ("__getitem__" : Str) (He.ma K (He.ga K ("Book" : Str)) ("__getitem__" : Str))
  fi_Book_getitem : PySem.W.fnIn K (He.ma K (He.ga K "Book") "__getitem__") = true
  me_Menu_numbered : Meth K (He.ga K ("Menu" : Str)) ("numbered" : Str) (He.ma K (He.ga K ("Menu" : Str)) ("numbered" : Str))
  mk_Book : Mk K (He.ga K ("Book" : Str)) (He.ma K (He.ga K ("Book" : Str)) "__init__")
  ec_InvalidInput : ExcC K (He.ga K ("InvalidInput" : Str))
  xm_InvalidBook_InvalidInput : PySem.W.exmOne K (.ref (He.ga K ("InvalidBook" : Str))) (.ref (He.ga K ("InvalidInput" : Str))) = some false
  xm_InvalidInput_InvalidInput : PySem.W.exmOne K (.ref (He.ga K ("InvalidInput" : Str))) (.ref (He.ga K ("InvalidInput" : Str))) = some true
  bk_ent : entB K = true
  bk_ch : chB K = true
  na_Book_held : NoAttr K (He.ga K ("Book" : Str)) ("held" : Str)
  is_Book : IsiC K (He.ga K ("Book" : Str))
  na_Menu_base : NoAttr K (He.ga K ("Menu" : Str)) ("base" : Str)
  na_Menu_entries : NoAttr K (He.ga K ("Menu" : Str)) ("entries" : Str)
  na_Menu_options : NoAttr K (He.ga K ("Menu" : Str)) ("options" : Str)
  na_Menu_count : NoAttr K (He.ga K ("Menu" : Str)) ("count" : Str)
  is_Menu : IsiC K (He.ga K ("Menu" : Str))
  kit_InvalidInput_ValueError : PySem.W.kitOne K (.ref (He.ga K ("InvalidInput" : Str))) (.type "ValueError") = some true
structure Txt (K : PySem.W.Frag) (w : World) (mg : Str → Option Value) : Prop where
  k : TxtK K
  kd : BookW K w
  g_law : mg ("law" : Str) = some (.ref (He.ga K ("law" : Str)))
  g_law_picks : mg ("_law_picks" : Str) = some (.ref (He.ga K ("_law_picks" : Str)))
  g_law_draws : mg ("_law_draws" : Str) = some (.ref (He.ga K ("_law_draws" : Str)))
  g_law_cell : mg ("_law_cell" : Str) = some (.ref (He.ga K ("_law_cell" : Str)))
  g_law_options : mg ("_law_options" : Str) = some (.ref (He.ga K ("_law_options" : Str)))
  g_law_book : mg ("_law_book" : Str) = some (.ref (He.ga K ("_law_book" : Str)))
  z_list : mg ("list" : Str) = none
  g_Menu : mg ("Menu" : Str) = some (.ref (He.ga K ("Menu" : Str)))
  g_law_entries : mg ("_law_entries" : Str) = some (.ref (He.ga K ("_law_entries" : Str)))
  g_law_choices : mg ("_law_choices" : Str) = some (.ref (He.ga K ("_law_choices" : Str)))
  g_law_menu_books : mg ("_law_menu_books" : Str) = some (.ref (He.ga K ("_law_menu_books" : Str)))
  z_range : mg ("range" : Str) = none
  g_law_read_book : mg ("_law_read_book" : Str) = some (.ref (He.ga K ("_law_read_book" : Str)))
  g_law_bent : mg ("_law_bent" : Str) = some (.ref (He.ga K ("_law_bent" : Str)))
  z_len : mg ("len" : Str) = none
  z_bool : mg ("bool" : Str) = none
  z_isinstance : mg ("isinstance" : Str) = none
  g_law_refused : mg ("_law_refused" : Str) = some (.ref (He.ga K ("_law_refused" : Str)))
  g_ENTRIES : mg ("ENTRIES" : Str) = some (.ref (He.ga K ("ENTRIES" : Str)))
  g_CHOICES : mg ("CHOICES" : Str) = some (.ref (He.ga K ("CHOICES" : Str)))
  g_InvalidBook : mg ("InvalidBook" : Str) = some (.ref (He.ga K ("InvalidBook" : Str)))
  g_InvalidInput : mg ("InvalidInput" : Str) = some (.ref (He.ga K ("InvalidInput" : Str)))
  n_MOST_BOOKS : ∃ t, mg ("MOST_BOOKS" : Str) = some (.int 24 t)
  z_abs : mg ("abs" : Str) = none
  z_int : mg ("int" : Str) = none
  g_Book : mg ("Book" : Str) = some (.ref (He.ga K ("Book" : Str)))
  z_dict : mg ("dict" : Str) = none
  z_ValueError : mg ("ValueError" : Str) = none
  z_reversed : mg ("reversed" : Str) = none
def ixOf : Fn → Nat
  | .Book_init => 0
  | .Book_getitem => 1
  | .Book_setitem => 2
  | .Book_copied => 3
  | .Menu_init => 4
  | .Menu_contains => 5
  | .Menu_numbered => 6
  | .Menu_books => 7
  | .law_cell => 8
  | .law_draws => 9
  | .law_entries => 10
  | .law_choices => 11
  | .law_picks => 12
  | .law_book => 13
  | .law_options => 14
  | .law_menu_books => 15
  | .law_read_book => 16
  | .law_bent => 17
  | .law_refused => 18
  | .law => 19
theorem fun_of {w : World} {K : PySem.W.Frag} (c : SaysM fnl exb tbs w K) (f : Fn) (hfr : (dm f).fr = []) : FunM K (dm f) := c.fun (ixOf f) hfr (by cases f <;> rfl)
theorem fun_ofC {w : World} {K : PySem.W.Frag} (c : SaysM fnl exb tbs w K) (f : Fn) (hfr : (dm f).fr = [("__class__" : Str)]) (hdf : (dm f).dfl = []) : FunMC K (dm f) := c.funC (ixOf f) hfr hdf (by cases f <;> rfl)
theorem kbp_Book_init_0 {K : PySem.W.Frag} (F : FunM K (dm .Book_init)) : ∃ g, KBn K (fdAt K ((dm .Book_init).adr K)) (ps .Book_init) 1 [("work" : Str), ("write" : Str), ("meet" : Str), ("test" : Str), ("partly" : Str), ("value" : Str), ("path" : Str), ("loop" : Str), ("guard" : Str), ("call" : Str)] g gv_Book_init_0 := by
  obtain ⟨mv, h⟩ := FunD.kbinds0 F 1 [("work" : Str), ("write" : Str), ("meet" : Str), ("test" : Str), ("partly" : Str), ("value" : Str), ("path" : Str), ("loop" : Str), ("guard" : Str), ("call" : Str)] [] gg_Book_init_0 (fun z => by cases z) (fun q hq => by cases hq) (fun r1 r2 r3 => Vals.append r1 (Vals.append (Vals.take 1 (Vals.drop 0 r3)) (Vals.append (Vals.take 1 (Vals.drop 1 r3)) (Vals.append (Vals.take 1 (Vals.drop 2 r3)) (Vals.append (Vals.take 1 (Vals.drop 3 r3)) (Vals.append (Vals.take 1 (Vals.drop 4 r3)) (Vals.append (Vals.take 1 (Vals.drop 5 r3)) (Vals.append (Vals.take 1 (Vals.drop 6 r3)) (Vals.append (Vals.take 1 (Vals.drop 7 r3)) (Vals.append (Vals.take 1 (Vals.drop 8 r3)) (Vals.append (Vals.take 1 (Vals.drop 9 r3)) .nil)))))))))))
    (fun _ _ _ _ _ _ us mv ws h1 h2 h3 => match us, mv, ws, h1, h2, h3 with | [_], [], [_, _, _, _, _, _, _, _, _, _], _, _, _ => (by show _ = _; kernel_rfl))
  exact ⟨_, h⟩
theorem txtK_of {w : World} {K : PySem.W.Frag} (c : SaysM fnl exb tbs w K) : TxtK K := by
  have F := fun_of c
  have FC := fun_ofC c
  have m := c.more
  exact {
    f_Book_init := F .Book_init rfl,
    f_Book_getitem := F .Book_getitem rfl,
    f_Book_setitem := F .Book_setitem rfl,
    f_Book_copied := F .Book_copied rfl,
    f_Menu_init := F .Menu_init rfl,
    f_Menu_contains := F .Menu_contains rfl,
    f_Menu_numbered := F .Menu_numbered rfl,
    f_Menu_books := F .Menu_books rfl,
    f_law_cell := F .law_cell rfl,
    f_law_draws := F .law_draws rfl,
    f_law_entries := F .law_entries rfl,
    f_law_choices := F .law_choices rfl,
    f_law_picks := F .law_picks rfl,
    f_law_book := F .law_book rfl,
    f_law_options := F .law_options rfl,
    f_law_menu_books := F .law_menu_books rfl,
    f_law_read_book := F .law_read_book rfl,
    f_law_bent := F .law_bent rfl,
    f_law_refused := F .law_refused rfl,
    f_law := F .law rfl,
    b_Book_copied_1 := FunD.bindsN (F .Book_copied rfl) fun _ _ _ _ _ _ us hl => match us, hl with | [_], _ => rfl,
    b_Book_getitem_2 := FunD.bindsN (F .Book_getitem rfl) fun _ _ _ _ _ _ us hl => match us, hl with | [_, _], _ => rfl,
    b_Book_init_1 := FunD.binds0 (F .Book_init rfl) 1 (fun z => by cases z) rfl (fun _ _ _ _ _ _ us ks hl hl2 => match us, ks, hl, hl2 with | [_], [_, _, _, _, _, _, _, _, _, _], _, _ => ⟨_, _, _, _, _, _, rfl, rfl, ⟨_, _, _, _, _, _, rfl, rfl, ⟨_, _, _, _, _, _, rfl, rfl, ⟨_, _, _, _, _, _, rfl, rfl, ⟨_, _, _, _, _, _, rfl, rfl, ⟨_, _, _, _, _, _, rfl, rfl, ⟨_, _, _, _, _, _, rfl, rfl, ⟨_, _, _, _, _, _, rfl, rfl, ⟨_, _, _, _, _, _, rfl, rfl, ⟨_, _, _, _, _, _, rfl, rfl, rfl⟩⟩⟩⟩⟩⟩⟩⟩⟩⟩),
    b_Book_setitem_3 := FunD.bindsN (F .Book_setitem rfl) fun _ _ _ _ _ _ us hl => match us, hl with | [_, _, _], _ => rfl,
    b_Menu_books_1 := FunD.bindsN (F .Menu_books rfl) fun _ _ _ _ _ _ us hl => match us, hl with | [_], _ => rfl,
    b_Menu_contains_2 := FunD.bindsN (F .Menu_contains rfl) fun _ _ _ _ _ _ us hl => match us, hl with | [_, _], _ => rfl,
    b_Menu_init_3 := FunD.bindsN (F .Menu_init rfl) fun _ _ _ _ _ _ us hl => match us, hl with | [_, _, _], _ => rfl,
    b_Menu_numbered_2 := FunD.bindsN (F .Menu_numbered rfl) fun _ _ _ _ _ _ us hl => match us, hl with | [_, _], _ => rfl,
    b_law_bent_2 := FunD.bindsN (F .law_bent rfl) fun _ _ _ _ _ _ us hl => match us, hl with | [_, _], _ => rfl,
    b_law_book_1 := FunD.bindsN (F .law_book rfl) fun _ _ _ _ _ _ us hl => match us, hl with | [_], _ => rfl,
    b_law_cell_2 := FunD.bindsN (F .law_cell rfl) fun _ _ _ _ _ _ us hl => match us, hl with | [_, _], _ => rfl,
    b_law_choices_1 := FunD.bindsN (F .law_choices rfl) fun _ _ _ _ _ _ us hl => match us, hl with | [_], _ => rfl,
    b_law_draws_3 := FunD.bindsN (F .law_draws rfl) fun _ _ _ _ _ _ us hl => match us, hl with | [_, _, _], _ => rfl,
    b_law_entries_0 := FunD.bindsN (F .law_entries rfl) fun _ _ _ _ _ _ us hl => match us, hl with | [], _ => rfl,
    b_law_menu_books_2 := FunD.bindsN (F .law_menu_books rfl) fun _ _ _ _ _ _ us hl => match us, hl with | [_, _], _ => rfl,
    b_law_options_1 := FunD.bindsN (F .law_options rfl) fun _ _ _ _ _ _ us hl => match us, hl with | [_], _ => rfl,
    b_law_picks_1 := FunD.bindsN (F .law_picks rfl) fun _ _ _ _ _ _ us hl => match us, hl with | [_], _ => rfl,
    b_law_read_book_1 := FunD.bindsN (F .law_read_book rfl) fun _ _ _ _ _ _ us hl => match us, hl with | [_], _ => rfl,
    b_law_refused_2 := FunD.bindsN (F .law_refused rfl) fun _ _ _ _ _ _ us hl => match us, hl with | [_, _], _ => rfl,
    kb_Book_init_0 := kbp_Book_init_0 (F .Book_init rfl),
    mk_Menu := He.mkr_ok (fact_of m 8),
    ns_Book := (fact_of m 11),
    sp_Book_setitem := spcB_ok (fact_of m 12),
    c_Menu := He.cls_ok (fact_of m 15),
    me_Menu_books := He.meth_ok (fact_of m 16),
    sp_Menu_contains := spcB_ok (fact_of m 20),
    x_InvalidBook := excM_ok (fact_of m 26),
    c_Book := He.cls_ok (fact_of m 28),
    me_Book_copied := He.meth_ok (fact_of m 29),
    x_InvalidInput := excM_ok (fact_of m 30),
    sp_Book_getitem := spcB_ok (fact_of m 33),
    fi_Book_getitem := (fact_of m 34),
    me_Menu_numbered := He.meth_ok (fact_of m 35),
    mk_Book := He.mkr_ok (fact_of m 39),
    ec_InvalidInput := excCB_ok (fact_of m 41),
    xm_InvalidBook_InvalidInput := He.exm_ok (fact_of m 44),
    xm_InvalidInput_InvalidInput := He.exm_ok (fact_of m 45),
    bk_ent := (fact_of m 46),
    bk_ch := (fact_of m 47),
    na_Book_held := He.noat_ok (fact_of m 48),
    is_Book := isiB_ok (He.cls_ok (fact_of m 28)) (fact_of m 49),
    na_Menu_base := He.noat_ok (fact_of m 50),
    na_Menu_entries := He.noat_ok (fact_of m 51),
    na_Menu_options := He.noat_ok (fact_of m 52),
    na_Menu_count := He.noat_ok (fact_of m 53),
    is_Menu := isiB_ok (He.cls_ok (fact_of m 15)) (fact_of m 54),
    kit_InvalidInput_ValueError := of_decide_eq_true (fact_of m 55)
  }
theorem txt_of {w : World} {K : PySem.W.Frag} {h : Heap} {mg : Str → Option Value} (X : K.In h) (Gn : h.Ns mainGlobals mg) (c : SaysM fnl exb tbs w K) : Txt K w mg := by
  have m := c.more
  exact {
    k := txtK_of c,
    kd := ⟨c.tab 0⟩,
    g_law := He.glo_ok X Gn (fact_of m 0),
    g_law_picks := He.glo_ok X Gn (fact_of m 1),
    g_law_draws := He.glo_ok X Gn (fact_of m 2),
    g_law_cell := He.glo_ok X Gn (fact_of m 3),
    g_law_options := He.glo_ok X Gn (fact_of m 4),
    g_law_book := He.glo_ok X Gn (fact_of m 5),
    z_list := He.free_ok X Gn (fact_of m 6),
    g_Menu := He.glo_ok X Gn (fact_of m 7),
    g_law_entries := He.glo_ok X Gn (fact_of m 9),
    g_law_choices := He.glo_ok X Gn (fact_of m 10),
    g_law_menu_books := He.glo_ok X Gn (fact_of m 13),
    z_range := He.free_ok X Gn (fact_of m 14),
    g_law_read_book := He.glo_ok X Gn (fact_of m 17),
    g_law_bent := He.glo_ok X Gn (fact_of m 18),
    z_len := He.free_ok X Gn (fact_of m 19),
    z_bool := He.free_ok X Gn (fact_of m 21),
    z_isinstance := He.free_ok X Gn (fact_of m 22),
    g_law_refused := He.glo_ok X Gn (fact_of m 23),
    g_ENTRIES := He.glo_ok X Gn (fact_of m 24),
    g_CHOICES := He.glo_ok X Gn (fact_of m 25),
    g_InvalidBook := He.glo_ok X Gn (fact_of m 27),
    g_InvalidInput := He.glo_ok X Gn (fact_of m 31),
    n_MOST_BOOKS := He.int_ok X Gn (fact_of m 32),
    z_abs := He.free_ok X Gn (fact_of m 36),
    z_int := He.free_ok X Gn (fact_of m 37),
    g_Book := He.glo_ok X Gn (fact_of m 38),
    z_dict := He.free_ok X Gn (fact_of m 40),
    z_ValueError := He.free_ok X Gn (fact_of m 42),
    z_reversed := He.free_ok X Gn (fact_of m 43)
  }
/-! ### instances: attributes, isinstance -/
section
variable {K : PySem.W.Frag} [TxtK K]
instance : BookK K := ⟨TxtK.bk_ent, TxtK.bk_ch⟩
instance : HasF K (He.ga K ("Book" : Str)) ("held" : Str) := ⟨TxtK.c_Book, TxtK.na_Book_held⟩
instance : IsiC K (He.ga K ("Book" : Str)) := TxtK.is_Book
instance : HasF K (He.ga K ("Menu" : Str)) ("base" : Str) := ⟨TxtK.c_Menu, TxtK.na_Menu_base⟩
instance : HasF K (He.ga K ("Menu" : Str)) ("entries" : Str) := ⟨TxtK.c_Menu, TxtK.na_Menu_entries⟩
instance : HasF K (He.ga K ("Menu" : Str)) ("options" : Str) := ⟨TxtK.c_Menu, TxtK.na_Menu_options⟩
instance : HasF K (He.ga K ("Menu" : Str)) ("count" : Str) := ⟨TxtK.c_Menu, TxtK.na_Menu_count⟩
instance : IsiC K (He.ga K ("Menu" : Str)) := TxtK.is_Menu
instance : LkN [] ("books" : Str) := ⟨lkN0⟩
instance : LkN [] ("copied" : Str) := ⟨lkN0⟩
instance : LkN [] ("numbered" : Str) := ⟨lkN0⟩
def fs_Book (v0 : V) : List (Str × V) := [(("held" : Str), v0)]
instance {v0 : V} : Lk (fs_Book v0) ("held" : Str) v0 := ⟨lk0⟩
instance {v0 : V} : LkN (fs_Book v0) ("copied" : Str) := ⟨(lkNS (by decide +kernel) lkN0)⟩
instance {u : V} {v0 : V} : Pf ("held" : Str) u (fs_Book v0) (fs_Book u) := ⟨pfE, by show 1 < 1000; decide⟩
instance {u : V}  : Pf ("held" : Str) u [] (fs_Book u) := ⟨pf0, by show 0 < 1000; decide⟩
def fs_Menu_1 (v0 : V) : List (Str × V) := [(("base" : Str), v0)]
instance {v0 : V} : Lk (fs_Menu_1 v0) ("base" : Str) v0 := ⟨lk0⟩
instance {v0 : V} : LkN (fs_Menu_1 v0) ("books" : Str) := ⟨(lkNS (by decide +kernel) lkN0)⟩
instance {v0 : V} : LkN (fs_Menu_1 v0) ("numbered" : Str) := ⟨(lkNS (by decide +kernel) lkN0)⟩
instance {u : V} {v0 : V} : Pf ("base" : Str) u (fs_Menu_1 v0) (fs_Menu_1 u) := ⟨pfE, by show 1 < 1000; decide⟩
instance {u : V}  : Pf ("base" : Str) u [] (fs_Menu_1 u) := ⟨pf0, by show 0 < 1000; decide⟩
def fs_Menu_2 (v0 v1 : V) : List (Str × V) := [(("base" : Str), v0), (("entries" : Str), v1)]
instance {v0 v1 : V} : Lk (fs_Menu_2 v0 v1) ("base" : Str) v0 := ⟨lk0⟩
instance {v0 v1 : V} : Lk (fs_Menu_2 v0 v1) ("entries" : Str) v1 := ⟨(lkS (by decide +kernel) lk0)⟩
instance {v0 v1 : V} : LkN (fs_Menu_2 v0 v1) ("books" : Str) := ⟨(lkNS (by decide +kernel) (lkNS (by decide +kernel) lkN0))⟩
instance {v0 v1 : V} : LkN (fs_Menu_2 v0 v1) ("numbered" : Str) := ⟨(lkNS (by decide +kernel) (lkNS (by decide +kernel) lkN0))⟩
instance {u : V} {v0 v1 : V} : Pf ("base" : Str) u (fs_Menu_2 v0 v1) (fs_Menu_2 u v1) := ⟨pfE, by show 2 < 1000; decide⟩
instance {u : V} {v0 v1 : V} : Pf ("entries" : Str) u (fs_Menu_2 v0 v1) (fs_Menu_2 v0 u) := ⟨(pfS (by decide +kernel) pfE), by show 2 < 1000; decide⟩
instance {u : V} {v0 : V} : Pf ("entries" : Str) u (fs_Menu_1 v0) (fs_Menu_2 v0 u) := ⟨(pfS (by decide +kernel) pf0), by show 1 < 1000; decide⟩
def fs_Menu_3 (v0 v1 v2 : V) : List (Str × V) := [(("base" : Str), v0), (("entries" : Str), v1), (("options" : Str), v2)]
instance {v0 v1 v2 : V} : Lk (fs_Menu_3 v0 v1 v2) ("base" : Str) v0 := ⟨lk0⟩
instance {v0 v1 v2 : V} : Lk (fs_Menu_3 v0 v1 v2) ("entries" : Str) v1 := ⟨(lkS (by decide +kernel) lk0)⟩
instance {v0 v1 v2 : V} : Lk (fs_Menu_3 v0 v1 v2) ("options" : Str) v2 := ⟨(lkS (by decide +kernel) (lkS (by decide +kernel) lk0))⟩
instance {v0 v1 v2 : V} : LkN (fs_Menu_3 v0 v1 v2) ("books" : Str) := ⟨(lkNS (by decide +kernel) (lkNS (by decide +kernel) (lkNS (by decide +kernel) lkN0)))⟩
instance {v0 v1 v2 : V} : LkN (fs_Menu_3 v0 v1 v2) ("numbered" : Str) := ⟨(lkNS (by decide +kernel) (lkNS (by decide +kernel) (lkNS (by decide +kernel) lkN0)))⟩
instance {u : V} {v0 v1 v2 : V} : Pf ("base" : Str) u (fs_Menu_3 v0 v1 v2) (fs_Menu_3 u v1 v2) := ⟨pfE, by show 3 < 1000; decide⟩
instance {u : V} {v0 v1 v2 : V} : Pf ("entries" : Str) u (fs_Menu_3 v0 v1 v2) (fs_Menu_3 v0 u v2) := ⟨(pfS (by decide +kernel) pfE), by show 3 < 1000; decide⟩
instance {u : V} {v0 v1 v2 : V} : Pf ("options" : Str) u (fs_Menu_3 v0 v1 v2) (fs_Menu_3 v0 v1 u) := ⟨(pfS (by decide +kernel) (pfS (by decide +kernel) pfE)), by show 3 < 1000; decide⟩
instance {u : V} {v0 v1 : V} : Pf ("options" : Str) u (fs_Menu_2 v0 v1) (fs_Menu_3 v0 v1 u) := ⟨(pfS (by decide +kernel) (pfS (by decide +kernel) pf0)), by show 2 < 1000; decide⟩
def fs_Menu (v0 v1 v2 v3 : V) : List (Str × V) := [(("base" : Str), v0), (("entries" : Str), v1), (("options" : Str), v2), (("count" : Str), v3)]
instance {v0 v1 v2 v3 : V} : Lk (fs_Menu v0 v1 v2 v3) ("base" : Str) v0 := ⟨lk0⟩
instance {v0 v1 v2 v3 : V} : Lk (fs_Menu v0 v1 v2 v3) ("entries" : Str) v1 := ⟨(lkS (by decide +kernel) lk0)⟩
instance {v0 v1 v2 v3 : V} : Lk (fs_Menu v0 v1 v2 v3) ("options" : Str) v2 := ⟨(lkS (by decide +kernel) (lkS (by decide +kernel) lk0))⟩
instance {v0 v1 v2 v3 : V} : Lk (fs_Menu v0 v1 v2 v3) ("count" : Str) v3 := ⟨(lkS (by decide +kernel) (lkS (by decide +kernel) (lkS (by decide +kernel) lk0)))⟩
instance {v0 v1 v2 v3 : V} : LkN (fs_Menu v0 v1 v2 v3) ("books" : Str) := ⟨(lkNS (by decide +kernel) (lkNS (by decide +kernel) (lkNS (by decide +kernel) (lkNS (by decide +kernel) lkN0))))⟩
instance {v0 v1 v2 v3 : V} : LkN (fs_Menu v0 v1 v2 v3) ("numbered" : Str) := ⟨(lkNS (by decide +kernel) (lkNS (by decide +kernel) (lkNS (by decide +kernel) (lkNS (by decide +kernel) lkN0))))⟩
instance {u : V} {v0 v1 v2 v3 : V} : Pf ("base" : Str) u (fs_Menu v0 v1 v2 v3) (fs_Menu u v1 v2 v3) := ⟨pfE, by show 4 < 1000; decide⟩
instance {u : V} {v0 v1 v2 v3 : V} : Pf ("entries" : Str) u (fs_Menu v0 v1 v2 v3) (fs_Menu v0 u v2 v3) := ⟨(pfS (by decide +kernel) pfE), by show 4 < 1000; decide⟩
instance {u : V} {v0 v1 v2 v3 : V} : Pf ("options" : Str) u (fs_Menu v0 v1 v2 v3) (fs_Menu v0 v1 u v3) := ⟨(pfS (by decide +kernel) (pfS (by decide +kernel) pfE)), by show 4 < 1000; decide⟩
instance {u : V} {v0 v1 v2 v3 : V} : Pf ("count" : Str) u (fs_Menu v0 v1 v2 v3) (fs_Menu v0 v1 v2 u) := ⟨(pfS (by decide +kernel) (pfS (by decide +kernel) (pfS (by decide +kernel) pfE))), by show 4 < 1000; decide⟩
instance {u : V} {v0 v1 v2 : V} : Pf ("count" : Str) u (fs_Menu_3 v0 v1 v2) (fs_Menu v0 v1 v2 u) := ⟨(pfS (by decide +kernel) (pfS (by decide +kernel) (pfS (by decide +kernel) pf0))), by show 3 < 1000; decide⟩
instance : Kit K (.ref (He.ga K ("InvalidInput" : Str))) (.type "ValueError") true := ⟨TxtK.kit_InvalidInput_ValueError⟩
end
/-! ### each def keeps its reading -/
section
variable {w : World} {K : PySem.W.Frag} {mg : Str → Option Value} {base : Heap} {k : Nat}
theorem ok_Book_init (T : Txt K w mg) (G : AllOk prog w K mg base k) : FnOk prog w K mg base (L2.CX prog w) (lev (k + 1)) ((dm .Book_init).adr K) (fdAt K ((dm .Book_init).adr K)) (ps .Book_init) (Gam K w (k + 1) .Book_init) := by
  have S : FnScope N_Book_init (ps .Book_init) (defScope st_Book_init) := ⟨rfl, rfl, rfl, by decide +kernel, rfl, by decide +kernel, by decide +kernel⟩
  have nd := S.nd
  refine FunD.ok (k := 2 * k + 1) T.k.f_Book_init S (fun vs H Q E h => h.1) (fun cdv A outer s H vs Q E hr h => ⟨rd_Book_init K w E, ?_, h.2⟩)
  have hr0 : Room (lev k) _ := hr.mono (Nat.le_succ _)
  have tk : Takes (cxOf (L2.CX prog w) prog w K mg base N_Book_init ("Book.__init__" : Str) (defScope st_Book_init) ((dm .Book_init).adr K) cdv A outer s H E) (fun cls d _ H => E cls d H) := takes_of rfl rfl rfl rfl
  have hx : ∀ σ, PassesAt (L2.CX prog w) (cxOf (L2.CX prog w) prog w K mg base N_Book_init ("Book.__init__" : Str) (defScope st_Book_init) ((dm .Book_init).adr K) cdv A outer s H E) σ E := fun σ => passAt tk σ
  have hpo : PassesOwn (model prog w) _ _ (cxOf (L2.CX prog w) prog w K mg base N_Book_init ("Book.__init__" : Str) (defScope st_Book_init) ((dm .Book_init).adr K) cdv A outer s H E).xe := passes_of rfl
  exact (pss_cons (ps_set (i := 11) nd rfl (by first | exact Or.inl rfl | exact Or.inr rfl) (pe_tup (pa_cons (pv 1) (pa_cons (pv 2) (pa_cons (pv 3) (pa_cons (pv 4) (pa_cons (pv 5) (pa_cons (pv 6) (pa_cons (pv 7) (pa_cons (pv 8) (pa_cons (pv 9) (pa_cons (pv 10) pa_nil)))))))))))) (pss_cons (ps_fld (pv 0) pe_dnewK rfl) (pss_one (ps_for hpo rfl (pi_range1 (by rfl) T.z_range (pa_cons (pe_callB call_lenA rfl T.z_len (by decide +kernel) (pa_cons (pe_glob rfl T.g_ENTRIES rfl) pa_nil)) pa_nil)) (pg_name (i := 12) nd rfl (by first | exact Or.inl rfl | exact Or.inr rfl)) (pss_cons (ps_if (pt_cmpR (op_notInA (hu_of hr)) (pe_ix ix_seq (pv 11) (pv 12) (fun _ _ => rfl)) (pe_ixW (pe_glob rfl T.g_CHOICES rfl) (pe_ix ix_seq (pe_glob rfl T.g_ENTRIES rfl) (pv 12) (fun _ _ => rfl)) (fun _ _ => rfl)) (by rfl)) (pss_one (ps_raise rfl tk (pmk_own PySem.F.excBase_ValueError T.k.x_InvalidBook.1 T.g_InvalidBook T.k.x_InvalidBook.2.1 (raises_own T.k.x_InvalidBook.2.2.1 T.k.x_InvalidBook.2.2.2) rfl))) pss_nil) (pss_one (ps_dput (hu_of hr) (pe_fld (pv 0) rfl) (pe_ix ix_seq (pe_glob rfl T.g_ENTRIES rfl) (pv 12) (fun _ _ => rfl)) (pe_ix ix_seq (pv 11) (pv 12) (fun _ _ => rfl)) rfl)))))))
theorem ok_Book_getitem (T : Txt K w mg) (G : AllOk prog w K mg base k) : FnOk prog w K mg base (L2.CX prog w) (lev (k + 1)) ((dm .Book_getitem).adr K) (fdAt K ((dm .Book_getitem).adr K)) (ps .Book_getitem) (Gam K w (k + 1) .Book_getitem) := by
  have S : FnScope N_Book_getitem (ps .Book_getitem) (defScope st_Book_getitem) := ⟨rfl, rfl, rfl, by decide +kernel, rfl, by decide +kernel, by decide +kernel⟩
  have nd := S.nd
  refine FunD.ok (k := 2 * k + 1) T.k.f_Book_getitem S (fun vs H Q E h => h.1) (fun cdv A outer s H vs Q E hr h => ⟨rd_Book_getitem K E, ?_, h.2⟩)
  have hr0 : Room (lev k) _ := hr.mono (Nat.le_succ _)
  have tk : Takes (cxOf (L2.CX prog w) prog w K mg base N_Book_getitem ("Book.__getitem__" : Str) (defScope st_Book_getitem) ((dm .Book_getitem).adr K) cdv A outer s H E) (fun cls d _ H => E cls d H) := takes_of rfl rfl rfl rfl
  have hx : ∀ σ, PassesAt (L2.CX prog w) (cxOf (L2.CX prog w) prog w K mg base N_Book_getitem ("Book.__getitem__" : Str) (defScope st_Book_getitem) ((dm .Book_getitem).adr K) cdv A outer s H E) σ E := fun σ => passAt tk σ
  have hpo : PassesOwn (model prog w) _ _ (cxOf (L2.CX prog w) prog w K mg base N_Book_getitem ("Book.__getitem__" : Str) (defScope st_Book_getitem) ((dm .Book_getitem).adr K) cdv A outer s H E).xe := passes_of rfl
  exact (pss_cons (ps_if (pt_cmpR (op_notInA (hu_of hr)) (pv 1) (pe_glob rfl T.g_ENTRIES rfl) (by rfl)) (pss_one (ps_raise rfl tk (pmk_own PySem.F.excBase_ValueError T.k.x_InvalidBook.1 T.g_InvalidBook T.k.x_InvalidBook.2.1 (raises_own T.k.x_InvalidBook.2.2.1 T.k.x_InvalidBook.2.2.2) rfl))) pss_nil) (pss_one (ps_ret (pe_dget (hu_of hr) (pe_fld (pv 0) rfl) (pv 1) (fun _ _ => rfl)))))
theorem ok_Book_setitem (T : Txt K w mg) (G : AllOk prog w K mg base k) : FnOk prog w K mg base (L2.CX prog w) (lev (k + 1)) ((dm .Book_setitem).adr K) (fdAt K ((dm .Book_setitem).adr K)) (ps .Book_setitem) (Gam K w (k + 1) .Book_setitem) := by
  have S : FnScope N_Book_setitem (ps .Book_setitem) (defScope st_Book_setitem) := ⟨rfl, rfl, rfl, by decide +kernel, rfl, by decide +kernel, by decide +kernel⟩
  have nd := S.nd
  refine FunD.ok (k := 2 * k + 1) T.k.f_Book_setitem S (fun vs H Q E h => h.1) (fun cdv A outer s H vs Q E hr h => ⟨rd_Book_setitem K w E, ?_, h.2⟩)
  have hr0 : Room (lev k) _ := hr.mono (Nat.le_succ _)
  have tk : Takes (cxOf (L2.CX prog w) prog w K mg base N_Book_setitem ("Book.__setitem__" : Str) (defScope st_Book_setitem) ((dm .Book_setitem).adr K) cdv A outer s H E) (fun cls d _ H => E cls d H) := takes_of rfl rfl rfl rfl
  have hx : ∀ σ, PassesAt (L2.CX prog w) (cxOf (L2.CX prog w) prog w K mg base N_Book_setitem ("Book.__setitem__" : Str) (defScope st_Book_setitem) ((dm .Book_setitem).adr K) cdv A outer s H E) σ E := fun σ => passAt tk σ
  have hpo : PassesOwn (model prog w) _ _ (cxOf (L2.CX prog w) prog w K mg base N_Book_setitem ("Book.__setitem__" : Str) (defScope st_Book_setitem) ((dm .Book_setitem).adr K) cdv A outer s H E).xe := passes_of rfl
  exact (pss_cons (ps_if (PW.pt (pw_or (pt_cmpR (op_notInA (hu_of hr)) (pv 1) (pe_glob rfl T.g_ENTRIES rfl) (by rfl)) (pw_or1 (pt_cmpR (op_notInA (hu_of hr)) (pv 2) (pe_ixW (pe_glob rfl T.g_CHOICES rfl) (pv 1) (fun _ _ => rfl)) (by rfl))))) (pss_one (ps_raise rfl tk (pmk_own PySem.F.excBase_ValueError T.k.x_InvalidBook.1 T.g_InvalidBook T.k.x_InvalidBook.2.1 (raises_own T.k.x_InvalidBook.2.2.1 T.k.x_InvalidBook.2.2.2) rfl))) pss_nil) (pss_one (ps_dput (hu_of hr) (pe_fld (pv 0) rfl) (pv 1) (pv 2) rfl)))
theorem ok_Book_copied (T : Txt K w mg) (G : AllOk prog w K mg base k) : FnOk prog w K mg base (L2.CX prog w) (lev (k + 1)) ((dm .Book_copied).adr K) (fdAt K ((dm .Book_copied).adr K)) (ps .Book_copied) (Gam K w (k + 1) .Book_copied) := by
  have S : FnScope N_Book_copied (ps .Book_copied) (defScope st_Book_copied) := ⟨rfl, rfl, rfl, by decide +kernel, rfl, by decide +kernel, by decide +kernel⟩
  have nd := S.nd
  obtain ⟨_, hk_Book_init_0⟩ := T.k.kb_Book_init_0
  refine FunD.ok (k := 2 * k + 1) T.k.f_Book_copied S (fun vs H Q E h => h.1) (fun cdv A outer s H vs Q E hr h => ⟨rd_Book_copied K (Gam K w k) E, ?_, h.2⟩)
  have hr0 : Room (lev k) _ := hr.mono (Nat.le_succ _)
  have tk : Takes (cxOf (L2.CX prog w) prog w K mg base N_Book_copied ("Book.copied" : Str) (defScope st_Book_copied) ((dm .Book_copied).adr K) cdv A outer s H E) (fun cls d _ H => E cls d H) := takes_of rfl rfl rfl rfl
  have hx : ∀ σ, PassesAt (L2.CX prog w) (cxOf (L2.CX prog w) prog w K mg base N_Book_copied ("Book.copied" : Str) (defScope st_Book_copied) ((dm .Book_copied).adr K) cdv A outer s H E) σ E := fun σ => passAt tk σ
  have hpo : PassesOwn (model prog w) _ _ (cxOf (L2.CX prog w) prog w K mg base N_Book_copied ("Book.copied" : Str) (defScope st_Book_copied) ((dm .Book_copied).adr K) cdv A outer s H E).xe := passes_of rfl
  exact (pss_one (ps_ret (pe_makeSp (ks := [("work" : Str), ("write" : Str), ("meet" : Str), ("test" : Str), ("partly" : Str), ("value" : Str), ("path" : Str), ("loop" : Str), ("guard" : Str), ("call" : Str)]) T.k.mk_Book (G .Book_init) hr rfl T.g_Book hk_Book_init_0 hx (pe_fld (pv 0) rfl))))
theorem ok_Menu_init (T : Txt K w mg) (G : AllOk prog w K mg base k) : FnOk prog w K mg base (L2.CX prog w) (lev (k + 1)) ((dm .Menu_init).adr K) (fdAt K ((dm .Menu_init).adr K)) (ps .Menu_init) (Gam K w (k + 1) .Menu_init) := by
  have S : FnScope N_Menu_init (ps .Menu_init) (defScope st_Menu_init) := ⟨rfl, rfl, rfl, by decide +kernel, rfl, by decide +kernel, by decide +kernel⟩
  have nd := S.nd
  refine FunD.ok (k := 2 * k + 1) T.k.f_Menu_init S (fun vs H Q E h => h.1) (fun cdv A outer s H vs Q E hr h => ⟨rd_Menu_init K w (Gam K w k) E, ?_, h.2⟩)
  have hr0 : Room (lev k) _ := hr.mono (Nat.le_succ _)
  have tk : Takes (cxOf (L2.CX prog w) prog w K mg base N_Menu_init ("Menu.__init__" : Str) (defScope st_Menu_init) ((dm .Menu_init).adr K) cdv A outer s H E) (fun cls d _ H => E cls d H) := takes_of rfl rfl rfl rfl
  have hx : ∀ σ, PassesAt (L2.CX prog w) (cxOf (L2.CX prog w) prog w K mg base N_Menu_init ("Menu.__init__" : Str) (defScope st_Menu_init) ((dm .Menu_init).adr K) cdv A outer s H E) σ E := fun σ => passAt tk σ
  have hpo : PassesOwn (model prog w) _ _ (cxOf (L2.CX prog w) prog w K mg base N_Menu_init ("Menu.__init__" : Str) (defScope st_Menu_init) ((dm .Menu_init).adr K) cdv A outer s H E).xe := passes_of rfl
  exact (pss_cons (ps_fld (pv 0) (pe_meth0S (pv 1) T.k.c_Book T.k.me_Book_copied (G .Book_copied) hr0 T.k.b_Book_copied_1 .nil hx) rfl) (pss_cons (ps_fld (pv 0) (pe_lc (own := [(("entry" : Str), 3)]) (by rfl) nd (pi_tup (pe_glob rfl T.g_ENTRIES rfl)) (blkOk_by (own := [(("entry" : Str), 3)]) (N := N_Menu_init) (sc := defScope st_Menu_init) (by decide +kernel)) (fun _ _ _ _ _ => pg_name (i := 3) nd rfl (Or.inl rfl)) (fun _ _ _ _ _ => (pts_one (pt_cmpR (op_inA (hu_of hr)) (pv 3) (pv 2) (by rfl)))) (fun _ _ _ _ _ => (pv 3))) rfl) (pss_cons (ps_if (pt_cmpR (op_neA hr.units) (pe_callB call_lenA rfl T.z_len (by decide +kernel) (pa_cons (pe_fld (pv 0) rfl) pa_nil)) (pe_callB call_lenD rfl T.z_len (by decide +kernel) (pa_cons (pv 2) pa_nil)) (nomark _)) (pss_one (ps_raise rfl tk (pmk_own PySem.F.excBase_ValueError T.k.x_InvalidInput.1 T.g_InvalidInput T.k.x_InvalidInput.2.1 (raises_own T.k.x_InvalidInput.2.2.1 T.k.x_InvalidInput.2.2.2) rfl))) pss_nil) (pss_cons (ps_fld (pv 0) pe_dnewK rfl) (pss_cons (ps_fld (pv 0) pe_int rfl) (pss_cons (ps_for hpo rfl (pi_any (pe_fld (pv 0) rfl)) (pg_name (i := 3) nd rfl (by first | exact Or.inl rfl | exact Or.inr rfl)) (pss_cons (ps_setLc (i := 4) (own := [(("choice" : Str), 5)]) (by rfl) nd rfl rfl (sw_true rfl rfl rfl (by decide +kernel)) (pi_any (pe_ixW (pe_glob rfl T.g_CHOICES rfl) (pv 3) (fun _ _ => rfl))) (blkOk_by (own := [(("choice" : Str), 5)]) (N := N_Menu_init) (sc := defScope st_Menu_init) (by decide +kernel)) (fun _ _ _ _ _ => pg_name (i := 5) nd rfl (Or.inl rfl)) (fun _ _ _ _ _ => (pts_one (pt_cmpR (op_inA (hu_of hr)) (pv 5) (pe_dget (hu_of hr) (pv 2) (pv 3) (fun _ _ => rfl)) (by rfl)))) (fun _ _ _ _ _ => (pv 5))) (pss_cons (ps_if (PW.pt (pw_or (pt_cmpR (op_eqA hr.units) (pv 4) (pe_lst pa_nil) (nomark _)) (pw_or1 (pt_cmpR (op_neA hr.units) (pe_callB call_lenA rfl T.z_len (by decide +kernel) (pa_cons (pv 4) pa_nil)) (pe_callB call_lenA rfl T.z_len (by decide +kernel) (pa_cons (pe_dget (hu_of hr) (pv 2) (pv 3) (fun _ _ => rfl)) pa_nil)) (nomark _))))) (pss_one (ps_raise rfl tk (pmk_own PySem.F.excBase_ValueError T.k.x_InvalidInput.1 T.g_InvalidInput T.k.x_InvalidInput.2.1 (raises_own T.k.x_InvalidInput.2.2.1 T.k.x_InvalidInput.2.2.2) rfl))) pss_nil) (pss_cons (ps_dput (hu_of hr) (pe_fld (pv 0) rfl) (pv 3) (pv 4) rfl) (pss_one (ps_fld (pv 0) (pe_op op_mulA (pe_fld (pv 0) rfl) (pe_callB call_lenA rfl T.z_len (by decide +kernel) (pa_cons (pv 4) pa_nil))) rfl)))))) (pss_one (ps_if (pt_cmpR op_gtI (pe_fld (pv 0) rfl) (pe_gint rfl T.n_MOST_BOOKS) (nomark _)) (pss_one (ps_raise rfl tk (pmk_own PySem.F.excBase_ValueError T.k.x_InvalidInput.1 T.g_InvalidInput T.k.x_InvalidInput.2.1 (raises_own T.k.x_InvalidInput.2.2.1 T.k.x_InvalidInput.2.2.2) rfl))) pss_nil))))))))
theorem ok_Menu_contains (T : Txt K w mg) (G : AllOk prog w K mg base k) : FnOk prog w K mg base (L2.CX prog w) (lev (k + 1)) ((dm .Menu_contains).adr K) (fdAt K ((dm .Menu_contains).adr K)) (ps .Menu_contains) (Gam K w (k + 1) .Menu_contains) := by
  have S : FnScope N_Menu_contains (ps .Menu_contains) (defScope st_Menu_contains) := ⟨rfl, rfl, rfl, by decide +kernel, rfl, by decide +kernel, by decide +kernel⟩
  have nd := S.nd
  refine FunD.ok (k := 2 * k + 1) T.k.f_Menu_contains S (fun vs H Q E h => h.1) (fun cdv A outer s H vs Q E hr h => ⟨rd_Menu_contains K (Gam K w k) E, ?_, h.2⟩)
  have hr0 : Room (lev k) _ := hr.mono (Nat.le_succ _)
  have tk : Takes (cxOf (L2.CX prog w) prog w K mg base N_Menu_contains ("Menu.__contains__" : Str) (defScope st_Menu_contains) ((dm .Menu_contains).adr K) cdv A outer s H E) (fun cls d _ H => E cls d H) := takes_of rfl rfl rfl rfl
  have hx : ∀ σ, PassesAt (L2.CX prog w) (cxOf (L2.CX prog w) prog w K mg base N_Menu_contains ("Menu.__contains__" : Str) (defScope st_Menu_contains) ((dm .Menu_contains).adr K) cdv A outer s H E) σ E := fun σ => passAt tk σ
  have hpo : PassesOwn (model prog w) _ _ (cxOf (L2.CX prog w) prog w K mg base N_Menu_contains ("Menu.__contains__" : Str) (defScope st_Menu_contains) ((dm .Menu_contains).adr K) cdv A outer s H E).xe := passes_of rfl
  exact (pss_cons (ps_for hpo rfl (pi_tup (pe_glob rfl T.g_ENTRIES rfl)) (pg_name (i := 2) nd rfl (by first | exact Or.inl rfl | exact Or.inr rfl)) (pss_one (ps_if (pt_cmpR (op_inA (hu_of hr)) (pv 2) (pe_fld (pv 0) rfl) (by rfl)) (pss_one (ps_if (pt_cmpR (op_notInA (hu_of hr)) (pe_ownIx (G .Book_getitem) hr T.k.b_Book_getitem_2 hx T.k.sp_Book_getitem T.k.fi_Book_getitem (pv 1) (pv 2)) (pe_dget (hu_of hr) (pe_fld (pv 0) rfl) (pv 2) (fun _ _ => rfl)) (by rfl)) (pss_one (ps_ret pe_bl)) pss_nil)) (pss_one (ps_if (pt_cmpR (op_neA hr.units) (pe_ownIx (G .Book_getitem) hr T.k.b_Book_getitem_2 hx T.k.sp_Book_getitem T.k.fi_Book_getitem (pv 1) (pv 2)) (pe_ownIx (G .Book_getitem) hr T.k.b_Book_getitem_2 hx T.k.sp_Book_getitem T.k.fi_Book_getitem (pe_fld (pv 0) rfl) (pv 2)) (nomark _)) (pss_one (ps_ret pe_bl)) pss_nil))))) (pss_one (ps_ret pe_bl)))
theorem ok_Menu_numbered (T : Txt K w mg) (G : AllOk prog w K mg base k) : FnOk prog w K mg base (L2.CX prog w) (lev (k + 1)) ((dm .Menu_numbered).adr K) (fdAt K ((dm .Menu_numbered).adr K)) (ps .Menu_numbered) (Gam K w (k + 1) .Menu_numbered) := by
  have S : FnScope N_Menu_numbered (ps .Menu_numbered) (defScope st_Menu_numbered) := ⟨rfl, rfl, rfl, by decide +kernel, rfl, by decide +kernel, by decide +kernel⟩
  have nd := S.nd
  refine FunD.ok (k := 2 * k + 1) T.k.f_Menu_numbered S (fun vs H Q E h => h.1) (fun cdv A outer s H vs Q E hr h => ⟨rd_Menu_numbered K (Gam K w k) E, ?_, h.2⟩)
  have hr0 : Room (lev k) _ := hr.mono (Nat.le_succ _)
  have tk : Takes (cxOf (L2.CX prog w) prog w K mg base N_Menu_numbered ("Menu.numbered" : Str) (defScope st_Menu_numbered) ((dm .Menu_numbered).adr K) cdv A outer s H E) (fun cls d _ H => E cls d H) := takes_of rfl rfl rfl rfl
  have hx : ∀ σ, PassesAt (L2.CX prog w) (cxOf (L2.CX prog w) prog w K mg base N_Menu_numbered ("Menu.numbered" : Str) (defScope st_Menu_numbered) ((dm .Menu_numbered).adr K) cdv A outer s H E) σ E := fun σ => passAt tk σ
  have hpo : PassesOwn (model prog w) _ _ (cxOf (L2.CX prog w) prog w K mg base N_Menu_numbered ("Menu.numbered" : Str) (defScope st_Menu_numbered) ((dm .Menu_numbered).adr K) cdv A outer s H E).xe := passes_of rfl
  exact (pss_cons (ps_set (i := 2) nd rfl (by first | exact Or.inl rfl | exact Or.inr rfl) (pe_meth0S (pe_fld (pv 0) rfl) T.k.c_Book T.k.me_Book_copied (G .Book_copied) hr0 T.k.b_Book_copied_1 .nil hx)) (pss_cons (ps_set (i := 3) nd rfl (by first | exact Or.inl rfl | exact Or.inr rfl) (pv 1)) (pss_cons (ps_for hpo rfl (RT.pi_revA (by rfl) T.z_reversed (pe_callTy call_listA rfl T.z_list (by decide +kernel) (pa_cons (pe_fld (pv 0) rfl) pa_nil))) (pg_name (i := 4) nd rfl (by first | exact Or.inl rfl | exact Or.inr rfl)) (pss_cons (ps_set (i := 5) nd rfl (by first | exact Or.inl rfl | exact Or.inr rfl) (pe_dget (hu_of hr) (pe_fld (pv 0) rfl) (pv 4) (fun _ _ => rfl))) (pss_cons (ps_ownPut (G .Book_setitem) hr0 T.k.b_Book_setitem_3 hx T.k.sp_Book_setitem T.k.ns_Book (pv 2) (pv 4) (pe_ix ix_seq (pv 5) (pe_op op_modI (pv 3) (pe_callB call_lenA rfl T.z_len (by decide +kernel) (pa_cons (pv 5) pa_nil))) (fun _ _ => rfl)) rfl) (pss_one (ps_set (i := 3) nd rfl (by first | exact Or.inl rfl | exact Or.inr rfl) (pe_op op_fdivI (pv 3) (pe_callB call_lenA rfl T.z_len (by decide +kernel) (pa_cons (pv 5) pa_nil)))))))) (pss_one (ps_ret (pv 2))))))
theorem ok_Menu_books (T : Txt K w mg) (G : AllOk prog w K mg base k) : FnOk prog w K mg base (L2.CX prog w) (lev (k + 1)) ((dm .Menu_books).adr K) (fdAt K ((dm .Menu_books).adr K)) (ps .Menu_books) (Gam K w (k + 1) .Menu_books) := ⟨fun _ _ _ _ h => h.elim, fun _ _ _ _ _ _ _ _ _ _ _ _ _ h => h.elim⟩
theorem ok_law_cell (T : Txt K w mg) (G : AllOk prog w K mg base k) : FnOk prog w K mg base (L2.CX prog w) (lev (k + 1)) ((dm .law_cell).adr K) (fdAt K ((dm .law_cell).adr K)) (ps .law_cell) (Gam K w (k + 1) .law_cell) := by
  have S : FnScope N_law_cell (ps .law_cell) (defScope st_law_cell) := ⟨rfl, rfl, rfl, by decide +kernel, rfl, by decide +kernel, by decide +kernel⟩
  have nd := S.nd
  refine FunD.ok (k := 2 * k + 1) T.k.f_law_cell S (fun vs H Q E h => h.1) (fun cdv A outer s H vs Q E hr h => ⟨rd_law_cell K, ?_, h.2⟩)
  have hr0 : Room (lev k) _ := hr.mono (Nat.le_succ _)
  have tk : Takes (cxOf (L2.CX prog w) prog w K mg base N_law_cell ("_law_cell" : Str) (defScope st_law_cell) ((dm .law_cell).adr K) cdv A outer s H E) (fun cls d _ H => E cls d H) := takes_of rfl rfl rfl rfl
  have hx : ∀ σ, PassesAt (L2.CX prog w) (cxOf (L2.CX prog w) prog w K mg base N_law_cell ("_law_cell" : Str) (defScope st_law_cell) ((dm .law_cell).adr K) cdv A outer s H E) σ E := fun σ => passAt tk σ
  have hpo : PassesOwn (model prog w) _ _ (cxOf (L2.CX prog w) prog w K mg base N_law_cell ("_law_cell" : Str) (defScope st_law_cell) ((dm .law_cell).adr K) cdv A outer s H E).xe := passes_of rfl
  exact (pss_cons (ps_if (pt_cmpR op_ltI (pv 1) (pe_callB call_lenA rfl T.z_len (by decide +kernel) (pa_cons (pv 0) pa_nil)) (nomark _)) (pss_one (ps_ret (pe_ix ix_seq (pv 0) (pv 1) (fun _ _ => rfl)))) pss_nil) (pss_one (ps_ret pe_int)))
theorem ok_law_draws (T : Txt K w mg) (G : AllOk prog w K mg base k) : FnOk prog w K mg base (L2.CX prog w) (lev (k + 1)) ((dm .law_draws).adr K) (fdAt K ((dm .law_draws).adr K)) (ps .law_draws) (Gam K w (k + 1) .law_draws) := by
  have S : FnScope N_law_draws (ps .law_draws) (defScope st_law_draws) := ⟨rfl, rfl, rfl, by decide +kernel, rfl, by decide +kernel, by decide +kernel⟩
  have nd := S.nd
  refine FunD.ok (k := 2 * k + 1) T.k.f_law_draws S (fun vs H Q E h => h.1) (fun cdv A outer s H vs Q E hr h => ⟨rd_law_draws K, ?_, h.2⟩)
  have hr0 : Room (lev k) _ := hr.mono (Nat.le_succ _)
  have tk : Takes (cxOf (L2.CX prog w) prog w K mg base N_law_draws ("_law_draws" : Str) (defScope st_law_draws) ((dm .law_draws).adr K) cdv A outer s H E) (fun cls d _ H => E cls d H) := takes_of rfl rfl rfl rfl
  have hx : ∀ σ, PassesAt (L2.CX prog w) (cxOf (L2.CX prog w) prog w K mg base N_law_draws ("_law_draws" : Str) (defScope st_law_draws) ((dm .law_draws).adr K) cdv A outer s H E) σ E := fun σ => passAt tk σ
  have hpo : PassesOwn (model prog w) _ _ (cxOf (L2.CX prog w) prog w K mg base N_law_draws ("_law_draws" : Str) (defScope st_law_draws) ((dm .law_draws).adr K) cdv A outer s H E).xe := passes_of rfl
  exact (pss_cons (ps_set (i := 3) nd rfl (by first | exact Or.inl rfl | exact Or.inr rfl) (pe_callB call_absI rfl T.z_abs (by decide +kernel) (pa_cons (pv 0) pa_nil))) (pss_cons (ps_set (i := 4) nd rfl (by first | exact Or.inl rfl | exact Or.inr rfl) (pv 3)) (pss_cons (ps_set (i := 5) nd rfl (by first | exact Or.inl rfl | exact Or.inr rfl) (pe_lst pa_nil)) (pss_cons (ps_for hpo rfl (pi_range1 (by rfl) T.z_range (pa_cons (pv 1) pa_nil)) (pg_name (i := 6) nd rfl (by first | exact Or.inl rfl | exact Or.inr rfl)) (pss_one (ps_if (PW.pt (pw_and (pt_cmpR op_geI (pv 3) (pe_op op_powI pe_int pe_int) (nomark _)) (pw_and1 (pt_cmpR op_geI (pv 4) pe_int (nomark _))))) (pss_cons (ps_expr (pe_bm PySem.F.plainAttrs_list PySem.F.slot_list_append PySem.F.type_list_append mt_append (pv 5) (pa_cons (pe_op op_modI (pv 4) pe_int) pa_nil))) (pss_one (ps_set (i := 4) nd rfl (by first | exact Or.inl rfl | exact Or.inr rfl) (pe_op op_fdivI (pv 4) pe_int)))) (pss_cons (ps_set (i := 7) nd rfl (by first | exact Or.inl rfl | exact Or.inr rfl) (pe_op op_modI (pe_op op_addA (pe_op op_addA (pe_op op_addA (pe_op op_mulA (pe_op op_modI (pv 3) pe_int) pe_int) (pe_op op_mulA (pv 6) pe_int)) (pe_op op_mulA (pv 2) pe_int)) pe_int) pe_int)) (pss_cons (ps_set (i := 7) nd rfl (by first | exact Or.inl rfl | exact Or.inr rfl) (pe_op op_modI (pe_op op_addA (pe_op op_addA (pe_op op_mulA (pv 7) pe_int) (pe_op op_mulA (pv 6) pe_int)) (pv 2)) pe_int)) (pss_one (ps_expr (pe_bm PySem.F.plainAttrs_list PySem.F.slot_list_append PySem.F.type_list_append mt_append (pv 5) (pa_cons (pe_op op_modI (pe_op op_fdivI (pv 7) pe_int) pe_int) pa_nil))))))))) (pss_one (ps_ret (pv 5)))))))
theorem ok_law_entries (T : Txt K w mg) (G : AllOk prog w K mg base k) : FnOk prog w K mg base (L2.CX prog w) (lev (k + 1)) ((dm .law_entries).adr K) (fdAt K ((dm .law_entries).adr K)) (ps .law_entries) (Gam K w (k + 1) .law_entries) := by
  have S : FnScope N_law_entries (ps .law_entries) (defScope st_law_entries) := ⟨rfl, rfl, rfl, by decide +kernel, rfl, by decide +kernel, by decide +kernel⟩
  have nd := S.nd
  refine FunD.ok (k := 2 * k + 1) T.k.f_law_entries S (fun vs H Q E h => h.1) (fun cdv A outer s H vs Q E hr h => ⟨rd_law_entries , ?_, h.2⟩)
  have hr0 : Room (lev k) _ := hr.mono (Nat.le_succ _)
  have tk : Takes (cxOf (L2.CX prog w) prog w K mg base N_law_entries ("_law_entries" : Str) (defScope st_law_entries) ((dm .law_entries).adr K) cdv A outer s H E) (fun cls d _ H => E cls d H) := takes_of rfl rfl rfl rfl
  have hx : ∀ σ, PassesAt (L2.CX prog w) (cxOf (L2.CX prog w) prog w K mg base N_law_entries ("_law_entries" : Str) (defScope st_law_entries) ((dm .law_entries).adr K) cdv A outer s H E) σ E := fun σ => passAt tk σ
  have hpo : PassesOwn (model prog w) _ _ (cxOf (L2.CX prog w) prog w K mg base N_law_entries ("_law_entries" : Str) (defScope st_law_entries) ((dm .law_entries).adr K) cdv A outer s H E).xe := passes_of rfl
  exact (pss_one (ps_ret (pe_lst (pa_cons pe_str (pa_cons pe_str (pa_cons pe_str (pa_cons pe_str (pa_cons pe_str (pa_cons pe_str (pa_cons pe_str (pa_cons pe_str (pa_cons pe_str (pa_cons pe_str pa_nil)))))))))))))
theorem ok_law_choices (T : Txt K w mg) (G : AllOk prog w K mg base k) : FnOk prog w K mg base (L2.CX prog w) (lev (k + 1)) ((dm .law_choices).adr K) (fdAt K ((dm .law_choices).adr K)) (ps .law_choices) (Gam K w (k + 1) .law_choices) := by
  have S : FnScope N_law_choices (ps .law_choices) (defScope st_law_choices) := ⟨rfl, rfl, rfl, by decide +kernel, rfl, by decide +kernel, by decide +kernel⟩
  have nd := S.nd
  refine FunD.ok (k := 2 * k + 1) T.k.f_law_choices S (fun vs H Q E h => h.1) (fun cdv A outer s H vs Q E hr h => ⟨rd_law_choices , ?_, h.2⟩)
  have hr0 : Room (lev k) _ := hr.mono (Nat.le_succ _)
  have tk : Takes (cxOf (L2.CX prog w) prog w K mg base N_law_choices ("_law_choices" : Str) (defScope st_law_choices) ((dm .law_choices).adr K) cdv A outer s H E) (fun cls d _ H => E cls d H) := takes_of rfl rfl rfl rfl
  have hx : ∀ σ, PassesAt (L2.CX prog w) (cxOf (L2.CX prog w) prog w K mg base N_law_choices ("_law_choices" : Str) (defScope st_law_choices) ((dm .law_choices).adr K) cdv A outer s H E) σ E := fun σ => passAt tk σ
  have hpo : PassesOwn (model prog w) _ _ (cxOf (L2.CX prog w) prog w K mg base N_law_choices ("_law_choices" : Str) (defScope st_law_choices) ((dm .law_choices).adr K) cdv A outer s H E).xe := passes_of rfl
  exact (pss_cons (ps_set (i := 1) nd rfl (by first | exact Or.inl rfl | exact Or.inr rfl) (pe_disp (pps_cons pe_str pe_str (pps_cons pe_str pe_str (pps_cons pe_str pe_str (pps_cons pe_str pe_str (pps_cons pe_str pe_str (pps_cons pe_str pe_str (pps_cons pe_str pe_str pps_nil))))))) (by rfl) (by rfl) (fun z => by cases z) (by decide))) (pss_one (ps_ret (pe_splitA (pe_dget2 (hu_of hr) (pv 1) (pv 0) pe_str ⟨by rfl, by rfl, by rfl, by rfl⟩) pe_str))))
theorem ok_law_picks (T : Txt K w mg) (G : AllOk prog w K mg base k) : FnOk prog w K mg base (L2.CX prog w) (lev (k + 1)) ((dm .law_picks).adr K) (fdAt K ((dm .law_picks).adr K)) (ps .law_picks) (Gam K w (k + 1) .law_picks) := by
  have S : FnScope N_law_picks (ps .law_picks) (defScope st_law_picks) := ⟨rfl, rfl, rfl, by decide +kernel, rfl, by decide +kernel, by decide +kernel⟩
  have nd := S.nd
  refine FunD.ok (k := 2 * k + 1) T.k.f_law_picks S (fun vs H Q E h => h.1) (fun cdv A outer s H vs Q E hr h => ⟨rd_law_picks K (Gam K w k) E, ?_, h.2⟩)
  have hr0 : Room (lev k) _ := hr.mono (Nat.le_succ _)
  have tk : Takes (cxOf (L2.CX prog w) prog w K mg base N_law_picks ("_law_picks" : Str) (defScope st_law_picks) ((dm .law_picks).adr K) cdv A outer s H E) (fun cls d _ H => E cls d H) := takes_of rfl rfl rfl rfl
  have hx : ∀ σ, PassesAt (L2.CX prog w) (cxOf (L2.CX prog w) prog w K mg base N_law_picks ("_law_picks" : Str) (defScope st_law_picks) ((dm .law_picks).adr K) cdv A outer s H E) σ E := fun σ => passAt tk σ
  have hpo : PassesOwn (model prog w) _ _ (cxOf (L2.CX prog w) prog w K mg base N_law_picks ("_law_picks" : Str) (defScope st_law_picks) ((dm .law_picks).adr K) cdv A outer s H E).xe := passes_of rfl
  exact (pss_cons (ps_set (i := 1) nd rfl (by first | exact Or.inl rfl | exact Or.inr rfl) (pe_lst (pa_cons pe_str (pa_cons pe_str (pa_cons pe_str (pa_cons pe_str (pa_cons pe_str (pa_cons pe_str (pa_cons pe_str (pa_cons pe_str (pa_cons pe_str (pa_cons pe_str pa_nil)))))))))))) (pss_cons (ps_set (i := 2) nd rfl (by first | exact Or.inl rfl | exact Or.inr rfl) (pe_splitA (pe_ix ix_seq (pv 1) (pe_op op_modI (pe_ix ix_seq (pv 0) pe_int (fun _ _ => rfl)) pe_int) (fun _ _ => rfl)) pe_str)) (pss_cons (ps_set (i := 3) nd rfl (by first | exact Or.inl rfl | exact Or.inr rfl) (pe_call0S (G .law_entries) hr0 rfl T.g_law_entries (T.k.f_law_entries).kp T.k.b_law_entries_0 .nil hx)) (pss_cons (ps_set (i := 4) nd rfl (by first | exact Or.inl rfl | exact Or.inr rfl) pe_dnewK) (pss_cons (ps_for hpo rfl (pi_range1 (by rfl) T.z_range (pa_cons pe_int pa_nil)) (pg_name (i := 5) nd rfl (by first | exact Or.inl rfl | exact Or.inr rfl)) (pss_cons (ps_set (i := 6) nd rfl (by first | exact Or.inl rfl | exact Or.inr rfl) (pe_callSD (G .law_choices) hr0 rfl T.g_law_choices (T.k.f_law_choices).kp T.k.b_law_choices_1 .nil hx (pa_cons (pe_ix ix_seq (pv 3) (pv 5) (fun _ _ => rfl)) pa_nil))) (pss_one (ps_dput (hu_of hr) (pv 4) (pe_ix ix_seq (pv 3) (pv 5) (fun _ _ => rfl)) (pe_ix ix_seq (pe_lst (pa_cons (pe_ix ix_seq (pv 2) (pv 5) (fun _ _ => rfl)) (pa_cons (pe_ix ix_seq (pv 6) (pe_op op_modI (pe_ix ix_seq (pv 0) (pe_op op_addA pe_int (pv 5)) (fun _ _ => rfl)) (pe_callB call_lenA rfl T.z_len (by decide +kernel) (pa_cons (pv 6) pa_nil))) (fun _ _ => rfl)) pa_nil))) (pe_callTy call_intA rfl T.z_int (by decide +kernel) (pa_cons (pe_cmpR (op_eqA hr.units) (pe_op op_modI (pe_ix ix_seq (pv 0) pe_int (fun _ _ => rfl)) pe_int) pe_int (nomark _)) pa_nil)) (fun _ _ => rfl)) rfl)))) (pss_cons (ps_for hpo rfl (pi_range1 (by rfl) T.z_range (pa_cons (pe_op op_mulA (pe_callTy call_intA rfl T.z_int (by decide +kernel) (pa_cons (pe_cmpR (op_eqA hr.units) (pe_op op_modI (pe_ix ix_seq (pv 0) pe_int (fun _ _ => rfl)) pe_int) pe_int (nomark _)) pa_nil)) (pe_op op_addA pe_int (pe_op op_modI (pe_ix ix_seq (pv 0) pe_int (fun _ _ => rfl)) pe_int))) pa_nil)) (pg_name (i := 5) nd rfl (by first | exact Or.inl rfl | exact Or.inr rfl)) (pss_cons (ps_set (i := 7) nd rfl (by first | exact Or.inl rfl | exact Or.inr rfl) (pe_ix ix_seq (pv 3) (pe_op op_modI (pe_ix ix_seq (pv 0) (pe_op op_addA pe_int (pe_op op_mulA pe_int (pv 5))) (fun _ _ => rfl)) pe_int) (fun _ _ => rfl))) (pss_cons (ps_set (i := 6) nd rfl (by first | exact Or.inl rfl | exact Or.inr rfl) (pe_callSD (G .law_choices) hr0 rfl T.g_law_choices (T.k.f_law_choices).kp T.k.b_law_choices_1 .nil hx (pa_cons (pv 7) pa_nil))) (pss_one (ps_dput (hu_of hr) (pv 4) (pv 7) (pe_ix ix_seq (pv 6) (pe_op op_modI (pe_ix ix_seq (pv 0) (pe_op op_addA pe_int (pe_op op_mulA pe_int (pv 5))) (fun _ _ => rfl)) (pe_callB call_lenA rfl T.z_len (by decide +kernel) (pa_cons (pv 6) pa_nil))) (fun _ _ => rfl)) rfl))))) (pss_one (ps_ret (pv 4)))))))))
theorem ok_law_book (T : Txt K w mg) (G : AllOk prog w K mg base k) : FnOk prog w K mg base (L2.CX prog w) (lev (k + 1)) ((dm .law_book).adr K) (fdAt K ((dm .law_book).adr K)) (ps .law_book) (Gam K w (k + 1) .law_book) := by
  have S : FnScope N_law_book (ps .law_book) (defScope st_law_book) := ⟨rfl, rfl, rfl, by decide +kernel, rfl, by decide +kernel, by decide +kernel⟩
  have nd := S.nd
  obtain ⟨_, hv_Book_init_1, hb_Book_init_1⟩ := T.k.b_Book_init_1
  refine FunD.ok (k := 2 * k + 1) T.k.f_law_book S (fun vs H Q E h => h.1) (fun cdv A outer s H vs Q E hr h => ⟨rd_law_book K (Gam K w k) E, ?_, h.2⟩)
  have hr0 : Room (lev k) _ := hr.mono (Nat.le_succ _)
  have tk : Takes (cxOf (L2.CX prog w) prog w K mg base N_law_book ("_law_book" : Str) (defScope st_law_book) ((dm .law_book).adr K) cdv A outer s H E) (fun cls d _ H => E cls d H) := takes_of rfl rfl rfl rfl
  have hx : ∀ σ, PassesAt (L2.CX prog w) (cxOf (L2.CX prog w) prog w K mg base N_law_book ("_law_book" : Str) (defScope st_law_book) ((dm .law_book).adr K) cdv A outer s H E) σ E := fun σ => passAt tk σ
  have hpo : PassesOwn (model prog w) _ _ (cxOf (L2.CX prog w) prog w K mg base N_law_book ("_law_book" : Str) (defScope st_law_book) ((dm .law_book).adr K) cdv A outer s H E).xe := passes_of rfl
  exact (pss_cons (ps_set (i := 1) nd rfl (by first | exact Or.inl rfl | exact Or.inr rfl) (pe_make0S T.k.mk_Book (G .Book_init) hr rfl T.g_Book hb_Book_init_1 hv_Book_init_1 hx)) (pss_cons (ps_for hpo rfl (pi_list (pe_call0S (G .law_entries) hr0 rfl T.g_law_entries (T.k.f_law_entries).kp T.k.b_law_entries_0 .nil hx)) (pg_name (i := 2) nd rfl (by first | exact Or.inl rfl | exact Or.inr rfl)) (pss_one (ps_ownPut (G .Book_setitem) hr0 T.k.b_Book_setitem_3 hx T.k.sp_Book_setitem T.k.ns_Book (pv 1) (pv 2) (pe_dget (hu_of hr) (pv 0) (pv 2) (fun _ _ => rfl)) rfl))) (pss_one (ps_ret (pv 1)))))
theorem ok_law_options (T : Txt K w mg) (G : AllOk prog w K mg base k) : FnOk prog w K mg base (L2.CX prog w) (lev (k + 1)) ((dm .law_options).adr K) (fdAt K ((dm .law_options).adr K)) (ps .law_options) (Gam K w (k + 1) .law_options) := by
  have S : FnScope N_law_options (ps .law_options) (defScope st_law_options) := ⟨rfl, rfl, rfl, by decide +kernel, rfl, by decide +kernel, by decide +kernel⟩
  have nd := S.nd
  refine FunD.ok (k := 2 * k + 1) T.k.f_law_options S (fun vs H Q E h => h.1) (fun cdv A outer s H vs Q E hr h => ⟨rd_law_options K (Gam K w k) E, ?_, h.2⟩)
  have hr0 : Room (lev k) _ := hr.mono (Nat.le_succ _)
  have tk : Takes (cxOf (L2.CX prog w) prog w K mg base N_law_options ("_law_options" : Str) (defScope st_law_options) ((dm .law_options).adr K) cdv A outer s H E) (fun cls d _ H => E cls d H) := takes_of rfl rfl rfl rfl
  have hx : ∀ σ, PassesAt (L2.CX prog w) (cxOf (L2.CX prog w) prog w K mg base N_law_options ("_law_options" : Str) (defScope st_law_options) ((dm .law_options).adr K) cdv A outer s H E) σ E := fun σ => passAt tk σ
  have hpo : PassesOwn (model prog w) _ _ (cxOf (L2.CX prog w) prog w K mg base N_law_options ("_law_options" : Str) (defScope st_law_options) ((dm .law_options).adr K) cdv A outer s H E).xe := passes_of rfl
  exact (pss_cons (ps_set (i := 1) nd rfl (by first | exact Or.inl rfl | exact Or.inr rfl) pe_dnewK) (pss_cons (ps_set (i := 2) nd rfl (by first | exact Or.inl rfl | exact Or.inr rfl) (pe_op op_addA pe_int (pe_op op_modI (pe_ix ix_seq (pv 0) pe_int (fun _ _ => rfl)) pe_int))) (pss_cons (ps_for hpo rfl (pi_range1 (by rfl) T.z_range (pa_cons (pv 2) pa_nil)) (pg_name (i := 3) nd rfl (by first | exact Or.inl rfl | exact Or.inr rfl)) (pss_cons (ps_set (i := 4) nd rfl (by first | exact Or.inl rfl | exact Or.inr rfl) (pe_ix ix_seq (pe_call0S (G .law_entries) hr0 rfl T.g_law_entries (T.k.f_law_entries).kp T.k.b_law_entries_0 .nil hx) (pe_op op_modI (pe_ix ix_seq (pv 0) (pe_op op_addA pe_int (pv 3)) (fun _ _ => rfl)) pe_int) (fun _ _ => rfl))) (pss_cons (ps_set (i := 5) nd rfl (by first | exact Or.inl rfl | exact Or.inr rfl) (pe_callSD (G .law_choices) hr0 rfl T.g_law_choices (T.k.f_law_choices).kp T.k.b_law_choices_1 .nil hx (pa_cons (pv 4) pa_nil))) (pss_cons (ps_set (i := 6) nd rfl (by first | exact Or.inl rfl | exact Or.inr rfl) (pe_op op_addA pe_int (pe_op op_mulA (pe_op op_modI (pe_ix ix_seq (pv 0) (pe_op op_addA pe_int (pv 3)) (fun _ _ => rfl)) pe_int) (pe_callTy call_intA rfl T.z_int (by decide +kernel) (pa_cons (pe_and (pe_cmpR op_ltI (pv 2) pe_int (nomark _)) (pe_one (pe_cmpR op_gtI (pe_callB call_lenA rfl T.z_len (by decide +kernel) (pa_cons (pv 5) pa_nil)) pe_int (nomark _)))) pa_nil))))) (pss_one (ps_dput (hu_of hr) (pv 1) (pv 4) (pe_lc (own := [(("_law_j" : Str), 7)]) (by rfl) nd (pi_range1 (by rfl) T.z_range (pa_cons (pv 6) pa_nil)) (blkOk_by (own := [(("_law_j" : Str), 7)]) (N := N_law_options) (sc := defScope st_law_options) (by decide +kernel)) (fun _ _ _ _ _ => pg_name (i := 7) nd rfl (Or.inl rfl)) (fun _ _ _ _ _ => pts_nil) (fun _ _ _ _ _ => (pe_ix ix_seq (pv 5) (pe_op op_modI (pe_op op_addA (pe_ix ix_seq (pv 0) (pe_op op_addA pe_int (pv 3)) (fun _ _ => rfl)) (pv 7)) (pe_callB call_lenA rfl T.z_len (by decide +kernel) (pa_cons (pv 5) pa_nil))) (fun _ _ => rfl)))) rfl)))))) (pss_one (ps_ret (pv 1))))))
theorem ok_law_menu_books (T : Txt K w mg) (G : AllOk prog w K mg base k) : FnOk prog w K mg base (L2.CX prog w) (lev (k + 1)) ((dm .law_menu_books).adr K) (fdAt K ((dm .law_menu_books).adr K)) (ps .law_menu_books) (Gam K w (k + 1) .law_menu_books) := by
  have S : FnScope N_law_menu_books (ps .law_menu_books) (defScope st_law_menu_books) := ⟨rfl, rfl, rfl, by decide +kernel, rfl, by decide +kernel, by decide +kernel⟩
  have nd := S.nd
  refine FunD.ok (k := 2 * k + 1) T.k.f_law_menu_books S (fun vs H Q E h => h.1) (fun cdv A outer s H vs Q E hr h => ⟨rd_law_menu_books K (Gam K w k) E, ?_, h.2⟩)
  have hr0 : Room (lev k) _ := hr.mono (Nat.le_succ _)
  have tk : Takes (cxOf (L2.CX prog w) prog w K mg base N_law_menu_books ("_law_menu_books" : Str) (defScope st_law_menu_books) ((dm .law_menu_books).adr K) cdv A outer s H E) (fun cls d _ H => E cls d H) := takes_of rfl rfl rfl rfl
  have hx : ∀ σ, PassesAt (L2.CX prog w) (cxOf (L2.CX prog w) prog w K mg base N_law_menu_books ("_law_menu_books" : Str) (defScope st_law_menu_books) ((dm .law_menu_books).adr K) cdv A outer s H E) σ E := fun σ => passAt tk σ
  have hpo : PassesOwn (model prog w) _ _ (cxOf (L2.CX prog w) prog w K mg base N_law_menu_books ("_law_menu_books" : Str) (defScope st_law_menu_books) ((dm .law_menu_books).adr K) cdv A outer s H E).xe := passes_of rfl
  exact (pss_cons (ps_set (i := 2) nd rfl (by first | exact Or.inl rfl | exact Or.inr rfl) (pe_lst (pa_cons (pe_callTy call_dictA rfl T.z_dict (by decide +kernel) (pa_cons (pv 0) pa_nil)) pa_nil))) (pss_cons (ps_for hpo rfl (pi_list (pe_call0S (G .law_entries) hr0 rfl T.g_law_entries (T.k.f_law_entries).kp T.k.b_law_entries_0 .nil hx)) (pg_name (i := 3) nd rfl (by first | exact Or.inl rfl | exact Or.inr rfl)) (pss_one (ps_if (pt_cmpR (op_inA (hu_of hr)) (pv 3) (pv 1) (by rfl)) (pss_cons (ps_set (i := 4) nd rfl (by first | exact Or.inl rfl | exact Or.inr rfl) (pe_lst pa_nil)) (pss_cons (ps_for hpo rfl (pi_any (pv 2)) (pg_name (i := 5) nd rfl (by first | exact Or.inl rfl | exact Or.inr rfl)) (pss_one (ps_for hpo rfl (pi_list (pe_callSD (G .law_choices) hr0 rfl T.g_law_choices (T.k.f_law_choices).kp T.k.b_law_choices_1 .nil hx (pa_cons (pv 3) pa_nil))) (pg_name (i := 6) nd rfl (by first | exact Or.inl rfl | exact Or.inr rfl)) (pss_one (ps_if (pt_cmpR (op_inA (hu_of hr)) (pv 6) (pe_dget (hu_of hr) (pv 1) (pv 3) (fun _ _ => rfl)) (by rfl)) (pss_cons (ps_set (i := 7) nd rfl (by first | exact Or.inl rfl | exact Or.inr rfl) (pe_callTy call_dictA rfl T.z_dict (by decide +kernel) (pa_cons (pv 5) pa_nil))) (pss_cons (ps_dput (hu_of hr) (pv 7) (pv 3) (pv 6) rfl) (pss_one (ps_set (i := 4) nd rfl (by first | exact Or.inl rfl | exact Or.inr rfl) (pe_op op_addA (pv 4) (pe_lst (pa_cons (pv 7) pa_nil))))))) pss_nil))))) (pss_one (ps_set (i := 2) nd rfl (by first | exact Or.inl rfl | exact Or.inr rfl) (pv 4))))) pss_nil))) (pss_one (ps_ret (pv 2)))))
theorem ok_law_read_book (T : Txt K w mg) (G : AllOk prog w K mg base k) : FnOk prog w K mg base (L2.CX prog w) (lev (k + 1)) ((dm .law_read_book).adr K) (fdAt K ((dm .law_read_book).adr K)) (ps .law_read_book) (Gam K w (k + 1) .law_read_book) := by
  have S : FnScope N_law_read_book (ps .law_read_book) (defScope st_law_read_book) := ⟨rfl, rfl, rfl, by decide +kernel, rfl, by decide +kernel, by decide +kernel⟩
  have nd := S.nd
  refine FunD.ok (k := 2 * k + 1) T.k.f_law_read_book S (fun vs H Q E h => h.1) (fun cdv A outer s H vs Q E hr h => ⟨rd_law_read_book K (Gam K w k) E, ?_, h.2⟩)
  have hr0 : Room (lev k) _ := hr.mono (Nat.le_succ _)
  have tk : Takes (cxOf (L2.CX prog w) prog w K mg base N_law_read_book ("_law_read_book" : Str) (defScope st_law_read_book) ((dm .law_read_book).adr K) cdv A outer s H E) (fun cls d _ H => E cls d H) := takes_of rfl rfl rfl rfl
  have hx : ∀ σ, PassesAt (L2.CX prog w) (cxOf (L2.CX prog w) prog w K mg base N_law_read_book ("_law_read_book" : Str) (defScope st_law_read_book) ((dm .law_read_book).adr K) cdv A outer s H E) σ E := fun σ => passAt tk σ
  have hpo : PassesOwn (model prog w) _ _ (cxOf (L2.CX prog w) prog w K mg base N_law_read_book ("_law_read_book" : Str) (defScope st_law_read_book) ((dm .law_read_book).adr K) cdv A outer s H E).xe := passes_of rfl
  exact (pss_cons (ps_set (i := 1) nd rfl (by first | exact Or.inl rfl | exact Or.inr rfl) pe_dnewK) (pss_cons (ps_for hpo rfl (pi_list (pe_call0S (G .law_entries) hr0 rfl T.g_law_entries (T.k.f_law_entries).kp T.k.b_law_entries_0 .nil hx)) (pg_name (i := 2) nd rfl (by first | exact Or.inl rfl | exact Or.inr rfl)) (pss_one (ps_dput (hu_of hr) (pv 1) (pv 2) (pe_ownIx (G .Book_getitem) hr T.k.b_Book_getitem_2 hx T.k.sp_Book_getitem T.k.fi_Book_getitem (pv 0) (pv 2)) rfl))) (pss_one (ps_ret (pv 1)))))
theorem ok_law_bent (T : Txt K w mg) (G : AllOk prog w K mg base k) : FnOk prog w K mg base (L2.CX prog w) (lev (k + 1)) ((dm .law_bent).adr K) (fdAt K ((dm .law_bent).adr K)) (ps .law_bent) (Gam K w (k + 1) .law_bent) := by
  have S : FnScope N_law_bent (ps .law_bent) (defScope st_law_bent) := ⟨rfl, rfl, rfl, by decide +kernel, rfl, by decide +kernel, by decide +kernel⟩
  have nd := S.nd
  refine FunD.ok (k := 2 * k + 1) T.k.f_law_bent S (fun vs H Q E h => h.1) (fun cdv A outer s H vs Q E hr h => ⟨rd_law_bent K (Gam K w k) E, ?_, h.2⟩)
  have hr0 : Room (lev k) _ := hr.mono (Nat.le_succ _)
  have tk : Takes (cxOf (L2.CX prog w) prog w K mg base N_law_bent ("_law_bent" : Str) (defScope st_law_bent) ((dm .law_bent).adr K) cdv A outer s H E) (fun cls d _ H => E cls d H) := takes_of rfl rfl rfl rfl
  have hx : ∀ σ, PassesAt (L2.CX prog w) (cxOf (L2.CX prog w) prog w K mg base N_law_bent ("_law_bent" : Str) (defScope st_law_bent) ((dm .law_bent).adr K) cdv A outer s H E) σ E := fun σ => passAt tk σ
  have hpo : PassesOwn (model prog w) _ _ (cxOf (L2.CX prog w) prog w K mg base N_law_bent ("_law_bent" : Str) (defScope st_law_bent) ((dm .law_bent).adr K) cdv A outer s H E).xe := passes_of rfl
  exact (pss_cons (ps_set (i := 2) nd rfl (by first | exact Or.inl rfl | exact Or.inr rfl) (pe_callTy call_dictA rfl T.z_dict (by decide +kernel) (pa_cons (pv 0) pa_nil))) (pss_cons (ps_for hpo rfl (pi_range1 (by rfl) T.z_range (pa_cons (pe_op op_addA pe_int (pe_op op_modI (pe_ix ix_seq (pv 1) pe_int (fun _ _ => rfl)) pe_int)) pa_nil)) (pg_name (i := 3) nd rfl (by first | exact Or.inl rfl | exact Or.inr rfl)) (pss_cons (ps_set (i := 4) nd rfl (by first | exact Or.inl rfl | exact Or.inr rfl) (pe_ix ix_seq (pe_call0S (G .law_entries) hr0 rfl T.g_law_entries (T.k.f_law_entries).kp T.k.b_law_entries_0 .nil hx) (pe_op op_modI (pe_ix ix_seq (pv 1) (pe_op op_addA pe_int (pv 3)) (fun _ _ => rfl)) pe_int) (fun _ _ => rfl))) (pss_cons (ps_set (i := 5) nd rfl (by first | exact Or.inl rfl | exact Or.inr rfl) (pe_callSD (G .law_choices) hr0 rfl T.g_law_choices (T.k.f_law_choices).kp T.k.b_law_choices_1 .nil hx (pa_cons (pv 4) pa_nil))) (pss_one (ps_dput (hu_of hr) (pv 2) (pv 4) (pe_ix ix_seq (pv 5) (pe_op op_modI (pe_ix ix_seq (pv 1) (pe_op op_addA pe_int (pv 3)) (fun _ _ => rfl)) (pe_callB call_lenA rfl T.z_len (by decide +kernel) (pa_cons (pv 5) pa_nil))) (fun _ _ => rfl)) rfl))))) (pss_one (ps_ret (pv 2)))))
theorem ok_law_refused (T : Txt K w mg) (G : AllOk prog w K mg base k) : FnOk prog w K mg base (L2.CX prog w) (lev (k + 1)) ((dm .law_refused).adr K) (fdAt K ((dm .law_refused).adr K)) (ps .law_refused) (Gam K w (k + 1) .law_refused) := by
  have S : FnScope N_law_refused (ps .law_refused) (defScope st_law_refused) := ⟨rfl, rfl, rfl, by decide +kernel, rfl, by decide +kernel, by decide +kernel⟩
  have nd := S.nd
  refine FunD.ok (k := 2 * k + 1) T.k.f_law_refused S (fun vs H Q E h => h.1) (fun cdv A outer s H vs Q E hr h => ⟨rd_law_refused K (Gam K w k) E, ?_, h.2⟩)
  have hr0 : Room (lev k) _ := hr.mono (Nat.le_succ _)
  have tk : Takes (cxOf (L2.CX prog w) prog w K mg base N_law_refused ("_law_refused" : Str) (defScope st_law_refused) ((dm .law_refused).adr K) cdv A outer s H E) (fun cls d _ H => E cls d H) := takes_of rfl rfl rfl rfl
  have hx : ∀ σ, PassesAt (L2.CX prog w) (cxOf (L2.CX prog w) prog w K mg base N_law_refused ("_law_refused" : Str) (defScope st_law_refused) ((dm .law_refused).adr K) cdv A outer s H E) σ E := fun σ => passAt tk σ
  have hpo : PassesOwn (model prog w) _ _ (cxOf (L2.CX prog w) prog w K mg base N_law_refused ("_law_refused" : Str) (defScope st_law_refused) ((dm .law_refused).adr K) cdv A outer s H E).xe := passes_of rfl
  exact (pss_cons (ps_try_as (i := 2) rfl rfl nd rfl rfl (by exact ⟨rfl, by decide, .inl T.g_InvalidInput⟩) tk (fun W pn xe tk hpo => (pss_one (ps_expr (pe_makeS T.k.mk_Menu (G .Menu_init) hr (by rfl) T.g_Menu T.k.b_Menu_init_3 .nil (fun σ => passAt tk σ) (pa_cons (pv 0) (pa_cons (pv 1) pa_nil)))))) (fun a oe cls d pn hz hf => (pss_one (ps_ret (pe_callB (call_isX T.k.ec_InvalidInput hz hf) (by rfl) T.z_isinstance (by decide +kernel) (pa_cons (pv 2) (pa_cons (pe_bltn (by rfl) T.z_ValueError (by decide +kernel) rfl) pa_nil))))))) (pss_one (ps_ret pe_bl)))
theorem ok_law (T : Txt K w mg) (G : AllOk prog w K mg base k) (FR_Menu_books : GR_Menu_books w K mg base k) : FnOk prog w K mg base (L2.CX prog w) (lev (k + 1)) ((dm .law).adr K) (fdAt K ((dm .law).adr K)) (ps .law) (Gam K w (k + 1) .law) := by
  have S : FnScope N_law (ps .law) (defScope st_law) := ⟨rfl, rfl, rfl, by decide +kernel, rfl, by decide +kernel, by decide +kernel⟩
  have nd := S.nd
  refine FunD.ok (k := 2 * k + 1) T.k.f_law S (fun vs H Q E h => h.1) (fun cdv A outer s H vs Q E hr h => ⟨rd_law K (Gam K w k) E (GamG_Menu_books K w k), ?_, h.2⟩)
  have hr0 : Room (lev k) _ := hr.mono (Nat.le_succ _)
  have tk : Takes (cxOf (L2.CX prog w) prog w K mg base N_law ("law" : Str) (defScope st_law) ((dm .law).adr K) cdv A outer s H E) (fun cls d _ H => E cls d H) := takes_of rfl rfl rfl rfl
  have hx : ∀ σ, PassesAt (L2.CX prog w) (cxOf (L2.CX prog w) prog w K mg base N_law ("law" : Str) (defScope st_law) ((dm .law).adr K) cdv A outer s H E) σ E := fun σ => passAt tk σ
  have hpo : PassesOwn (model prog w) _ _ (cxOf (L2.CX prog w) prog w K mg base N_law ("law" : Str) (defScope st_law) ((dm .law).adr K) cdv A outer s H E).xe := passes_of rfl
  exact (pss_cons (ps_set (i := 1) nd rfl (by first | exact Or.inl rfl | exact Or.inr rfl) (pe_callSD (G .law_picks) hr0 rfl T.g_law_picks (T.k.f_law_picks).kp T.k.b_law_picks_1 .nil hx (pa_cons (pe_callSD (G .law_draws) hr0 rfl T.g_law_draws (T.k.f_law_draws).kp T.k.b_law_draws_3 .nil hx (pa_cons (pe_callSD (G .law_cell) hr0 rfl T.g_law_cell (T.k.f_law_cell).kp T.k.b_law_cell_2 .nil hx (pa_cons (pv 0) (pa_cons pe_int pa_nil))) (pa_cons pe_int (pa_cons pe_int pa_nil)))) pa_nil))) (pss_cons (ps_set (i := 2) nd rfl (by first | exact Or.inl rfl | exact Or.inr rfl) (pe_callSD (G .law_options) hr0 rfl T.g_law_options (T.k.f_law_options).kp T.k.b_law_options_1 .nil hx (pa_cons (pe_callSD (G .law_draws) hr0 rfl T.g_law_draws (T.k.f_law_draws).kp T.k.b_law_draws_3 .nil hx (pa_cons (pe_callSD (G .law_cell) hr0 rfl T.g_law_cell (T.k.f_law_cell).kp T.k.b_law_cell_2 .nil hx (pa_cons (pv 0) (pa_cons pe_int pa_nil))) (pa_cons pe_int (pa_cons pe_int pa_nil)))) pa_nil))) (pss_cons (ps_set (i := 3) nd rfl (by first | exact Or.inl rfl | exact Or.inr rfl) (pe_callSD (G .law_book) hr0 rfl T.g_law_book (T.k.f_law_book).kp T.k.b_law_book_1 .nil hx (pa_cons (pv 1) pa_nil))) (pss_cons (ps_set (i := 4) nd rfl (by first | exact Or.inl rfl | exact Or.inr rfl) pe_dnewK) (pss_cons (ps_lock (ps_for hpo rfl (pi_keys (pv 2)) (pg_name (i := 5) nd rfl (by first | exact Or.inl rfl | exact Or.inr rfl)) (pss_one (ps_dput (hu_of hr) (pv 4) (pv 5) (pe_callTy call_listA rfl T.z_list (by decide +kernel) (pa_cons (pe_dget (hu_of hr) (pv 2) (pv 5) (fun _ _ => rfl)) pa_nil)) rfl)))) (pss_cons (ps_set (i := 6) nd rfl (by first | exact Or.inl rfl | exact Or.inr rfl) (pe_makeS T.k.mk_Menu (G .Menu_init) hr rfl T.g_Menu T.k.b_Menu_init_3 .nil hx (pa_cons (pv 3) (pa_cons (pv 4) pa_nil)))) (pss_cons (ps_lock (ps_for hpo rfl (pi_keys (pv 2)) (pg_name (i := 5) nd rfl (by first | exact Or.inl rfl | exact Or.inr rfl)) (pss_one (ps_expr (pe_bm PySem.F.plainAttrs_list PySem.F.slot_list_append PySem.F.type_list_append mt_append (pe_dget (hu_of hr) (pv 4) (pv 5) (fun _ _ => rfl)) (pa_cons pe_str pa_nil)))))) (pss_cons (ps_set (i := 7) nd rfl (by first | exact Or.inl rfl | exact Or.inr rfl) (pe_ix ix_seq (pe_call0S (G .law_entries) hr0 rfl T.g_law_entries (T.k.f_law_entries).kp T.k.b_law_entries_0 .nil hx) (pe_op op_modI (pe_callSD (G .law_cell) hr0 rfl T.g_law_cell (T.k.f_law_cell).kp T.k.b_law_cell_2 .nil hx (pa_cons (pv 0) (pa_cons pe_int pa_nil))) pe_int) (fun _ _ => rfl))) (pss_cons (ps_ownPut (G .Book_setitem) hr0 T.k.b_Book_setitem_3 hx T.k.sp_Book_setitem T.k.ns_Book (pv 3) (pv 7) (pe_ix ix_seq (pe_callSD (G .law_choices) hr0 rfl T.g_law_choices (T.k.f_law_choices).kp T.k.b_law_choices_1 .nil hx (pa_cons (pv 7) pa_nil)) (pe_op op_modI (pe_op op_fdivI (pe_callSD (G .law_cell) hr0 rfl T.g_law_cell (T.k.f_law_cell).kp T.k.b_law_cell_2 .nil hx (pa_cons (pv 0) (pa_cons pe_int pa_nil))) pe_int) pe_int) (fun _ _ => rfl)) rfl) (pss_cons (ps_set (i := 8) nd rfl (by first | exact Or.inl rfl | exact Or.inr rfl) (pe_callSD (G .law_menu_books) hr0 rfl T.g_law_menu_books (T.k.f_law_menu_books).kp T.k.b_law_menu_books_2 .nil hx (pa_cons (pv 1) (pa_cons (pv 2) pa_nil)))) (pss_cons (ps_for hpo rfl (pi_range1 (by rfl) T.z_range (pa_cons pe_int pa_nil)) (pg_name (i := 9) nd rfl (by first | exact Or.inl rfl | exact Or.inr rfl)) (pss_one (ps_if (pt_cmpR (op_neLD (hu_of hr)) (L2.MR.pe_lcR hr.depth (own := [(("_law_one" : Str), 10)]) nd (L2.MR.pig2_meth0 (pv 6) T.k.c_Menu T.k.me_Menu_books FR_Menu_books hr T.k.b_Menu_books_1 .nil) (blkOk_by (own := [(("_law_one" : Str), 10)]) (N := N_law) (sc := defScope st_law) (by decide +kernel)) (by decide +kernel) (fun _ _ _ _ _ => pg_name (i := 10) nd rfl (Or.inl rfl)) (fun _ _ _ _ _ => pts_nil) (fun _ _ _ _ _ => (pe_callSD (G .law_read_book) hr0 rfl T.g_law_read_book (T.k.f_law_read_book).kp T.k.b_law_read_book_1 .nil (fun _ => passL0) (pa_cons (pv 10) pa_nil)))) (pv 8) (nomark _)) (pss_one (ps_ret pe_bl)) pss_nil))) (pss_cons (ps_set (i := 11) nd rfl (by first | exact Or.inl rfl | exact Or.inr rfl) (pe_callSD (G .law_bent) hr0 rfl T.g_law_bent (T.k.f_law_bent).kp T.k.b_law_bent_2 .nil hx (pa_cons (pe_ix ix_seq (pv 8) (pe_op op_modI (pe_callSD (G .law_cell) hr0 rfl T.g_law_cell (T.k.f_law_cell).kp T.k.b_law_cell_2 .nil hx (pa_cons (pv 0) (pa_cons pe_int pa_nil))) (pe_callB call_lenA rfl T.z_len (by decide +kernel) (pa_cons (pv 8) pa_nil))) (fun _ _ => rfl)) (pa_cons (pe_callSD (G .law_draws) hr0 rfl T.g_law_draws (T.k.f_law_draws).kp T.k.b_law_draws_3 .nil hx (pa_cons (pe_callSD (G .law_cell) hr0 rfl T.g_law_cell (T.k.f_law_cell).kp T.k.b_law_cell_2 .nil hx (pa_cons (pv 0) (pa_cons pe_int pa_nil))) (pa_cons pe_int (pa_cons pe_int pa_nil)))) pa_nil)))) (pss_cons (ps_for hpo rfl (pi_list (pe_lst (pa_cons (pe_ix ix_seq (pv 8) (pe_op op_modI (pe_callSD (G .law_cell) hr0 rfl T.g_law_cell (T.k.f_law_cell).kp T.k.b_law_cell_2 .nil hx (pa_cons (pv 0) (pa_cons pe_int pa_nil))) (pe_callB call_lenA rfl T.z_len (by decide +kernel) (pa_cons (pv 8) pa_nil))) (fun _ _ => rfl)) (pa_cons (pv 11) (pa_cons (pv 1) pa_nil))))) (pg_name (i := 12) nd rfl (by first | exact Or.inl rfl | exact Or.inr rfl)) (pss_cons (ps_set (i := 13) nd rfl (by first | exact Or.inl rfl | exact Or.inr rfl) (pe_cmpR (op_ownIn (G .Menu_contains) hr0 T.k.b_Menu_contains_2 T.k.sp_Menu_contains) (pe_callSD (G .law_book) hr0 rfl T.g_law_book (T.k.f_law_book).kp T.k.b_law_book_1 .nil hx (pa_cons (pv 12) pa_nil)) (pv 6) (by rfl))) (pss_one (ps_if (PW.pt (pw_or (pt_not (pt_val (pe_callB call_isi rfl T.z_isinstance (by decide +kernel) (pa_cons (pv 13) (pa_cons (pe_bltn rfl T.z_bool (by decide +kernel) rfl) pa_nil))))) (pw_or1 (pt_cmpR (op_neA hr.units) (pv 13) (pe_cmpR (op_inLD (hu_of hr)) (pv 12) (pv 8) (by rfl)) (nomark _))))) (pss_one (ps_ret pe_bl)) pss_nil)))) (pss_cons (ps_set (i := 14) nd rfl (by first | exact Or.inl rfl | exact Or.inr rfl) (pe_lst (pa_cons (pe_disp (pps_cons pe_str (pe_lst (pa_cons pe_str pa_nil)) pps_nil) (by rfl) (by rfl) (fun z => by cases z) (by decide)) (pa_cons (pe_disp (pps_cons pe_str (pe_lst pa_nil) pps_nil) (by rfl) (by rfl) (fun z => by cases z) (by decide)) (pa_cons (pe_disp (pps_cons pe_str (pe_lst (pa_cons pe_str pa_nil)) pps_nil) (by rfl) (by rfl) (fun z => by cases z) (by decide)) (pa_cons (pe_disp (pps_cons pe_str (pe_lst (pa_cons pe_str (pa_cons pe_str pa_nil))) pps_nil) (by rfl) (by rfl) (fun z => by cases z) (by decide)) pa_nil)))))) (pss_cons (ps_set (i := 14) nd rfl (by first | exact Or.inl rfl | exact Or.inr rfl) (pe_op op_addA (pv 14) (pe_lst (pa_cons (pe_disp (pps_cons pe_str (pe_lst (pa_cons pe_str (pa_cons pe_str pa_nil))) pps_nil) (by rfl) (by rfl) (fun z => by cases z) (by decide)) pa_nil)))) (pss_cons (ps_expr (pe_bm PySem.F.plainAttrs_list PySem.F.slot_list_append PySem.F.type_list_append mt_append (pv 14) (pa_cons (pe_disp (pps_cons pe_str (pe_callSD (G .law_choices) hr0 rfl T.g_law_choices (T.k.f_law_choices).kp T.k.b_law_choices_1 .nil hx (pa_cons pe_str pa_nil)) (pps_cons pe_str (pe_callSD (G .law_choices) hr0 rfl T.g_law_choices (T.k.f_law_choices).kp T.k.b_law_choices_1 .nil hx (pa_cons pe_str pa_nil)) (pps_cons pe_str (pe_lst (pa_cons pe_str (pa_cons pe_str pa_nil))) pps_nil))) (by rfl) (by rfl) (fun z => by cases z) (by decide)) pa_nil))) (pss_cons (ps_if (pt_not (pt_val (pe_callSD (G .law_refused) hr0 rfl T.g_law_refused (T.k.f_law_refused).kp T.k.b_law_refused_2 .nil hx (pa_cons (pv 3) (pa_cons (pe_ix ix_seq (pv 14) (pe_op op_modI (pe_callSD (G .law_cell) hr0 rfl T.g_law_cell (T.k.f_law_cell).kp T.k.b_law_cell_2 .nil hx (pa_cons (pv 0) (pa_cons pe_int pa_nil))) pe_int) (fun _ _ => rfl)) pa_nil))))) (pss_one (ps_ret pe_bl)) pss_nil) (pss_cons (ps_set (i := 15) nd rfl (by first | exact Or.inl rfl | exact Or.inr rfl) (pe_disp (pps_cons pe_str (pe_callSD (G .law_choices) hr0 rfl T.g_law_choices (T.k.f_law_choices).kp T.k.b_law_choices_1 .nil hx (pa_cons pe_str pa_nil)) (pps_cons pe_str (pe_callSD (G .law_choices) hr0 rfl T.g_law_choices (T.k.f_law_choices).kp T.k.b_law_choices_1 .nil hx (pa_cons pe_str pa_nil)) (pps_cons pe_str (pe_callSD (G .law_choices) hr0 rfl T.g_law_choices (T.k.f_law_choices).kp T.k.b_law_choices_1 .nil hx (pa_cons pe_str pa_nil)) pps_nil))) (by rfl) (by rfl) (fun z => by cases z) (by decide))) (pss_one (ps_ret (pe_and (pe_cmpR (op_eqA hr.units) (pe_callB call_lenA rfl T.z_len (by decide +kernel) (pa_cons (L2.MR.pe_lcR hr.depth (own := [(("_law_one" : Str), 10)]) nd (L2.MR.pig2_meth0 (pe_makeS T.k.mk_Menu (G .Menu_init) hr rfl T.g_Menu T.k.b_Menu_init_3 .nil hx (pa_cons (pv 3) (pa_cons (pv 15) pa_nil))) T.k.c_Menu T.k.me_Menu_books FR_Menu_books hr T.k.b_Menu_books_1 .nil) (blkOk_by (own := [(("_law_one" : Str), 10)]) (N := N_law) (sc := defScope st_law) (by decide +kernel)) (by decide +kernel) (fun _ _ _ _ _ => pg_name (i := 10) nd rfl (Or.inl rfl)) (fun _ _ _ _ _ => pts_nil) (fun _ _ _ _ _ => (pv 10))) pa_nil)) pe_int (nomark _)) (pe_one (pe_cmpR (op_eqA hr.units) (pe_callB call_lenA rfl T.z_len (by decide +kernel) (pa_cons (L2.MR.pe_lcR hr.depth (own := [(("_law_one" : Str), 10)]) nd (L2.MR.pig2_meth0 (pe_makeS T.k.mk_Menu (G .Menu_init) hr rfl T.g_Menu T.k.b_Menu_init_3 .nil hx (pa_cons (pv 3) (pa_cons pe_dnewK pa_nil))) T.k.c_Menu T.k.me_Menu_books FR_Menu_books hr T.k.b_Menu_books_1 .nil) (blkOk_by (own := [(("_law_one" : Str), 10)]) (N := N_law) (sc := defScope st_law) (by decide +kernel)) (by decide +kernel) (fun _ _ _ _ _ => pg_name (i := 10) nd rfl (Or.inl rfl)) (fun _ _ _ _ _ => pts_nil) (fun _ _ _ _ _ => (pv 10))) pa_nil)) pe_int (nomark _))))))))))))))))))))))))
theorem okG_Menu_books (T : Txt K w mg) (G : AllOk prog w K mg base k) : GR_Menu_books w K mg base (k + 1) := by
  have S : GScope N_Menu_books (ps .Menu_books) (defScope st_Menu_books) := ⟨rfl, rfl, rfl, by decide +kernel, rfl, by decide +kernel, by decide +kernel⟩
  have nd := S.nd
  refine L2.MR.GFnW.mono (k := lev k + 2) (by show 2 * k + 2 ≤ _; omega) (L2.MR.gfnwF (k := lev k) (N := N_Menu_books) T.k.f_Menu_books S (fun x => ⟨L2.MR.lookup_ne (by decide +kernel) x, L2.MR.lookup_ne (by decide +kernel) x⟩) (fun n => rfl) (fun vs J M R h => h.1) (fun vs J M R h => h.2.1) (fun vs J M R h => h.2.2.1) ?_)
  intro cdv C L vs ok hP hw hK hmg hbase hN henv hr0 hsp
  obtain ⟨P, w2, K2, mg2, base2, stack, A, J, N, env, M, R⟩ := C
  dsimp only at hP hw hK hmg hbase hN henv
  subst hP hw hK hmg hbase hN henv
  exact ⟨rdG_Menu_books K2 (Gam K2 w2 k) J M R, (L2.MR.gsts_one (L2.MR.gst_for ok (fun u hu => (pi_range1 (by rfl) T.z_range (pa_cons (pe_fld (pv 0) rfl) pa_nil))) (fun u hu => pg_name (i := 1) nd rfl (by first | exact Or.inl rfl | exact Or.inr rfl)) (L2.MR.gsts_one (L2.MR.gst_yieldR ok (fun u hu => (pe_methS (pv 0) T.k.c_Menu T.k.me_Menu_numbered (G .Menu_numbered) hr0 T.k.b_Menu_numbered_2 .nil (fun _ => passL0) (pa_cons (pv 1) pa_nil))))))), hsp.2.2.2⟩
end
theorem ok_zero {w : World} {K : PySem.W.Frag} {mg : Str → Option Value} {base : Heap} : AllOk prog w K mg base 0 := fun f => ⟨fun _ _ _ _ h => h.elim, fun _ _ _ _ _ _ _ _ _ _ _ _ _ h => h.elim⟩
theorem ok_pair {w : World} {K : PySem.W.Frag} {mg : Str → Option Value} {base : Heap} (T : Txt K w mg) : ∀ k, AllOk prog w K mg base k ∧ GR_Menu_books w K mg base k
  | 0 => ⟨ok_zero, L2.MR.GFnW.none⟩
  | k + 1 => by
    obtain ⟨A, R0⟩ := ok_pair T k
    exact ⟨fun f => match f with
      | .Book_init => ok_Book_init T A
      | .Book_getitem => ok_Book_getitem T A
      | .Book_setitem => ok_Book_setitem T A
      | .Book_copied => ok_Book_copied T A
      | .Menu_init => ok_Menu_init T A
      | .Menu_contains => ok_Menu_contains T A
      | .Menu_numbered => ok_Menu_numbered T A
      | .Menu_books => ok_Menu_books T A
      | .law_cell => ok_law_cell T A
      | .law_draws => ok_law_draws T A
      | .law_entries => ok_law_entries T A
      | .law_choices => ok_law_choices T A
      | .law_picks => ok_law_picks T A
      | .law_book => ok_law_book T A
      | .law_options => ok_law_options T A
      | .law_menu_books => ok_law_menu_books T A
      | .law_read_book => ok_law_read_book T A
      | .law_bent => ok_law_bent T A
      | .law_refused => ok_law_refused T A
      | .law => ok_law T A R0
      , okG_Menu_books T A⟩
theorem ok_all {w : World} {K : PySem.W.Frag} {mg : Str → Option Value} {base : Heap} (T : Txt K w mg) (k : Nat) : AllOk prog w K mg base k := (ok_pair T k).1
end L2.MP

set_option Elab.async false
set_option linter.all false
set_option maxRecDepth 100000
set_option maxHeartbeats 4000000
namespace L2.MP
open PySem PySem.Spec PyProof.Rows L2
local macro_rules | `(tactic| walk_at "ne") => `(tactic| first
  | with_reducible assumption
  | ((with_reducible apply Ne.symm); with_reducible assumption)
  | ((with_reducible refine' ne_of_none ?a ?b); (case b => with_reducible assumption); (case a => walk_at "hp"))
  | ((with_reducible apply Ne.symm); (with_reducible refine' ne_of_none ?a ?b); (case b => with_reducible assumption); (case a => walk_at "hp"))
  | (refine' ne_of (by with_reducible assumption) (by with_reducible assumption) ?_; intro z; cases z))
local macro_rules | `(tactic| walk_at "hs") => `(tactic| first
  | with_reducible assumption
  | with_reducible exact upd_same
  | ((with_reducible apply up_new); (with_reducible assumption))
  | ((with_reducible apply Ex.at); (with_reducible assumption))
  | ((with_reducible apply up_ne); (walk_at "ne")))
local macro_rules | `(tactic| walk_at "hp") => `(tactic| ((repeat walk_at "hs"); done))
local macro_rules | `(tactic| walk_at "ss") => `(tactic| first
  | with_reducible assumption
  | ((with_reducible apply sqL_of); first | with_reducible assumption | with_reducible exact upd_same)
  | ((with_reducible apply sqT_of); first | with_reducible assumption | with_reducible exact upd_same)
  | ((with_reducible apply up_sqL); (with_reducible assumption))
  | ((with_reducible apply up_sqT); (with_reducible assumption))
  | ((with_reducible apply Ex.sqL); (with_reducible assumption))
  | ((with_reducible apply Ex.sqT); (with_reducible assumption))
  | ((with_reducible apply sqL_ne); (walk_at "ne"))
  | ((with_reducible apply sqT_ne); (walk_at "ne")))
local macro_rules | `(tactic| walk_at "sq") => `(tactic| ((repeat walk_at "ss"); done))
local macro_rules | `(tactic| walk_at "fl") => `(tactic| first
  | exact rfl
  | decide +kernel
  | (simp [flatOk, flat1]; done)
  | ((simp [flatOk, flat1]); decide +kernel))
local macro_rules | `(tactic| walk_at "ib") => `(tactic| first
  | omega
  | (refine Int.emod_nonneg _ ?_; omega)
  | (refine Int.emod_lt_of_pos _ ?_; omega))
local macro_rules | `(tactic| walk_at "ex") => `(tactic| first
  | with_reducible exact Ex.refl _
  | with_reducible assumption
  | ((with_reducible refine' Ex.trans ?a ?b); (case b => with_reducible assumption); (case a => walk_at "ex"))
  | ((with_reducible refine' Ex.new' ?a ?b); (case b => walk_at "nn"); (case a => walk_at "ex")))
local macro_rules | `(tactic| walk_at "nn") => `(tactic| first
  | with_reducible assumption
  | ((with_reducible refine' Ex.none ?a ?b); (case b => with_reducible assumption); (case a => walk_at "ex")))
local macro_rules | `(tactic| walk_at "bt") => `(tactic| first
  | exact rfl
  | (simp only [Bool.not_true, Bool.not_false, Bool.true_or, Bool.false_or, Bool.true_and, Bool.false_and, Bool.or_true, Bool.or_false, Bool.and_true, Bool.and_false, Bool.not_eq_true', Bool.not_eq_false', Bool.or_eq_true, Bool.or_eq_false_iff, Bool.and_eq_true, Bool.and_eq_false_iff, decide_eq_true_eq, decide_eq_false_iff_not] <;> omega)
  | (simp; done)
  | (simp; omega))
local macro_rules | `(tactic| walk_at "len") => `(tactic| first
  | exact Nat.le_of_ble_eq_true rfl
  | (simp only [List.length_cons, List.length_nil, List.length_append, List.length_map]; omega)
  | omega)
local macro_rules | `(tactic| walk_at "un") => `(tactic| fail)
local macro_rules | `(tactic| walk_at "st") => `(tactic| first
  | with_reducible refine W.w ?_
  | ((with_reducible refine' k_rfld ?h ?i ?j ?q); (case h => walk_at "hp"); (case i => infer_instance); (case j => infer_instance))
  | ((with_reducible refine' k_newTA ?h ?q); (case h => walk_at "len"); intro p H' hp he hm)
  | ((with_reducible refine' k_newLA ?h ?q); (case h => walk_at "len"); intro p H' hp he hm)
  | ((with_reducible refine' o_addLA ?h1 ?h2 ?h ?q); (case h1 => walk_at "hp"); (case h2 => walk_at "hp"); (case h => walk_at "len"); intro p H' hp he hm; dsimp only [List.cons_append, List.nil_append] at hm)
  | ((with_reducible refine' o_mod ?h ?q); (case h => first | decide | omega))
  | ((with_reducible refine' o_fdiv ?h ?q); (case h => first | exact ⟨by first | decide | omega, by first | decide | omega⟩ | exact ⟨by split <;> decide, by split <;> decide⟩))
  | ((with_reducible refine' o_mulI ?h ?q); (case h => first | exact .inl ⟨by first | decide | omega, by first | decide | omega⟩ | exact .inr ⟨by first | decide | omega, by first | decide | omega⟩))
  | ((with_reducible refine' o_ixTn ?h ?h0 ?e ?q); (case h => walk_at "sq"); (case h0 => decide); (case e => exact rfl))
  | ((with_reducible refine' o_ixLn ?h ?h0 ?e ?q); (case h => walk_at "sq"); (case h0 => decide); (case e => exact rfl))
  | ((with_reducible refine' o_ixD ?h ?h0 ?h1 ?q); (case h => walk_at "sq"); (case h0 => walk_at "ib"); (case h1 => walk_at "ib"))
  | ((with_reducible refine' o_ixSv ?h ?h0 ?h1 ?q); (case h => walk_at "sq"); (case h0 => walk_at "ib"); (case h1 => walk_at "ib"))
  | ((with_reducible refine' o_ix2S ?h ?q); (case h => walk_at "sq"))
  | ((with_reducible refine' o_ix2PT ?h ?hp ?q); (case h => walk_at "sq"); (case hp => omega))
  | ((with_reducible refine' o_ix2PL ?h ?hp ?q); (case h => walk_at "sq"); (case hp => omega))
  | ((with_reducible refine' o_inTI ?h ?c ?q); (case h => walk_at "sq"); (case c => infer_instance))
  | ((with_reducible refine' o_inLI ?h ?c ?q); (case h => walk_at "sq"); (case c => infer_instance))
  | ((with_reducible refine' o_ix2I ?h ?q); (case h => walk_at "sq"))
  | ((with_reducible refine' o_lenLS ?h ?q); (case h => walk_at "sq"))
  | ((with_reducible refine' o_lenLI ?h ?q); (case h => walk_at "sq"))
  | ((with_reducible refine' o_lenL ?h ?q); (case h => walk_at "sq"))
  | ((with_reducible refine' o_lenT ?h ?q); (case h => walk_at "sq"))
  | with_reducible refine' i_plain ?_
  | with_reducible refine' i_plainC ?_
  | ((with_reducible refine' i_insC ?h ?i ?c ?q); (case h => walk_at "hp"); (case i => infer_instance); (case c => infer_instance))
  | ((with_reducible refine' i_lst ?h ?c ?q); (case h => walk_at "hp"); (case c => infer_instance))
  | ((with_reducible refine' i_tup ?h ?c ?q); (case h => walk_at "hp"); (case c => infer_instance))
  | ((with_reducible refine' k_rprop ?h ?q); (case h => walk_at "hp"))
  | ((with_reducible refine' k_rmkK ?hl ?hg ?q); (case hl => exact rfl); (case hg => exact fun _ => rfl))
  | ((with_reducible refine' k_rmeth ?h ?i ?q); (case h => walk_at "hp"); (case i => infer_instance))
  | ((with_reducible refine' k_randP ?h2 ?q); (case h2 => intro _ hq; (walk_at "go"); with_reducible exact hq))
  | ((with_reducible refine' k_rorP ?h2 ?q); (case h2 => intro _ hq; (walk_at "go"); with_reducible exact hq))
  | with_reducible refine k_randS ?_
  | with_reducible refine k_rorS ?_
  | ((with_reducible refine' k_rifI ?h1 ?h2 ?q); (case h1 => intro _ hq; (walk_at "go"); with_reducible exact hq); (case h2 => intro _ hq; (walk_at "go"); with_reducible exact hq))
  | with_reducible refine k_rifS ?_
  | ((with_reducible refine' k_randtP ?h2 ?q); (case h2 => intro _ hq; (walk_at "go"); with_reducible exact hq))
  | ((with_reducible refine' k_rortP ?h2 ?q); (case h2 => intro _ hq; (walk_at "go"); with_reducible exact hq))
  | with_reducible refine k_randtS ?_
  | with_reducible refine k_rortS ?_
  | ((with_reducible refine' k_own ?h ?i ?q); (case h => walk_at "hp"); (case i => walk_at "hp"))
  | ((with_reducible refine' k_ownI ?h ?q); (case h => walk_at "hp"))
  | ((with_reducible refine' k_ownA ?h ?q); (case h => walk_at "hp"))
  | ((with_reducible refine' k_rputU ?i ?j ?q); (case i => infer_instance); (case j => infer_instance))
  | ((with_reducible refine' k_rput ?h ?i ?j ?q); (case h => walk_at "hp"); (case i => infer_instance); (case j => infer_instance))
  | ((with_reducible refine' k_dispA ?h ?q); (case h => exact Nat.le_of_ble_eq_true rfl); intro p H' hp he hm)
  | ((with_reducible refine' k_newDA ?q); intro p H' hp he hm)
  | ((with_reducible refine' k_rdgetC ?h ?e ?q); (case h => walk_at "hp"); (case e => infer_instance))
  | ((with_reducible refine' k_rdg2 ?h ?q); (case h => walk_at "hp"))
  | ((with_reducible refine' k_rdo ?h ?q); (case h => walk_at "hp"))
  | ((with_reducible refine' k_rdputU ?hl ?e ?q); (case hl => exact Nat.le_of_ble_eq_true rfl); (case e => infer_instance))
  | ((with_reducible refine' k_rdputC ?h ?hl ?e ?q); (case h => walk_at "hp"); (case hl => exact Nat.le_of_ble_eq_true rfl); (case e => infer_instance))
  | ((with_reducible refine' k_rbmL ?h ?q); (case h => walk_at "sq"))
  | ((with_reducible refine' o_appendU ?hl ?q); (case hl => walk_at "len"))
  | ((with_reducible refine' o_append ?h ?hl ?q); (case h => walk_at "hp"); (case hl => walk_at "len"))
  | ((with_reducible refine' k_rownIx ?h ?q); (case h => walk_at "hp"))
  | ((with_reducible refine' k_rownPut ?h ?q); (case h => walk_at "hp"))
  | ((with_reducible refine' o_inT ?h ?q); (case h => walk_at "sq"))
  | ((with_reducible refine' o_ninT ?h ?q); (case h => walk_at "sq"))
  | ((with_reducible refine' o_inL ?h ?q); (case h => walk_at "sq"))
  | ((with_reducible refine' o_ninL ?h ?q); (case h => walk_at "sq"))
  | ((with_reducible refine' k_turnR ?e ?q); (case e => exact rfl))
  | ((with_reducible refine' k_turnL ?h ?q); (case h => walk_at "sq"))
  | ((with_reducible refine' k_doneL ?h ?q); (case h => walk_at "sq"))
  | ((with_reducible refine' k_turnT ?h ?q); (case h => walk_at "sq"))
  | ((with_reducible refine' k_doneT ?h ?q); (case h => walk_at "sq"))
  | ((with_reducible refine' o_tupL ?h ?q); (case h => walk_at "sq"); intro p H' hp he hm)
  | ((with_reducible refine' o_lisL ?h ?q); (case h => walk_at "sq"); intro p H' hp he hm)
  | ((with_reducible refine' o_lisT ?h ?q); (case h => walk_at "sq"); intro p H' hp he hm)
  | ((with_reducible refine' o_tupT ?h ?q); (case h => walk_at "sq"))
  | ((with_reducible refine' k_rdyn ?h ?i ?c ?q); (case h => walk_at "hp"); (case i => infer_instance); (case c => infer_instance))
  | walk_at "un"
  | walk_at "cs"
  | ((with_reducible refine' k_itdT ?h ?q); (case h => first | with_reducible assumption | omega | decide))
  | ((with_reducible refine' k_itdF ?h ?q); (case h => first | with_reducible assumption | omega | decide))
  | ((with_reducible refine' k_ifT ?h ?q); (case h => walk_at "bt"))
  | ((with_reducible refine' k_ifF ?h ?q); (case h => walk_at "bt")))
local macro_rules | `(tactic| walk_at "go") => `(tactic| repeat walk_at "st")
local macro_rules | `(tactic| walk_at "sp") => `(tactic| repeat' (first | walk_at "st" | refine k_itd (fun h => ?_) (fun h => ?_) | refine k_itb (fun h => ?_) (fun h => ?_)))
section
open PySem PySem.Spec PyProof.Rows
/-! ### the stepping tactic -/
local macro_rules | `(tactic| walk_at "cs") => `(tactic| fail)
section
variable {K : PySem.W.Frag} [TxtK K] {w : World} {k : Nat} {H : Hp} {Q : VK} {E : XK} {xs : List V} {a b : Addr}
theorem s_law_entries (hv : xs = []) (q : ∀ p H', H p = none → Ex H H' → H' p = some (.lst (ENT.map V.str)) → Q (.ref p) H') : Gam K w (k + 1) .law_entries xs H Q E := by
  subst hv
  refine ⟨rfl, ?_⟩
  unfold rd_law_entries
  refine k_start ?_
  walk_at "go"
  rename_i p H' hp he hm
  exact q p H' hp he hm
theorem s_law_choices {e : Str} (hv : xs = [.str e]) (he : e ∈ ENT) (q : ∀ p H', H p = none → Ex H H' → H' p = some (.lst ((chs e).map V.str)) → Q (.ref p) H') : Gam K w (k + 1) .law_choices xs H Q E := by
  subst hv
  refine ⟨rfl, ?_⟩
  unfold rd_law_choices
  refine k_start ?_
  walk_at "go"
  rw [(chx_ok e he).1.1]
  walk_at "go"
  refine o_splitA (by decide) (by have := (chx_ok e he).2.1; omega) (chx_ok e he).1.2 (by have := (chx_ok e he).2.2.1; omega) ?_
  intro p H' hp he hm
  exact q p H' (by walk_at "nn") (by walk_at "ex") hm
theorem s_law_choicesV {e : Str} {vs : List V} (hv : xs = [.str e]) (he : InE e) (hc : ChV e vs) (q : ∀ p H', H p = none → Ex H H' → H' p = some (.lst vs) → Q (.ref p) H') : Gam K w (k + 1) .law_choices xs H Q E :=
  s_law_choices hv he.mem fun p H' hp hx hm => q p H' hp hx (by rw [hc.eq] at hm; exact hm)
end
local macro_rules | `(tactic| walk_at "cs") => `(tactic| ((with_reducible refine' s_law_entries ?hv ?q); (case hv => exact rfl); intro p H' hp he hm))
local macro_rules | `(tactic| walk_at "cs") => `(tactic| ((with_reducible refine' s_law_choices ?hv ?he ?q); (case hv => exact rfl); (case he => first | with_reducible assumption | exact InE.mem); intro p H' hp he hm))
section
variable {K : PySem.W.Frag} [TxtK K] {w : World} {k : Nat} {H : Hp} {Q : VK} {E : XK} {xs : List V} {a b : Addr}
def rng60 (ds : List Int) : Prop := ∀ d ∈ ds, 0 ≤ d ∧ d < 60
theorem s_law_draws {c s : Int} {many : Nat} (hv : xs = [.int c, .int many, .int s]) (hm : many ≤ 1000) (hs : 0 ≤ s ∧ s < 1000) (q : ∀ p H' ds, H p = none → Ex H H' → H' p = some (.lst (ds.map V.int)) → ds.length = many → rng60 ds → Q (.ref p) H') :
    Gam K w (k + 1) .law_draws xs H Q E := by
  subst hv
  refine ⟨rfl, ?_⟩
  unfold rd_law_draws
  refine k_start ?_
  walk_at "go"
  rename_i p H1 hp he hm1
  generalize hsz : (if c < 0 then -c else c) = sz
  have hsz0 : 0 ≤ sz := by subst hsz; split <;> omega
  clear hsz
  refine k_rr1I ⟨by omega, by omega⟩ (fun m σ H' => ∃ (r : Int) (ds : List Int) (u v : Option V), σ = [some (.int c), some (.int many), some (.int s), some (.int sz), some (.int r), some (.ref p), u, v] ∧ 0 ≤ r ∧ ds.length = m ∧ rng60 ds ∧ Ex H H' ∧ H' p = some (.lst (ds.map V.int)))
    ⟨sz, [], none, none, rfl, hsz0, rfl, (fun d hd => nomatch hd), he, hm1⟩ ?_ ?_
  · intro m σ H' hm' hI
    obtain ⟨r, ds, u, v, rfl, hr0, hl, hd, hx, hm⟩ := hI
    dsimp only [List.set]
    walk_at "go"
    refine k_itb (fun h => ?_) (fun h => ?_)
    · walk_at "go"
      refine ⟨r / 60, ds ++ [r % 60], some (.int m), v, rfl, by omega, by simp [hl], fun d hd' => ?_, hx.new' hp, by rw [upd_same, List.map_append]; rfl⟩
      rcases List.mem_append.mp hd' with z | z
      · exact hd d z
      · simp only [List.mem_cons, List.not_mem_nil, or_false] at z; subst z; omega
    · walk_at "go"
      refine ⟨r, ds ++ [_], some (.int m), some (.int _), rfl, hr0, by simp [hl], fun d hd' => ?_, hx.new' hp, by rw [upd_same, List.map_append]; rfl⟩
      rcases List.mem_append.mp hd' with z | z
      · exact hd d z
      · simp only [List.mem_cons, List.not_mem_nil, or_false] at z; subst z; omega
  · rintro σ H' ⟨r, ds, u, v, rfl, hr0, hl, hd, hx, hm⟩
    walk_at "go"
    exact q p _ ds hp hx hm (by simpa using hl) hd
end
local macro_rules | `(tactic| walk_at "cs") => `(tactic| ((with_reducible refine' s_law_draws ?hv ?hm ?hs ?q); (case hv => exact rfl); (case hm => decide); (case hs => decide); intro p H' ds hp he hm hl hr))
local macro_rules | `(tactic| walk_at "cs") => `(tactic| ((with_reducible refine' k_ninEnt ?q)))
local macro_rules | `(tactic| walk_at "cs") => `(tactic| ((with_reducible refine' k_lenEnt ?q)))
local macro_rules | `(tactic| walk_at "cs") => `(tactic| ((with_reducible refine' o_ixTn ?h ?h0 ?e ?q); (case h => exact ent_sq); (case h0 => decide); (case e => exact rfl)))
local macro_rules | `(tactic| walk_at "cs") => `(tactic| ((with_reducible refine' k_ixW ?he ?q); (case he => first | with_reducible assumption | exact InE.mem)))
local macro_rules | `(tactic| walk_at "cs") => `(tactic| ((with_reducible refine' k_ninCh ?he ?q); (case he => first | with_reducible assumption | exact InE.mem)))
local macro_rules | `(tactic| walk_at "cs") => `(tactic| ((with_reducible refine' k_ninEntT ?he ?q); (case he => first | with_reducible assumption | exact InE.mem)))
local macro_rules | `(tactic| walk_at "cs") => `(tactic| ((with_reducible refine' k_ninChT ?he ?hc ?q); (case he => first | with_reducible assumption | exact InE.mem); (case hc => first | with_reducible assumption | decide +kernel)))
section
variable {K : PySem.W.Frag} [TxtK K] {w : World} [BookW K w] {k : Nat} {H : Hp} {Q : VK} {E : XK} {xs : List V} {a b d dx : Addr}
theorem s_Book_getitem {f : Str → Str} {e v : Str} (hv : xs = [.ref a, .str e]) (ha : H a = some (.ins (He.ga K "Book") dx (fs_Book (.ref d)))) (hd : H d = some (.dK (bk f))) (he : InE e) (hf : FEq f e v) (q : Q (.str v) H) : Gam K w (k + 1) .Book_getitem xs H Q E := by
  subst hv
  refine ⟨rfl, ?_⟩
  unfold rd_Book_getitem
  refine k_start ?_
  have hm := he.mem
  walk_at "go"
  refine k_bkget (by walk_at "hp") hm ?_
  rw [hf.eq]
  exact q
theorem s_Book_setitem {f : Str → Str} {e c : Str} (hv : xs = [.ref a, .str e, .str c]) (ha : H a = some (.ins (He.ga K "Book") dx (fs_Book (.ref d)))) (hd : H d = some (.dK (bk f))) (he : InE e) (hc : c ∈ chs e) (q : Q .non (upd H d (.dK (bk (fset f e c))))) : Gam K w (k + 1) .Book_setitem xs H Q E := by
  subst hv
  refine ⟨rfl, ?_⟩
  unfold rd_Book_setitem
  refine k_start ?_
  have hm := he.mem
  walk_at "go"
  exact k_bkput hd hm q
theorem s_Book_setitemU {f : Str → Str} {e c : Str} (hv : xs = [.ref a, .str e, .str c]) (ha : upd H d (.dK (bk f)) a = some (.ins (He.ga K "Book") dx (fs_Book (.ref d)))) (he : InE e) (hc : c ∈ chs e) (q : Q .non (upd H d (.dK (bk (fset f e c))))) : Gam K w (k + 1) .Book_setitem xs (upd H d (.dK (bk f))) Q E :=
  s_Book_setitem hv ha upd_same he hc (by rw [upd_upd]; exact q)
theorem s_Book_init {x : Addr} {c0 c1 c2 c3 c4 c5 c6 c7 c8 c9 : Str} (hv : xs = [.ref x, .str c0, .str c1, .str c2, .str c3, .str c4, .str c5, .str c6, .str c7, .str c8, .str c9]) (hx : H x = some (.ins (He.ga K "Book") dx []))
    (h0 : c0 ∈ chs "work") (h1 : c1 ∈ chs "write") (h2 : c2 ∈ chs "meet") (h3 : c3 ∈ chs "test") (h4 : c4 ∈ chs "partly") (h5 : c5 ∈ chs "value") (h6 : c6 ∈ chs "path") (h7 : c7 ∈ chs "loop") (h8 : c8 ∈ chs "guard") (h9 : c9 ∈ chs "call")
    (q : ∀ d H', H d = none → (∀ a o, a ≠ x → H a = some o → H' a = some o) → H' x = some (.ins (He.ga K "Book") dx (fs_Book (.ref d))) → H' d = some (.dK (bk (fL [c0, c1, c2, c3, c4, c5, c6, c7, c8, c9]))) → Q .non H') : Gam K w (k + 1) .Book_init xs H Q E := by
  subst hv
  refine ⟨rfl, ?_⟩
  unfold rd_Book_init
  refine k_start ?_
  walk_at "go"
  rename_i t H1 ht he1 hm1 d H2 hd he2 hm2
  refine k_rr1L 10 rfl (by decide) ?_
  walk_at "go"
  simp only [bk_fL] at q
  refine q d _ (by walk_at "nn") (fun a o hne ha => ?_) (by walk_at "hp") upd_same
  have h1 : a ≠ d := ne_of_none (he1.at ha) hd
  exact up_ne h1 (up_ne hne (he2.at (he1.at ha)))
theorem s_mkBook {c0 c1 c2 c3 c4 c5 c6 c7 c8 c9 : Str} (hv : xs = [.str c0, .str c1, .str c2, .str c3, .str c4, .str c5, .str c6, .str c7, .str c8, .str c9])
    (h0 : c0 ∈ chs "work") (h1 : c1 ∈ chs "write") (h2 : c2 ∈ chs "meet") (h3 : c3 ∈ chs "test") (h4 : c4 ∈ chs "partly") (h5 : c5 ∈ chs "value") (h6 : c6 ∈ chs "path") (h7 : c7 ∈ chs "loop") (h8 : c8 ∈ chs "guard") (h9 : c9 ∈ chs "call")
    (q : ∀ x dx d H', H x = none → H d = none → d ≠ x → Ex H H' → H' x = some (.ins (He.ga K "Book") dx (fs_Book (.ref d))) → H' d = some (.dK (bk (fL [c0, c1, c2, c3, c4, c5, c6, c7, c8, c9]))) → Q (.ref x) H') : RMk (He.ga K "Book") (Gam K w (k + 1) .Book_init) xs E H Q := by
  subst hv
  intro x dx hx hd hn
  refine s_Book_init rfl upd_same h0 h1 h2 h3 h4 h5 h6 h7 h8 h9 fun d H' hd' hk hx' hdk => ⟨rfl, ?_⟩
  refine q x dx d H' hx (up_none (up_none hd')) (fun z => ?_) (fun a o ha => hk a o (ne_of_none ha hx) (up_new' hx (up_new hd ha))) hx' hdk
  subst z
  rw [upd_same] at hd'
  cases hd'
end
local macro_rules | `(tactic| walk_at "cs") => `(tactic| ((with_reducible refine' s_Book_getitem ?hv ?ha ?hd ?he ?hf ?q); (case hv => exact rfl); (case ha => walk_at "hp"); (case hd => walk_at "hp"); (case he => infer_instance); (case hf => infer_instance)))
local macro_rules | `(tactic| walk_at "cs") => `(tactic| ((with_reducible refine' s_Book_setitem ?hv ?ha ?hd ?he ?hc ?q); (case hv => exact rfl); (case ha => walk_at "hp"); (case hd => walk_at "hp"); (case he => infer_instance); (case hc => first | with_reducible assumption | decide +kernel)))
local macro_rules | `(tactic| walk_at "cs") => `(tactic| ((with_reducible refine' s_mkBook ?hv ?h0 ?h1 ?h2 ?h3 ?h4 ?h5 ?h6 ?h7 ?h8 ?h9 ?q); (case hv => exact rfl); (case h0 => decide +kernel); (case h1 => decide +kernel); (case h2 => decide +kernel); (case h3 => decide +kernel); (case h4 => decide +kernel); (case h5 => decide +kernel); (case h6 => decide +kernel); (case h7 => decide +kernel); (case h8 => decide +kernel); (case h9 => decide +kernel); intro x dx d H' hx hd hn he hxm hdm))
local macro_rules | `(tactic| walk_at "cs") => `(tactic| ((with_reducible refine' s_Book_setitemU ?hv ?ha ?he ?hc ?q); (case hv => exact rfl); (case ha => walk_at "hp"); (case he => infer_instance); (case hc => first | with_reducible assumption | decide +kernel)))
end

set_option Elab.async false
set_option linter.all false
set_option maxRecDepth 100000
set_option maxHeartbeats 4000000
section
open PySem PySem.Spec PyProof.Rows
/-! ### the stepping tactic -/
local macro_rules | `(tactic| walk_at "cs") => `(tactic| fail)
local macro_rules | `(tactic| walk_at "cs") => `(tactic| ((with_reducible refine' s_law_entries ?hv ?q); (case hv => exact rfl); intro p H' hp he hm))
local macro_rules | `(tactic| walk_at "cs") => `(tactic| ((with_reducible refine' s_law_choices ?hv ?he ?q); (case hv => exact rfl); (case he => first | with_reducible assumption | exact InE.mem); intro p H' hp he hm))
local macro_rules | `(tactic| walk_at "cs") => `(tactic| ((with_reducible refine' s_law_choicesV ?hv ?he ?hc ?q); (case hv => exact rfl); (case he => infer_instance); (case hc => infer_instance); intro p H' hp he hm))
local macro_rules | `(tactic| walk_at "cs") => `(tactic| ((with_reducible refine' s_law_draws ?hv ?hm ?hs ?q); (case hv => exact rfl); (case hm => decide); (case hs => decide); intro p H' ds hp he hm hl hr))
local macro_rules | `(tactic| walk_at "cs") => `(tactic| ((with_reducible refine' k_ninEnt ?q)))
local macro_rules | `(tactic| walk_at "cs") => `(tactic| ((with_reducible refine' k_lenEnt ?q)))
local macro_rules | `(tactic| walk_at "cs") => `(tactic| ((with_reducible refine' o_ixTn ?h ?h0 ?e ?q); (case h => exact ent_sq); (case h0 => decide); (case e => exact rfl)))
local macro_rules | `(tactic| walk_at "cs") => `(tactic| ((with_reducible refine' k_ixW ?he ?q); (case he => first | with_reducible assumption | exact InE.mem)))
local macro_rules | `(tactic| walk_at "cs") => `(tactic| ((with_reducible refine' k_ninCh ?he ?q); (case he => first | with_reducible assumption | exact InE.mem)))
local macro_rules | `(tactic| walk_at "cs") => `(tactic| ((with_reducible refine' k_ninEntT ?he ?q); (case he => first | with_reducible assumption | exact InE.mem)))
local macro_rules | `(tactic| walk_at "cs") => `(tactic| ((with_reducible refine' k_ninChT ?he ?hc ?q); (case he => first | with_reducible assumption | exact InE.mem); (case hc => first | with_reducible assumption | decide +kernel)))
local macro_rules | `(tactic| walk_at "cs") => `(tactic| ((with_reducible refine' k_bkput ?h ?he ?q); (case h => walk_at "hp"); (case he => first | with_reducible assumption | exact InE.mem)))
local macro_rules | `(tactic| walk_at "cs") => `(tactic| ((with_reducible refine' k_bkget ?h ?he ?q); (case h => walk_at "hp"); (case he => first | with_reducible assumption | exact InE.mem)))
local macro_rules | `(tactic| walk_at "cs") => `(tactic| ((with_reducible refine' s_Book_getitem ?hv ?ha ?hd ?he ?hf ?q); (case hv => exact rfl); (case ha => walk_at "hp"); (case hd => walk_at "hp"); (case he => infer_instance); (case hf => infer_instance)))
local macro_rules | `(tactic| walk_at "cs") => `(tactic| ((with_reducible refine' s_Book_setitem ?hv ?ha ?hd ?he ?hc ?q); (case hv => exact rfl); (case ha => walk_at "hp"); (case hd => walk_at "hp"); (case he => infer_instance); (case hc => first | with_reducible assumption | decide +kernel)))
local macro_rules | `(tactic| walk_at "cs") => `(tactic| ((with_reducible refine' s_mkBook ?hv ?h0 ?h1 ?h2 ?h3 ?h4 ?h5 ?h6 ?h7 ?h8 ?h9 ?q); (case hv => exact rfl); (case h0 => decide +kernel); (case h1 => decide +kernel); (case h2 => decide +kernel); (case h3 => decide +kernel); (case h4 => decide +kernel); (case h5 => decide +kernel); (case h6 => decide +kernel); (case h7 => decide +kernel); (case h8 => decide +kernel); (case h9 => decide +kernel); intro x dx d H' hx hd hn he hxm hdm))
local macro_rules | `(tactic| walk_at "cs") => `(tactic| ((with_reducible refine' s_Book_setitemU ?hv ?ha ?he ?hc ?q); (case hv => exact rfl); (case ha => walk_at "hp"); (case he => infer_instance); (case hc => first | with_reducible assumption | decide +kernel)))
local macro_rules | `(tactic| walk_at "cs") => `(tactic| ((with_reducible refine' k_bkput ?h ?he ?q); (case h => walk_at "hp"); (case he => first | with_reducible assumption | exact InE.mem)))
local macro_rules | `(tactic| walk_at "cs") => `(tactic| ((with_reducible refine' k_bkget ?h ?he ?q); (case h => walk_at "hp"); (case he => first | with_reducible assumption | exact InE.mem)))
local macro_rules | `(tactic| walk_at "cs") => `(tactic| ((with_reducible refine' k_rdputB ?h ?hm ?q); (case h => walk_at "hp"); (case hm => omega)))
section
variable {K : PySem.W.Frag} [TxtK K] {w : World} [BookW K w] {k : Nat} {H : Hp} {Q : VK} {E : XK} {xs : List V} {a b d dx : Addr}
def BASES : List Str := ["join stop leave raise stop skip skip stick stick stick", "join partly leave raise stop stop stop stick stop stick", "join raise raise raise pass blank skip stick stick stick", "short skip leave raise pass skip skip stick stick stop", "short raise leave stop pass blank show forget forget forget",
  "short partly raise raise stop stop skip stop stick stick", "join raise leave raise pass stop stop stick stick stick", "join partly leave raise pass stop stop stop stick stick", "short partly leave raise stop skip skip stick stick stick", "join stop leave raise stop skip skip stick forget stick"]
theorem bases_ok : ∀ s ∈ BASES, (Txt.split s (" " : Str)).length = 10 ∧ s.length ≤ 90 ∧ ∀ m < 10, sv (Txt.split s (" " : Str)) (m : Nat) ∈ chs (sv ENT (m : Nat)) := by decide +kernel
theorem s_law_picks {ds : List Int} (hv : xs = [.ref a]) (hS : SqL K H a (ds.map V.int)) (hl : ds.length = 20) (hr : rng60 ds) (q : ∀ p H' f, H p = none → Ex H H' → H' p = some (.dK (bk f)) → Good f → Q (.ref p) H') : Gam K w (k + 2) .law_picks xs H Q E := by
  subst hv
  refine ⟨rfl, ?_⟩
  unfold rd_law_picks
  refine k_start ?_
  walk_at "go"
  rename_i p1 H1 hp1 he1 hm1
  refine o_ixSv (l := BASES) (sqL_of (xs := BASES.map V.str) hm1) (by omega) (by show _ < (10 : Int); omega) ?_
  walk_at "go"
  have hb := bases_ok (sv BASES (cellv ds 1 % 10)) (sv_mem (by omega) (by show _ < (10 : Int); omega))
  generalize sv BASES (cellv ds 1 % 10) = bs at hb ⊢
  refine o_splitA (by decide) (by omega) rfl (by omega) ?_
  obtain ⟨hb1, _, hb3⟩ := hb
  generalize Txt.split bs (" " : Str) = bl at hb1 hb3 ⊢
  intro p2 H2 hp2 he2 hm2
  clear hm1
  walk_at "go"
  rename_i p3 H3 hp3 he3 hm3 p4 H4 hp4 he4 hm4
  have hall : ∀ e ∈ ENT, 2 ≤ (chs e).length := fun e he => (chx_ok e he).2.2.2
  have hlE : ENT.length = 10 := rfl
  refine k_rr1I ⟨by omega, by omega⟩ (fun m σ H' => ∃ (f : Str → Str) (u5 u6 u7 : Option V), σ = [some (.ref a), some (.ref p1), some (.ref p2), some (.ref p3), some (.ref p4), u5, u6, u7] ∧ (∀ i < m, f (sv ENT (i : Nat)) ∈ chs (sv ENT (i : Nat))) ∧ Ex H H' ∧ H' p2 = some (.lst (bl.map V.str)) ∧ H' p3 = some (.lst (ENT.map V.str)) ∧ H' p4 = some (.dK (bkm m f)))
    ⟨fun _ => "", none, none, none, rfl, (fun i hi => absurd hi (Nat.not_lt_zero i)), by walk_at "ex", by walk_at "hp", by walk_at "hp", hm4⟩ ?_ ?_
  · intro m σ H' hm hI
    obtain ⟨f, u5, u6, u7, rfl, hg, hx, e2, e3, e4⟩ := hI
    obtain ⟨_, _, hmem⟩ := ent_fresh m (by omega)
    have hlen := hall _ hmem
    dsimp only [List.set]
    walk_at "go"
    refine ⟨_, _, _, _, rfl, goods_set (by omega) hg ?_, by walk_at "ex", by walk_at "hp", by walk_at "hp", upd_same⟩
    split
    · exact sv_mem (by walk_at "ib") (by walk_at "ib")
    · exact hb3 m (by omega)
  · rintro σ H' ⟨f, u5, u6, u7, rfl, hg, hx, e2, e3, e4⟩
    have hgf := good_of hg
    have e4 : H' p4 = some (.dK (bk f)) := e4
    clear hg hm2 hm3 hm4
    walk_at "go"
    have hj : ∃ j : Nat, (j : Int) = (if decide (cellv ds 0 % 3 = 1) = true then (1 : Int) else 0) * (1 + cellv ds 12 % 2) ∧ j ≤ 2 := by
      cases decide (cellv ds 0 % 3 = 1)
      · exact ⟨0, by simp, by decide⟩
      · refine ⟨(1 + cellv ds 12 % 2).toNat, ?_, ?_⟩
        · simp only [if_true, Int.one_mul]; omega
        · omega
    obtain ⟨j, hj, hj2⟩ := hj
    rw [← hj]
    refine k_rr1I ⟨by omega, by omega⟩ (fun m σ H' => ∃ (f : Str → Str) (u5 u6 u7 : Option V), σ = [some (.ref a), some (.ref p1), some (.ref p2), some (.ref p3), some (.ref p4), u5, u6, u7] ∧ Good f ∧ Ex H H' ∧ H' p3 = some (.lst (ENT.map V.str)) ∧ H' p4 = some (.dK (bk f)))
      ⟨f, _, _, _, rfl, hgf, hx, e3, e4⟩ ?_ ?_
    · clear e3 e4 hgf hx
      intro m σ H' hm hI
      obtain ⟨f, u5, u6, u7, rfl, hgf, hx, e3, e4⟩ := hI
      dsimp only [List.set]
      walk_at "go"
      have hm7 : sv ENT (cellv ds (13 + 2 * (m : Int)) % 10) ∈ ENT := sv_mem (by omega) (by omega)
      generalize sv ENT (cellv ds (13 + 2 * (m : Int)) % 10) = e at hm7 ⊢
      have := chs_two hm7
      walk_at "go"
      exact ⟨_, _, _, _, rfl, hgf.set (sv_mem (by walk_at "ib") (by walk_at "ib")), by walk_at "ex", by walk_at "hp", upd_same⟩
    · rintro σ H' ⟨f, u5, u6, u7, rfl, hgf, hx, e3, e4⟩
      walk_at "go"
      exact q p4 H' f (by walk_at "nn") hx e4 hgf
end
local macro_rules | `(tactic| walk_at "cs") => `(tactic| ((with_reducible refine' s_law_picks ?hv ?hS ?hl ?hr ?q); (case hv => exact rfl); (case hS => walk_at "sq"); (case hl => assumption); (case hr => assumption); intro p H' f hp he hm hg))
section
variable {K : PySem.W.Frag} [TxtK K] {w : World} [BookW K w] {k : Nat} {H : Hp} {Q : VK} {E : XK} {xs : List V} {a b d dx : Addr}
theorem s_law_book {f : Str → Str} (hv : xs = [.ref a]) (ha : H a = some (.dK (bk f))) (hg : Good f) (q : ∀ x dx d H', H x = none → H d = none → d ≠ x → Ex H H' → H' x = some (.ins (He.ga K "Book") dx (fs_Book (.ref d))) → H' d = some (.dK (bk f)) → Q (.ref x) H') : Gam K w (k + 2) .law_book xs H Q E := by
  subst hv
  refine ⟨rfl, ?_⟩
  unfold rd_law_book
  refine k_start ?_
  walk_at "go"
  rename_i x dx d H1 hx hd hn he hxm hdm p H2 hp he2 hm2
  refine k_rl (sqL_of hm2) ?_
  dsimp only [List.map] at hm2 ⊢
  have g0 := hg "work" InE.mem
  have g1 := hg "write" InE.mem
  have g2 := hg "meet" InE.mem
  have g3 := hg "test" InE.mem
  have g4 := hg "partly" InE.mem
  have g5 := hg "value" InE.mem
  have g6 := hg "path" InE.mem
  have g7 := hg "loop" InE.mem
  have g8 := hg "guard" InE.mem
  have g9 := hg "call" InE.mem
  walk_at "go"
  refine q x dx d _ hx hd hn (by walk_at "ex") (by walk_at "hp") ?_
  rw [upd_same, bk_full]
end
local macro_rules | `(tactic| walk_at "cs") => `(tactic| ((with_reducible refine' s_law_book ?hv ?ha ?hg ?q); (case hv => exact rfl); (case ha => walk_at "hp"); (case hg => assumption); intro x dx d H' hx hd hn he hxm hdm))
end

set_option Elab.async false
set_option linter.all false
set_option maxRecDepth 100000
set_option maxHeartbeats 4000000
section
open PySem PySem.Spec PyProof.Rows L2
/-! ### the stepping tactic -/
local macro_rules | `(tactic| walk_at "cs") => `(tactic| fail)
section
variable {K : PySem.W.Frag} [TxtK K] {w : World} {k : Nat} {H : Hp} {Q : VK} {E : XK} {xs : List V} {a b dx dy : Addr} {n m : Int} {l l' : Bool}
theorem s_law_cell {i : Int} {ns : List Int} (hv : xs = [.ref a, .int i]) (hS : SqL K H a (ns.map V.int)) (hi : 0 ≤ i) (q : Q (.int (cellv ns i)) H) : Gam K w (k + 1) .law_cell xs H Q E := by
  subst hv
  refine ⟨rfl, ?_⟩
  unfold rd_law_cell
  refine k_start ?_
  walk_at "go"
  refine k_itd (fun h => ?_) (fun h => ?_)
  · walk_at "go"
    exact q
  · walk_at "go"
    rw [cell_out hi (by simpa using h)] at q
    exact q
end
local macro_rules | `(tactic| walk_at "cs") => `(tactic| ((with_reducible refine' s_law_cell ?hv ?hS ?hi ?q); (case hv => exact rfl); (case hS => walk_at "sq"); (case hi => first | decide | omega)))
local macro_rules | `(tactic| walk_at "cs") => `(tactic| ((with_reducible refine' s_law_entries ?hv ?q); (case hv => exact rfl); intro p H' hp he hm))
local macro_rules | `(tactic| walk_at "cs") => `(tactic| ((with_reducible refine' s_law_choices ?hv ?he ?q); (case hv => exact rfl); (case he => first | with_reducible assumption | exact InE.mem); intro p H' hp he hm))
local macro_rules | `(tactic| walk_at "cs") => `(tactic| ((with_reducible refine' s_law_choicesV ?hv ?he ?hc ?q); (case hv => exact rfl); (case he => infer_instance); (case hc => infer_instance); intro p H' hp he hm))
local macro_rules | `(tactic| walk_at "cs") => `(tactic| ((with_reducible refine' s_law_draws ?hv ?hm ?hs ?q); (case hv => exact rfl); (case hm => decide); (case hs => decide); intro p H' ds hp he hm hl hr))
local macro_rules | `(tactic| walk_at "cs") => `(tactic| ((with_reducible refine' k_ninEnt ?q)))
local macro_rules | `(tactic| walk_at "cs") => `(tactic| ((with_reducible refine' k_lenEnt ?q)))
local macro_rules | `(tactic| walk_at "cs") => `(tactic| ((with_reducible refine' o_ixTn ?h ?h0 ?e ?q); (case h => exact ent_sq); (case h0 => decide); (case e => exact rfl)))
local macro_rules | `(tactic| walk_at "cs") => `(tactic| ((with_reducible refine' k_ixW ?he ?q); (case he => first | with_reducible assumption | exact InE.mem)))
local macro_rules | `(tactic| walk_at "cs") => `(tactic| ((with_reducible refine' k_ninCh ?he ?q); (case he => first | with_reducible assumption | exact InE.mem)))
local macro_rules | `(tactic| walk_at "cs") => `(tactic| ((with_reducible refine' k_ninEntT ?he ?q); (case he => first | with_reducible assumption | exact InE.mem)))
local macro_rules | `(tactic| walk_at "cs") => `(tactic| ((with_reducible refine' k_ninChT ?he ?hc ?q); (case he => first | with_reducible assumption | exact InE.mem); (case hc => first | with_reducible assumption | decide +kernel)))
local macro_rules | `(tactic| walk_at "cs") => `(tactic| ((with_reducible refine' k_bkput ?h ?he ?q); (case h => walk_at "hp"); (case he => first | with_reducible assumption | exact InE.mem)))
local macro_rules | `(tactic| walk_at "cs") => `(tactic| ((with_reducible refine' k_bkget ?h ?he ?q); (case h => walk_at "hp"); (case he => first | with_reducible assumption | exact InE.mem)))
local macro_rules | `(tactic| walk_at "cs") => `(tactic| ((with_reducible refine' s_Book_getitem ?hv ?ha ?hd ?he ?hf ?q); (case hv => exact rfl); (case ha => walk_at "hp"); (case hd => walk_at "hp"); (case he => infer_instance); (case hf => infer_instance)))
local macro_rules | `(tactic| walk_at "cs") => `(tactic| ((with_reducible refine' s_Book_setitem ?hv ?ha ?hd ?he ?hc ?q); (case hv => exact rfl); (case ha => walk_at "hp"); (case hd => walk_at "hp"); (case he => infer_instance); (case hc => first | with_reducible assumption | decide +kernel)))
local macro_rules | `(tactic| walk_at "cs") => `(tactic| ((with_reducible refine' s_mkBook ?hv ?h0 ?h1 ?h2 ?h3 ?h4 ?h5 ?h6 ?h7 ?h8 ?h9 ?q); (case hv => exact rfl); (case h0 => decide +kernel); (case h1 => decide +kernel); (case h2 => decide +kernel); (case h3 => decide +kernel); (case h4 => decide +kernel); (case h5 => decide +kernel); (case h6 => decide +kernel); (case h7 => decide +kernel); (case h8 => decide +kernel); (case h9 => decide +kernel); intro x dx d H' hx hd hn he hxm hdm))
local macro_rules | `(tactic| walk_at "cs") => `(tactic| ((with_reducible refine' s_Book_setitemU ?hv ?ha ?he ?hc ?q); (case hv => exact rfl); (case ha => walk_at "hp"); (case he => infer_instance); (case hc => first | with_reducible assumption | decide +kernel)))
local macro_rules | `(tactic| walk_at "cs") => `(tactic| ((with_reducible refine' s_law_picks ?hv ?hS ?hl ?hr ?q); (case hv => exact rfl); (case hS => walk_at "sq"); (case hl => assumption); (case hr => assumption); intro p H' f hp he hm hg))
local macro_rules | `(tactic| walk_at "cs") => `(tactic| ((with_reducible refine' s_law_book ?hv ?ha ?hg ?q); (case hv => exact rfl); (case ha => walk_at "hp"); (case hg => assumption); intro x dx d H' hx hd hn he hxm hdm))
local macro_rules | `(tactic| walk_at "cs") => `(tactic| ((with_reducible refine' k_rdputB ?h ?hm ?q); (case h => walk_at "hp"); (case hm => omega)))
section
variable {K : PySem.W.Frag} [TxtK K] {w : World} [BookW K w] {k : Nat} {H : Hp} {Q : VK} {E : XK} {xs : List V} {a b d dx : Addr} {f : Str → Str}
theorem k_dictA {H : Hp} {Q : VK} {a : Addr} {kvs : List (Key × V)} (h : H a = some (.dK kvs)) (q : ∀ p H', H p = none → Ex H H' → H' p = some (.dK kvs) → Q (.ref p) H') : rDictA [.ref a] H Q :=
  ⟨a, kvs, rfl, h, fun p hp => q p _ hp (fun b o hb => up_new hp hb) upd_same⟩
theorem ent_getI {m : Nat} {x : V} (h : (ENT.map V.str)[m]? = some x) : m < 10 ∧ x = .str (sv ENT (m : Nat)) := by
  rw [List.getElem?_map] at h
  obtain ⟨e, he, rfl⟩ := Option.map_eq_some_iff.mp h
  have hm : m < 10 := (List.getElem?_eq_some_iff.mp he).1
  refine ⟨hm, ?_⟩
  unfold sv
  rw [List.getD_eq_getElem?_getD, Int.toNat_natCast, he]
  rfl
theorem bkm_congr {f g : Str → Str} {m : Nat} (h : ∀ i < m, f (sv ENT (i : Nat)) = g (sv ENT (i : Nat))) (hm : m ≤ 10) : bkm m f = bkm m g := by
  unfold bkm
  refine List.map_congr_left fun e he => ?_
  obtain ⟨i, hi, rfl⟩ := List.mem_iff_getElem.mp he
  have hi' : i < m := by rw [List.length_take] at hi; omega
  have : (ENT.take m)[i] = sv ENT (i : Nat) := by
    unfold sv
    rw [List.getD_eq_getElem?_getD, Int.toNat_natCast, List.getElem_take, List.getElem?_eq_getElem]
    rfl
  rw [this, h i hi']
theorem s_law_read_book (hv : xs = [.ref b]) (hb : H b = some (.ins (He.ga K "Book") dx (fs_Book (.ref d)))) (hd : H d = some (.dK (bk f))) (q : ∀ p H', H p = none → Ex H H' → H' p = some (.dK (bk f)) → Q (.ref p) H') : Gam K w (k + 2) .law_read_book xs H Q E := by
  subst hv
  refine ⟨rfl, ?_⟩
  unfold rd_law_read_book
  refine k_start ?_
  walk_at "go"
  rename_i p H1 hp he1 hm1 l H2 hl he2 hm2
  refine k_rlI (sqL_of hm2) (fun m σ H' => ∃ (g : Str → Str) (u : Option V), σ = [some (.ref b), some (.ref p), u] ∧ Ex H H' ∧ H' l = some (.lst (ENT.map V.str)) ∧ H' p = some (.dK (bkm m g)) ∧ ∀ i < m, g (sv ENT (i : Nat)) = f (sv ENT (i : Nat))) ⟨fun _ => "", none, rfl, by walk_at "ex", by walk_at "hp", (show H2 p = some (.dK []) by walk_at "hp"), fun i hi => absurd hi (Nat.not_lt_zero i)⟩ (fun m σ H' _ ⟨_, _, _, _, z, _⟩ => sqL_of z) ?_ ?_
  · rintro m x σ H' hm ⟨g, u, rfl, hx, hL, hP, hg⟩
    obtain ⟨hm10, rfl⟩ := ent_getI hm
    obtain ⟨_, _, hmem⟩ := ent_fresh m hm10
    haveI : InE (sv ENT (m : Nat)) := ⟨hmem⟩
    clear hm1 hm2
    dsimp only [List.set]
    walk_at "go"
    refine ⟨_, _, rfl, by walk_at "ex", by walk_at "hp", upd_same, fun i hi => ?_⟩
    by_cases e : i = m
    · subst e; rw [fset_eq]
    · rw [fset_ne (fun z => e (ent_inj i (by omega) m hm10 z))]
      exact hg i (by omega)
  · rintro σ H' ⟨g, u, rfl, hx, hL, hP, hg⟩
    clear hm1 hm2
    walk_at "go"
    refine q p H' (by walk_at "nn") hx ?_
    rw [hP]
    have : bkm (ENT.map V.str).length g = bk f := by
      rw [← bkm_ten]
      exact bkm_congr hg (by decide)
    rw [this]
theorem s_law_bent {ds : List Int} (hv : xs = [.ref a, .ref b]) (ha : H a = some (.dK (bk f))) (hg : Good f) (hS : SqL K H b (ds.map V.int)) (hl : ds.length = 8) (hr : rng60 ds) (q : ∀ p H' g, H p = none → Ex H H' → H' p = some (.dK (bk g)) → Good g → Q (.ref p) H') : Gam K w (k + 2) .law_bent xs H Q E := by
  subst hv
  refine ⟨rfl, ?_⟩
  unfold rd_law_bent
  refine k_start ?_
  walk_at "go"
  refine k_dictA ha fun p H1 hp he1 hm1 => ?_
  walk_at "go"
  obtain ⟨j, hj, hj3⟩ : ∃ j : Nat, (j : Int) = 1 + cellv ds 0 % 3 ∧ j ≤ 3 := ⟨(1 + cellv ds 0 % 3).toNat, by omega, by omega⟩
  rw [← hj]
  refine k_rr1I ⟨by omega, by omega⟩ (fun m σ H' => ∃ (g : Str → Str) (u3 u4 u5 : Option V), σ = [some (.ref a), some (.ref b), some (.ref p), u3, u4, u5] ∧ Good g ∧ Ex H H' ∧ H' p = some (.dK (bk g))) ⟨f, none, none, none, rfl, hg, by walk_at "ex", hm1⟩ ?_ ?_
  · rintro m σ H' hm ⟨g, u3, u4, u5, rfl, hgg, hx, hP⟩
    clear hm1
    dsimp only [List.set]
    walk_at "go"
    have hm7 : sv ENT (cellv ds (1 + (m : Int)) % 10) ∈ ENT := sv_mem (by omega) (by show _ < (10 : Int); omega)
    generalize sv ENT (cellv ds (1 + (m : Int)) % 10) = e at hm7 ⊢
    have := chs_two hm7
    haveI : InE e := ⟨hm7⟩
    walk_at "go"
    exact ⟨_, _, _, _, rfl, hgg.set (sv_mem (by walk_at "ib") (by walk_at "ib")), by walk_at "ex", upd_same⟩
  · rintro σ H' ⟨g, u3, u4, u5, rfl, hgg, hx, hP⟩
    clear hm1
    walk_at "go"
    exact q p H' g (by walk_at "nn") hx hP hgg
end
theorem cv_rng {ds : List Int} (h : rng60 ds) {i : Int} (h0 : 0 ≤ i) : 0 ≤ cellv ds i ∧ cellv ds i < 60 := by
  by_cases z : i.toNat < ds.length
  · have := h _ (List.getElem_mem z)
    have e : cellv ds i = ds[i.toNat] := by
      unfold cellv
      rw [List.getD_eq_getElem?_getD, List.getElem?_eq_getElem z]
      rfl
    rw [e]
    exact this
  · have e : cellv ds i = 0 := by
      unfold cellv
      rw [List.getD_eq_getElem?_getD, List.getElem?_eq_none (by omega)]
      rfl
    rw [e]
    exact ⟨by decide, by decide⟩
/-- some choices behind one another -/
def win (e : Str) (d : Int) (n : Nat) : List Str := (List.range n).map fun j => sv (chs e) ((d + (j : Nat)) % ((chs e).length : Nat))
theorem win_nd0 : ∀ e ∈ ENT, ∀ d < 60, ∀ n < 4, n ≤ (chs e).length → (win e ((d : Nat) : Int) n).Nodup := by decide +kernel
theorem win_nd {e : Str} {d : Int} {n : Nat} (he : e ∈ ENT) (h0 : 0 ≤ d) (h1 : d < 60) (hn : n < 4) (hl : n ≤ (chs e).length) : (win e d n).Nodup := by
  have := win_nd0 e he d.toNat (by omega) n hn hl
  rw [Int.toNat_of_nonneg h0] at this
  exact this
theorem win_sub {e : Str} {d : Int} {n : Nat} (he : e ∈ ENT) : ∀ x ∈ win e d n, x ∈ chs e := fun x hx => by
  obtain ⟨j, _, rfl⟩ := List.mem_map.mp hx
  have := chs_two he
  exact sv_mem (Int.emod_nonneg _ (by omega)) (Int.emod_lt_of_pos _ (by omega))
theorem win_len {e : Str} {d : Int} {n : Nat} : (win e d n).length = n := by unfold win; rw [List.length_map, List.length_range]
theorem win_succ {e : Str} {d : Int} {n : Nat} : win e d (n + 1) = win e d n ++ [sv (chs e) ((d + (n : Nat)) % ((chs e).length : Nat))] := by
  unfold win
  rw [List.range_succ, List.map_append]
  rfl
/-- options as they are drawn -/
structure OptG (mx : Nat) (l : List Str) (o : Str → List Str) : Prop where
  sub : ∀ e ∈ l, e ∈ ENT
  nd : ∀ e ∈ l, (o e).Nodup
  ch : ∀ e ∈ l, ∀ x ∈ o e, x ∈ chs e
  two : ∀ e ∈ l, 2 ≤ (o e).length
  most : ∀ e ∈ l, (o e).length ≤ mx
theorem OptG.put {mx : Nat} {l : List Str} {o : Str → List Str} {e : Str} {cs : List Str} (h : OptG mx l o) (he : e ∈ ENT) (h1 : cs.Nodup) (h2 : ∀ x ∈ cs, x ∈ chs e) (h3 : 2 ≤ cs.length) (h4 : cs.length ≤ mx) : OptG mx (if e ∈ l then l else l ++ [e]) (oset o e cs) := by
  have key : ∀ x ∈ (if e ∈ l then l else l ++ [e]), x = e ∨ x ∈ l := fun x hx => by
    by_cases z : e ∈ l
    · rw [if_pos z] at hx; exact .inr hx
    · rw [if_neg z] at hx
      rcases List.mem_append.mp hx with y | y
      · exact .inr y
      · exact .inl (List.mem_singleton.mp y)
  have go : ∀ x ∈ (if e ∈ l then l else l ++ [e]), (x = e ∧ oset o e cs x = cs) ∨ (x ∈ l ∧ oset o e cs x = o x) := fun x hx => by
    by_cases z : x = e
    · exact .inl ⟨z, if_pos z⟩
    · exact .inr ⟨(key x hx).resolve_left z, if_neg z⟩
  refine ⟨fun x hx => ?_, fun x hx => ?_, fun x hx => ?_, fun x hx => ?_, fun x hx => ?_⟩
  all_goals rcases go x hx with ⟨rfl, z⟩ | ⟨y, z⟩
  · exact he
  · exact h.sub x y
  · rw [z]; exact h1
  · rw [z]; exact h.nd x y
  · rw [z]; exact h2
  · rw [z]; exact h.ch x y
  · rw [z]; exact h3
  · rw [z]; exact h.two x y
  · rw [z]; exact h4
  · rw [z]; exact h.most x y
section
variable {K : PySem.W.Frag} [TxtK K] {w : World} [BookW K w] {k : Nat} {H : Hp} {Q : VK} {E : XK} {xs : List V} {a b d dx : Addr} {f : Str → Str}
theorem s_law_options {ds : List Int} (hv : xs = [.ref a]) (hS : SqL K H a (ds.map V.int)) (hl : ds.length = 12) (hr : rng60 ds)
    (q : ∀ p H' kvs l o m, H p = none → Ex H H' → H' p = some (.dK kvs) → OptK H' kvs l o → OptG (if m < 3 then 3 else 2) l o → l.length ≤ m → 1 ≤ m → m ≤ 3 → Q (.ref p) H') : Gam K w (k + 2) .law_options xs H Q E := by
  subst hv
  refine ⟨rfl, ?_⟩
  unfold rd_law_options
  refine k_start ?_
  walk_at "go"
  rename_i p H1 hp he1 hm1
  obtain ⟨many, hmany, hm13⟩ : ∃ m : Nat, (m : Int) = 1 + cellv ds 0 % 3 ∧ 1 ≤ m ∧ m ≤ 3 := ⟨(1 + cellv ds 0 % 3).toNat, by omega, by omega, by omega⟩
  rw [← hmany]
  refine k_rr1I ⟨by omega, by omega⟩ (fun m σ H' => ∃ (kvs : List (Key × V)) (l : List Str) (o : Str → List Str) (u3 u4 u5 u6 u7 : Option V), σ = [some (.ref a), some (.ref p), some (.int (many : Nat)), u3, u4, u5, u6, u7] ∧ Ex H H' ∧ H' p = some (.dK kvs) ∧ OptK H' kvs l o ∧ OptG (if many < 3 then 3 else 2) l o ∧ l.length ≤ m)
    ⟨[], [], fun _ => [], none, none, none, none, none, rfl, by walk_at "ex", hm1, OptK.nil, ⟨fun _ z => (nomatch z), fun _ z => (nomatch z), fun _ z => (nomatch z), fun _ z => (nomatch z), fun _ z => (nomatch z)⟩, Nat.le_refl _⟩ ?_ ?_
  · rintro m σ H' hm ⟨kvs, l, o, u3, u4, u5, u6, u7, rfl, hx, hP, hO, hG, hlm⟩
    clear hm1
    have hkl := hO.len
    dsimp only [List.set]
    walk_at "go"
    have hm7 : sv ENT (cellv ds (1 + (m : Int)) % 10) ∈ ENT := sv_mem (by omega) (by show _ < (10 : Int); omega)
    generalize sv ENT (cellv ds (1 + (m : Int)) % 10) = e at hm7 ⊢
    have hc2 := chs_two hm7
    have hc4 := (chx_ok e hm7).2.2.1
    haveI : InE e := ⟨hm7⟩
    walk_at "go"
    rename_i p1 G1 hp1 hg1 hmE p2 G2 hp2 hg2 hmC
    have h7 := cv_rng hr (i := 7 + m) (by omega)
    obtain ⟨n, hn, hn2, hn3, hnl⟩ : ∃ n : Nat, (n : Int) = 2 + cellv ds (4 + (m : Int)) % 2 * (if (decide ((many : Int) < 3) && decide ((2 : Int) < ((chs e).length : Nat))) = true then 1 else 0) ∧ 2 ≤ n ∧ n ≤ (if many < 3 then 3 else 2) ∧ n ≤ (chs e).length := by
      by_cases z1 : many < 3
      · by_cases z2 : 2 < (chs e).length
        · rw [decide_eq_true (show (many : Int) < 3 by omega), decide_eq_true (show (2 : Int) < ((chs e).length : Nat) by omega), if_pos z1]
          exact ⟨(2 + cellv ds (4 + (m : Int)) % 2).toNat, by simp; omega, by omega, by omega, by omega⟩
        · rw [decide_eq_false (show ¬ (2 : Int) < ((chs e).length : Nat) by omega), Bool.and_false, if_pos z1]
          exact ⟨2, by simp, by omega, by omega, by omega⟩
      · rw [decide_eq_false (show ¬ (many : Int) < 3 by omega), Bool.false_and, if_neg z1]
        exact ⟨2, by simp, by omega, by omega, by omega⟩
    have hn4 : n < 4 := by
      split at hn3 <;> omega
    rw [← hn]
    refine k_lcR1 ?_
    walk_at "go"
    have xg := hg1.trans hg2
    have hSG : SqL K G2 a (ds.map V.int) := (hx.trans xg).sqL hS
    have hCG : SqL K G2 p2 ((chs e).map V.str) := sqL_of hmC
    have hPG := xg.at hP
    have hOG : OptK G2 kvs l o := hO.ex fun _ _ z => xg.at z
    clear hmE hmC hP hO
    refine k_rlr1 ⟨by omega, by omega⟩ (fun D j H' => H' = upd G2 D (.lst ((win e (cellv ds (7 + (m : Int))) j).map V.str))) (fun D hD => rfl) ?_ ?_
    · rintro D j H' hD hj rfl
      refine ⟨rfl, ?_⟩
      have xD := Ex.new (o := .lst ((win e (cellv ds (7 + (m : Int))) j).map V.str)) hD
      have hSD := xD.sqL hSG
      have hCD := xD.sqL hCG
      unfold tYes
      dsimp only [wipe, List.set]
      rw [if_pos rfl]
      walk_at "go"
      refine ⟨_, upd_same, szl_of (by rw [List.length_map, win_len]; omega), ?_⟩
      rw [upd_upd, win_succ, List.map_append]
      rfl
    · rintro D H3 hD rfl
      rw [Int.toNat_natCast]
      have xD := Ex.new (o := .lst ((win e (cellv ds (7 + (m : Int))) n).map V.str)) hD
      have hD3 : (upd G2 D (.lst ((win e (cellv ds (7 + (m : Int))) n).map V.str))) D = some (.lst ((win e (cellv ds (7 + (m : Int))) n).map V.str)) := upd_same
      generalize upd G2 D (.lst ((win e (cellv ds (7 + (m : Int))) n).map V.str)) = G3 at xD hD3 ⊢
      have hP3 := xD.at hPG
      have hO3 : OptK G3 kvs l o := hOG.ex fun _ _ z => xD.at z
      have hx3 := (hx.trans xg).trans xD
      clear hPG hOG hSG hCG
      walk_at "go"
      refine k_rdput hP3 (by omega) rfl ?_
      refine ⟨_, _, _, _, _, _, _, _, rfl, hx3.new' hp, upd_same, (hO3.put (e := e) hD3).ex (fun b v z => ?_), hG.put hm7 (win_nd hm7 h7.1 h7.2 hn4 hnl) (win_sub hm7) (by rw [win_len]; exact hn2) (by rw [win_len]; exact hn3), ?_⟩
      · rw [upd_ne (fun y => by rw [y, hP3] at z; cases z)]
        exact z
      · split
        · omega
        · rw [List.length_append, List.length_singleton]; omega
  · rintro σ H' ⟨kvs, l, o, u3, u4, u5, u6, u7, rfl, hx, hP, hO, hG, hlm⟩
    clear hm1
    walk_at "go"
    exact q p H' kvs l o many (by walk_at "nn") hx hP hO hG (by simpa using hlm) hm13.1 hm13.2
end
def AllA {α : Type} (R : α → V → Prop) (xs : List α) (vs : List V) : Prop := vs.length = xs.length ∧ ∀ (i : Nat) x v, xs[i]? = some x → vs[i]? = some v → R x v
theorem AllA.nil {α : Type} {R : α → V → Prop} : AllA R [] [] := ⟨rfl, fun i x v h => by simp at h⟩
theorem AllA.mono {α : Type} {R R' : α → V → Prop} {xs : List α} {vs : List V} (h : AllA R xs vs) (f : ∀ x v, R x v → R' x v) : AllA R' xs vs := ⟨h.1, fun i x v h1 h2 => f x v (h.2 i x v h1 h2)⟩
theorem AllA.snoc {α : Type} {R : α → V → Prop} {xs : List α} {vs : List V} {x : α} {v : V} (h : AllA R xs vs) (hx : R x v) : AllA R (xs ++ [x]) (vs ++ [v]) := by
  refine ⟨by simp [h.1], fun i y u h1 h2 => ?_⟩
  by_cases hi : i < xs.length
  · rw [List.getElem?_append_left hi] at h1
    rw [List.getElem?_append_left (by rw [h.1]; exact hi)] at h2
    exact h.2 i y u h1 h2
  · rw [List.getElem?_append_right (by omega)] at h1
    rw [List.getElem?_append_right (by rw [h.1]; omega), h.1] at h2
    cases e : i - xs.length with
    | zero => rw [e] at h1 h2; cases h1; cases h2; exact hx
    | succ k => rw [e] at h1; simp at h1
theorem AllA.at {α : Type} {R : α → V → Prop} {xs : List α} {vs : List V} {i : Nat} {v : V} (h : AllA R xs vs) (hv : vs[i]? = some v) : ∃ x, xs[i]? = some x ∧ R x v := by
  have hi : i < xs.length := by rw [← h.1]; exact (List.getElem?_eq_some_iff.mp hv).1
  exact ⟨xs[i], List.getElem?_eq_getElem hi, h.2 i _ v (List.getElem?_eq_getElem hi) hv⟩
theorem AllA.get {α : Type} {R : α → V → Prop} {xs : List α} {vs : List V} {i : Nat} (h : AllA R xs vs) (hi : i < vs.length) : ∃ x v, xs[i]? = some x ∧ vs[i]? = some v ∧ R x v := by
  obtain ⟨x, e1, e2⟩ := h.at (List.getElem?_eq_getElem hi)
  exact ⟨x, _, e1, List.getElem?_eq_getElem hi, e2⟩
end

set_option Elab.async false
set_option linter.all false
set_option maxRecDepth 100000
set_option maxHeartbeats 4000000
section
open PySem PySem.Spec PyProof.Rows L2
/-! ### the stepping tactic -/
local macro_rules | `(tactic| walk_at "cs") => `(tactic| fail)
local macro_rules | `(tactic| walk_at "cs") => `(tactic| ((with_reducible refine' s_law_entries ?hv ?q); (case hv => exact rfl); intro p H' hp he hm))
local macro_rules | `(tactic| walk_at "cs") => `(tactic| ((with_reducible refine' s_law_choices ?hv ?he ?q); (case hv => exact rfl); (case he => first | with_reducible assumption | exact InE.mem); intro p H' hp he hm))
local macro_rules | `(tactic| walk_at "cs") => `(tactic| ((with_reducible refine' s_law_choicesV ?hv ?he ?hc ?q); (case hv => exact rfl); (case he => infer_instance); (case hc => infer_instance); intro p H' hp he hm))
local macro_rules | `(tactic| walk_at "cs") => `(tactic| ((with_reducible refine' s_law_draws ?hv ?hm ?hs ?q); (case hv => exact rfl); (case hm => decide); (case hs => decide); intro p H' ds hp he hm hl hr))
local macro_rules | `(tactic| walk_at "cs") => `(tactic| ((with_reducible refine' k_ninEnt ?q)))
local macro_rules | `(tactic| walk_at "cs") => `(tactic| ((with_reducible refine' k_lenEnt ?q)))
local macro_rules | `(tactic| walk_at "cs") => `(tactic| ((with_reducible refine' o_ixTn ?h ?h0 ?e ?q); (case h => exact ent_sq); (case h0 => decide); (case e => exact rfl)))
local macro_rules | `(tactic| walk_at "cs") => `(tactic| ((with_reducible refine' k_ixW ?he ?q); (case he => first | with_reducible assumption | exact InE.mem)))
local macro_rules | `(tactic| walk_at "cs") => `(tactic| ((with_reducible refine' k_ninCh ?he ?q); (case he => first | with_reducible assumption | exact InE.mem)))
local macro_rules | `(tactic| walk_at "cs") => `(tactic| ((with_reducible refine' k_ninEntT ?he ?q); (case he => first | with_reducible assumption | exact InE.mem)))
local macro_rules | `(tactic| walk_at "cs") => `(tactic| ((with_reducible refine' k_ninChT ?he ?hc ?q); (case he => first | with_reducible assumption | exact InE.mem); (case hc => first | with_reducible assumption | decide +kernel)))
local macro_rules | `(tactic| walk_at "cs") => `(tactic| ((with_reducible refine' k_bkput ?h ?he ?q); (case h => walk_at "hp"); (case he => first | with_reducible assumption | exact InE.mem)))
local macro_rules | `(tactic| walk_at "cs") => `(tactic| ((with_reducible refine' k_bkget ?h ?he ?q); (case h => walk_at "hp"); (case he => first | with_reducible assumption | exact InE.mem)))
local macro_rules | `(tactic| walk_at "cs") => `(tactic| ((with_reducible refine' s_Book_getitem ?hv ?ha ?hd ?he ?hf ?q); (case hv => exact rfl); (case ha => walk_at "hp"); (case hd => walk_at "hp"); (case he => infer_instance); (case hf => infer_instance)))
local macro_rules | `(tactic| walk_at "cs") => `(tactic| ((with_reducible refine' s_Book_setitem ?hv ?ha ?hd ?he ?hc ?q); (case hv => exact rfl); (case ha => walk_at "hp"); (case hd => walk_at "hp"); (case he => infer_instance); (case hc => first | with_reducible assumption | decide +kernel)))
local macro_rules | `(tactic| walk_at "cs") => `(tactic| ((with_reducible refine' s_mkBook ?hv ?h0 ?h1 ?h2 ?h3 ?h4 ?h5 ?h6 ?h7 ?h8 ?h9 ?q); (case hv => exact rfl); (case h0 => decide +kernel); (case h1 => decide +kernel); (case h2 => decide +kernel); (case h3 => decide +kernel); (case h4 => decide +kernel); (case h5 => decide +kernel); (case h6 => decide +kernel); (case h7 => decide +kernel); (case h8 => decide +kernel); (case h9 => decide +kernel); intro x dx d H' hx hd hn he hxm hdm))
local macro_rules | `(tactic| walk_at "cs") => `(tactic| ((with_reducible refine' s_Book_setitemU ?hv ?ha ?he ?hc ?q); (case hv => exact rfl); (case ha => walk_at "hp"); (case he => infer_instance); (case hc => first | with_reducible assumption | decide +kernel)))
local macro_rules | `(tactic| walk_at "cs") => `(tactic| ((with_reducible refine' s_law_picks ?hv ?hS ?hl ?hr ?q); (case hv => exact rfl); (case hS => walk_at "sq"); (case hl => assumption); (case hr => assumption); intro p H' f hp he hm hg))
local macro_rules | `(tactic| walk_at "cs") => `(tactic| ((with_reducible refine' s_law_book ?hv ?ha ?hg ?q); (case hv => exact rfl); (case ha => walk_at "hp"); (case hg => assumption); intro x dx d H' hx hd hn he hxm hdm))
local macro_rules | `(tactic| walk_at "cs") => `(tactic| ((with_reducible refine' s_law_cell ?hv ?hS ?hi ?q); (case hv => exact rfl); (case hS => walk_at "sq"); (case hi => first | decide | omega)))
/-- a dict of choices -/
def DctA (H : Hp) (g : Str → Str) (v : V) : Prop := ∃ p, v = .ref p ∧ H p = some (.dK (bk g))
theorem DctA.ex {H H' : Hp} {g : Str → Str} {v : V} (e : Ex H H') (h : DctA H g v) : DctA H' g v := let ⟨p, a, b⟩ := h; ⟨p, a, e.at b⟩
def entsM (l : List Str) (m : Nat) : List Str := (ENT.take m).filter fun e => decide (e ∈ l)
theorem entsM_ten {l : List Str} : entsM l 10 = entsE l := rfl
theorem entsM_in {l : List Str} {m : Nat} (hm : m < 10) (h : sv ENT (m : Nat) ∈ l) : entsM l (m + 1) = entsM l m ++ [sv ENT (m : Nat)] := by
  unfold entsM
  rw [(ent_fresh m hm).2.1, List.filter_append]
  congr 1
  simp [h]
theorem entsM_out {l : List Str} {m : Nat} (hm : m < 10) (h : sv ENT (m : Nat) ∉ l) : entsM l (m + 1) = entsM l m := by
  unfold entsM
  rw [(ent_fresh m hm).2.1, List.filter_append]
  simp [h]
section
variable {K : PySem.W.Frag} [TxtK K] {w : World} [BookW K w] {k : Nat} {H : Hp} {Q : VK} {E : XK} {xs : List V} {a b d dx : Addr} {f : Str → Str}
theorem s_law_menu_books {kvs : List (Key × V)} {l : List Str} {o : Str → List Str} (hv : xs = [.ref a, .ref b]) (ha : H a = some (.dK (bk f))) (hb : H b = some (.dK kvs)) (hO : OptK H kvs l o) (hol : ∀ e ∈ l, (o e).length ≤ 1000) (hcnt : ∀ m, mcnt (toldE o) (entsM l m).reverse ≤ 24)
    (q : ∀ L vs H', Ex H H' → H' L = some (.lst vs) → AllA (DctA H') (mbR (toldE o) f (entsE l).reverse) vs → Q (.ref L) H') : Gam K w (k + 2) .law_menu_books xs H Q E := by
  subst hv
  refine ⟨rfl, ?_⟩
  unfold rd_law_menu_books
  refine k_start ?_
  walk_at "go"
  refine k_dictA ha fun p H1 hp he1 hm1 => ?_
  walk_at "go"
  rename_i L0 H2 hL0 he2 hm2 nl H3 hnl he3 hm3
  have hE3 := (he1.trans he2).trans he3
  refine k_rlI (sqL_of hm3) (fun m σ H' => ∃ (L : Addr) (vs : List V) (u3 u4 u5 u6 u7 : Option V), σ = [some (.ref a), some (.ref b), some (.ref L), u3, u4, u5, u6, u7] ∧ Ex H H' ∧ H' nl = some (.lst (ENT.map V.str)) ∧ H' L = some (.lst vs) ∧ AllA (DctA H') (mbR (toldE o) f (entsM l m).reverse) vs)
    ⟨L0, _, none, none, none, none, none, rfl, hE3, hm3, he3.at hm2, AllA.nil.snoc (x := f) ⟨p, rfl, (he2.trans he3).at hm1⟩⟩ (fun m σ H' _ ⟨_, _, _, _, _, _, _, _, _, z, _⟩ => sqL_of z) ?_ ?_
  · rintro m x σ G hm ⟨L, vs, u3, u4, u5, u6, u7, rfl, hx, hN, hL, hA⟩
    obtain ⟨hm10, rfl⟩ := ent_getI hm
    obtain ⟨_, _, hmem⟩ := ent_fresh m hm10
    clear hm1 hm2 hm3 hm
    have hent : entsM l (m + 1) = if sv ENT (m : Nat) ∈ l then entsM l m ++ [sv ENT (m : Nat)] else entsM l m := by
      split
      · exact entsM_in hm10 ‹_›
      · exact entsM_out hm10 ‹_›
    have hcm := hcnt (m + 1)
    have hcm0 := hcnt m
    have hch4 := (chx_ok _ hmem).2.2.1
    generalize sv ENT (m : Nat) = e at hmem hent hch4 ⊢
    haveI : InE e := ⟨hmem⟩
    have hbG := hx.at hb
    have hOG : OptK G kvs l o := hO.ex fun _ _ z => hx.at z
    dsimp only [List.set]
    walk_at "go"
    refine o_inOpt (.inl hbG) hOG ?_
    walk_at "go"
    refine k_itd (fun he => ?_) (fun he => ?_)
    · rw [if_pos he] at hent
      obtain ⟨q0, hq0, hq1⟩ := hO.at_ e he
      have hol' := hol e he
      rw [hent, mcnt_app] at hcm
      have hmb := mbR_len (toldE o) f (entsM l m).reverse
      have hvl := hA.1
      walk_at "go"
      rename_i L2 G1 hL2 hg1 hmL2
      refine k_raI (.inl (sqL_of (hg1.at hL))) (fun j σ G' => ∃ (L2' : Addr) (ws : List V) (u5 u6 u7 : Option V), σ = [some (.ref a), some (.ref b), some (.ref L), some (.str e), some (.ref L2'), u5, u6, u7] ∧ Ex G1 G' ∧ G' L2' = some (.lst ws) ∧ AllA (DctA G') (((mbR (toldE o) f (entsM l m).reverse).take j).flatMap fun g => (toldE o e).map fun c => fset g e c) ws)
        ⟨L2, [], _, _, _, rfl, Ex.refl _, hmL2, AllA.nil⟩ (fun j σ G' _ ⟨_, _, _, _, _, _, z, _⟩ => z) ?_ ?_
      · rintro j x σ G' hj ⟨L2', ws, u5, u6, u7, rfl, hxG, hL2', hAw⟩
        obtain ⟨g, hg, p0, rfl, hp0⟩ := hA.at hj
        have htk : (mbR (toldE o) f (entsM l m).reverse).take (j + 1) = (mbR (toldE o) f (entsM l m).reverse).take j ++ [g] := by rw [List.take_succ, hg]; rfl
        have hjl : j < vs.length := (List.getElem?_eq_some_iff.mp hj).1
        have hxx := hg1.trans hxG
        have hp0' := hxx.at hp0
        have hbG' := hxx.at hbG
        have hq1' := (hx.trans hxx).at hq1
        have hflen : (((mbR (toldE o) f (entsM l m).reverse).take j).flatMap fun g => (toldE o e).map fun c => fset g e c).length = j * (toldE o e).length := by
          rw [flat_len _ _ fun a _ => List.length_map .., List.length_take]
          congr 1
          omega
        have htl : (toldE o e).length ≤ 4 := Nat.le_trans (List.length_filter_le _ _) hch4
        have hj24 : j * (toldE o e).length ≤ 24 * 4 := Nat.mul_le_mul (by omega) htl
        clear hmL2 hL
        dsimp only [List.set]
        walk_at "go"
        rename_i cl G2 hcl hg2 hmcl
        refine k_rlI (sqL_of hmcl) (fun i σ G'' => ∃ (L3 : Addr) (ws' : List V) (u6 u7 : Option V), σ = [some (.ref a), some (.ref b), some (.ref L), some (.str e), some (.ref L3), some (.ref p0), u6, u7] ∧ Ex G2 G'' ∧ G'' L3 = some (.lst ws') ∧ AllA (DctA G'') ((((mbR (toldE o) f (entsM l m).reverse).take j).flatMap fun g => (toldE o e).map fun c => fset g e c) ++ (((chs e).take i).filter fun c => decide (c ∈ o e)).map fun c => fset g e c) ws')
          ⟨L2', ws, _, _, rfl, Ex.refl _, hg2.at hL2', by simpa using hAw.mono fun g v z => DctA.ex hg2 z⟩ (fun i σ G'' _ ⟨_, _, _, _, _, z, _⟩ => sqL_of (z.at hmcl)) ?_ ?_
        · rintro i x σ G'' hi ⟨L3, ws', u6, u7, rfl, hxi, hL3, hAi⟩
          rw [List.getElem?_map] at hi
          obtain ⟨c, hc, rfl⟩ := Option.map_eq_some_iff.mp hi
          have htki : ((chs e).take (i + 1)).filter (fun c => decide (c ∈ o e)) = ((chs e).take i).filter (fun c => decide (c ∈ o e)) ++ if c ∈ o e then [c] else [] := by
            rw [List.take_succ, hc, List.filter_append]
            congr 1
            by_cases z : c ∈ o e <;> simp [z]
          have hx2 := hg2.trans hxi
          have hbi := hx2.at hbG'
          have hqi := hx2.at hq1'
          have hpi := hx2.at hp0'
          clear hmcl
          dsimp only [List.set]
          walk_at "go"
          refine k_getOpt (.inl hbi) hq0 ?_
          refine o_inL (sqL_of hqi) ?_
          walk_at "go"
          refine k_itd (fun hco => ?_) (fun hco => ?_)
          · rw [if_pos hco] at htki
            walk_at "go"
            refine k_dictA hpi fun p3 G3 hp3 hg3 hm3 => ?_
            have hL33 := hg3.at hL3
            have hlw := hAi.1
            have hlw2 : ws'.length ≤ 200 := by
              rw [hlw, List.length_append, hflen, List.length_map]
              have h1 := List.length_filter_le (fun c => decide (c ∈ o e)) ((chs e).take i)
              have h2 : ((chs e).take i).length ≤ (chs e).length := by rw [List.length_take]; omega
              omega
            walk_at "go"
            rename_i p4 G4 hp4 hg4 hm4
            have hne : L3 ≠ p3 := fun z => by rw [z, hm3] at hL33; cases hL33
            refine o_addLA (hg4.at (by rw [upd_ne hne]; exact hL33)) hm4 (by show ws'.length + 1 ≤ 100000; omega) fun p5 G5 hp5 hg5 hm5 => ?_
            have hx5 : Ex G'' (upd G3 p3 (.dK (bk (fset g e c)))) := hg3.new' hp3
            have hx6 := (hx5.trans hg4).trans hg5
            have hp35 := (hg4.trans hg5).at (show (upd G3 p3 (.dK (bk (fset g e c)))) p3 = some (.dK (bk (fset g e c))) from upd_same)
            walk_at "go"
            refine ⟨p5, _, _, _, rfl, hxi.trans hx6, hm5, ?_⟩
            rw [htki, List.map_append, ← List.append_assoc]
            exact (hAi.mono fun g v z => DctA.ex hx6 z).snoc ⟨p3, rfl, hp35⟩
          · rw [if_neg hco, List.append_nil] at htki
            walk_at "go"
            refine ⟨L3, ws', _, _, rfl, hxi, hL3, ?_⟩
            rw [htki]
            exact hAi
        · rintro σ G'' ⟨L3, ws', u6, u7, rfl, hxi, hL3, hAi⟩
          refine ⟨L3, ws', _, _, _, rfl, hxG.trans (hg2.trans hxi), hL3, ?_⟩
          rw [List.length_map, List.take_length] at hAi
          rw [htk, List.flatMap_append, List.flatMap_cons, List.flatMap_nil, List.append_nil]
          exact hAi
      · rintro σ G' ⟨L2', ws, u5, u6, u7, rfl, hxG, hL2', hAw⟩
        clear hmL2
        walk_at "go"
        refine ⟨L2', ws, _, _, _, _, _, rfl, (hx.trans hg1).trans hxG, (hg1.trans hxG).at hN, hL2', ?_⟩
        rw [hent, List.reverse_append]
        rw [show vs.length = (mbR (toldE o) f (entsM l m).reverse).length from hA.1, List.take_length] at hAw
        exact hAw
    · rw [if_neg he] at hent
      walk_at "go"
      refine ⟨L, vs, _, _, _, _, _, rfl, hx, hN, hL, ?_⟩
      rw [hent]
      exact hA
  · rintro σ G ⟨L, vs, u3, u4, u5, u6, u7, rfl, hx, hN, hL, hA⟩
    clear hm1 hm2 hm3
    walk_at "go"
    exact q L vs G hx hL hA
end
end

set_option Elab.async false
set_option linter.all false
set_option maxRecDepth 100000
set_option maxHeartbeats 4000000
section
open PySem PySem.Spec PyProof.Rows L2
/-! ### the stepping tactic -/
local macro_rules | `(tactic| walk_at "cs") => `(tactic| fail)
local macro_rules | `(tactic| walk_at "cs") => `(tactic| ((with_reducible refine' s_law_entries ?hv ?q); (case hv => exact rfl); intro p H' hp he hm))
local macro_rules | `(tactic| walk_at "cs") => `(tactic| ((with_reducible refine' s_law_choices ?hv ?he ?q); (case hv => exact rfl); (case he => first | with_reducible assumption | exact InE.mem); intro p H' hp he hm))
local macro_rules | `(tactic| walk_at "cs") => `(tactic| ((with_reducible refine' s_law_choicesV ?hv ?he ?hc ?q); (case hv => exact rfl); (case he => infer_instance); (case hc => infer_instance); intro p H' hp he hm))
local macro_rules | `(tactic| walk_at "cs") => `(tactic| ((with_reducible refine' s_law_draws ?hv ?hm ?hs ?q); (case hv => exact rfl); (case hm => decide); (case hs => decide); intro p H' ds hp he hm hl hr))
local macro_rules | `(tactic| walk_at "cs") => `(tactic| ((with_reducible refine' k_ninEnt ?q)))
local macro_rules | `(tactic| walk_at "cs") => `(tactic| ((with_reducible refine' k_lenEnt ?q)))
local macro_rules | `(tactic| walk_at "cs") => `(tactic| ((with_reducible refine' o_ixTn ?h ?h0 ?e ?q); (case h => exact ent_sq); (case h0 => decide); (case e => exact rfl)))
local macro_rules | `(tactic| walk_at "cs") => `(tactic| ((with_reducible refine' k_ixW ?he ?q); (case he => first | with_reducible assumption | exact InE.mem)))
local macro_rules | `(tactic| walk_at "cs") => `(tactic| ((with_reducible refine' k_ninCh ?he ?q); (case he => first | with_reducible assumption | exact InE.mem)))
local macro_rules | `(tactic| walk_at "cs") => `(tactic| ((with_reducible refine' k_ninEntT ?he ?q); (case he => first | with_reducible assumption | exact InE.mem)))
local macro_rules | `(tactic| walk_at "cs") => `(tactic| ((with_reducible refine' k_ninChT ?he ?hc ?q); (case he => first | with_reducible assumption | exact InE.mem); (case hc => first | with_reducible assumption | decide +kernel)))
local macro_rules | `(tactic| walk_at "cs") => `(tactic| ((with_reducible refine' k_bkput ?h ?he ?q); (case h => walk_at "hp"); (case he => first | with_reducible assumption | exact InE.mem)))
local macro_rules | `(tactic| walk_at "cs") => `(tactic| ((with_reducible refine' k_bkget ?h ?he ?q); (case h => walk_at "hp"); (case he => first | with_reducible assumption | exact InE.mem)))
local macro_rules | `(tactic| walk_at "cs") => `(tactic| ((with_reducible refine' s_Book_getitem ?hv ?ha ?hd ?he ?hf ?q); (case hv => exact rfl); (case ha => walk_at "hp"); (case hd => walk_at "hp"); (case he => infer_instance); (case hf => infer_instance)))
local macro_rules | `(tactic| walk_at "cs") => `(tactic| ((with_reducible refine' s_Book_setitem ?hv ?ha ?hd ?he ?hc ?q); (case hv => exact rfl); (case ha => walk_at "hp"); (case hd => walk_at "hp"); (case he => infer_instance); (case hc => first | with_reducible assumption | decide +kernel)))
local macro_rules | `(tactic| walk_at "cs") => `(tactic| ((with_reducible refine' s_mkBook ?hv ?h0 ?h1 ?h2 ?h3 ?h4 ?h5 ?h6 ?h7 ?h8 ?h9 ?q); (case hv => exact rfl); (case h0 => decide +kernel); (case h1 => decide +kernel); (case h2 => decide +kernel); (case h3 => decide +kernel); (case h4 => decide +kernel); (case h5 => decide +kernel); (case h6 => decide +kernel); (case h7 => decide +kernel); (case h8 => decide +kernel); (case h9 => decide +kernel); intro x dx d H' hx hd hn he hxm hdm))
local macro_rules | `(tactic| walk_at "cs") => `(tactic| ((with_reducible refine' s_Book_setitemU ?hv ?ha ?he ?hc ?q); (case hv => exact rfl); (case ha => walk_at "hp"); (case he => infer_instance); (case hc => first | with_reducible assumption | decide +kernel)))
local macro_rules | `(tactic| walk_at "cs") => `(tactic| ((with_reducible refine' s_law_picks ?hv ?hS ?hl ?hr ?q); (case hv => exact rfl); (case hS => walk_at "sq"); (case hl => assumption); (case hr => assumption); intro p H' f hp he hm hg))
local macro_rules | `(tactic| walk_at "cs") => `(tactic| ((with_reducible refine' s_law_book ?hv ?ha ?hg ?q); (case hv => exact rfl); (case ha => walk_at "hp"); (case hg => assumption); intro x dx d H' hx hd hn he hxm hdm))
section
variable {K : PySem.W.Frag} [TxtK K] {w : World} [BookW K w] {k : Nat} {H : Hp} {Q : VK} {E : XK} {xs : List V} {a b d dx : Addr}
theorem s_Book_copied {f : Str → Str} (hv : xs = [.ref a]) (ha : H a = some (.ins (He.ga K "Book") dx (fs_Book (.ref d)))) (hd : H d = some (.dK (bk f))) (hf : ∀ e ∈ ENT, f e ∈ chs e)
    (q : ∀ p dp d' H', H p = none → H d' = none → Ex H H' → H' p = some (.ins (He.ga K "Book") dp (fs_Book (.ref d'))) → H' d' = some (.dK (bk f)) → Q (.ref p) H') : Gam K w (k + 2) .Book_copied xs H Q E := by
  subst hv
  refine ⟨rfl, ?_⟩
  unfold rd_Book_copied
  refine k_start ?_
  walk_at "go"
  refine k_makeSp ?_
  walk_at "go"
  refine k_rmkSp (zs := ENT.map fun e => V.str (f e)) (vs := ENT.map fun e => V.str (f e)) (by rw [hd]; rfl) rfl (fun x => rfl) ?_
  intro x dx' hx hdx hn
  refine s_Book_init (k := k) (c0 := f "work") (c1 := f "write") (c2 := f "meet") (c3 := f "test") (c4 := f "partly") (c5 := f "value") (c6 := f "path") (c7 := f "loop") (c8 := f "guard") (c9 := f "call") rfl upd_same
    (hf _ (by decide)) (hf _ (by decide)) (hf _ (by decide)) (hf _ (by decide)) (hf _ (by decide)) (hf _ (by decide)) (hf _ (by decide)) (hf _ (by decide)) (hf _ (by decide)) (hf _ (by decide)) fun d' H' hdn hk hx' hd' => ⟨rfl, ?_⟩
  have e : bk (fL [f "work", f "write", f "meet", f "test", f "partly", f "value", f "path", f "loop", f "guard", f "call"]) = bk f := rfl
  rw [e] at hd'
  have hne : ∀ b o, H b = some o → b ≠ x ∧ b ≠ dx' := fun b o h => ⟨ne_of_none h hx, ne_of_none h hdx⟩
  have hd0 : H d' = none := by
    cases z : H d' with
    | none => rfl
    | some o =>
      obtain ⟨n1, n2⟩ := hne _ _ z
      rw [upd_ne n1, upd_ne n2, z] at hdn
      cases hdn
  refine q x dx' d' H' hx hd0 (fun b o h => ?_) hx' hd'
  obtain ⟨n1, n2⟩ := hne b o h
  exact hk b o n1 (by rw [upd_ne n1, upd_ne n2]; exact h)
end
local macro_rules | `(tactic| walk_at "cs") => `(tactic| ((with_reducible refine' s_Book_copied ?hv ?ha ?hd ?hf ?q); (case hv => exact rfl); (case ha => walk_at "hp"); (case hd => walk_at "hp"); (case hf => assumption); intro p dp d2 H2 hp hd2 he hm hmd))
theorem ne_of_some {H : Hp} {a b : Addr} {o : HO} (h : H a = some o) (h' : H b = none) : b ≠ a := fun z => by rw [z, h] at h'; cases h'
def nw (H H' : Hp) : Hp := fun b => if H b = none then H' b else none
theorem nw_le {H G H' G' : Hp} (hd : ∀ b, G b = none → H b = none) (hv : ∀ b v, G b = none → G' b = some v → H' b = some v) : Ex (nw G G') (nw H H') := fun b v h => by
  unfold nw at h ⊢
  by_cases z : G b = none
  · rw [if_pos z] at h
    rw [if_pos (hd b z)]
    exact hv b v z h
  · rw [if_neg z] at h; cases h
theorem nw_at {H H' : Hp} {b : Addr} {o : HO} (h : H b = none) (h' : H' b = some o) : nw H H' b = some o := by unfold nw; rw [if_pos h]; exact h'
/-- a menu; what is its own is not in G -/
structure MenuA (K : PySem.W.Frag) [TxtK K] (G H : Hp) (m : Addr) (f : Str → Str) (es : List Str) (t : Str → List Str) : Prop where
  ex : ∃ dx b db dxb en d kvs, H m = some (.ins (He.ga K ("Menu" : Str)) dx (fs_Menu (.ref b) (.ref en) (.ref d) (.int (mcnt t es.reverse : Nat)))) ∧ H b = some (.ins (He.ga K ("Book" : Str)) dxb (fs_Book (.ref db))) ∧ H db = some (.dK (bk f)) ∧ H en = some (.lst (es.map V.str)) ∧ H d = some (.dK kvs) ∧
    OptK (nw G H) kvs es t ∧ G m = none ∧ G b = none ∧ G db = none ∧ G en = none ∧ G d = none
theorem o_lenDK {H : Hp} {Q : VK} {a : Addr} {kvs : List (Key × V)} (h : H a = some (.dK kvs)) (q : Q (.int kvs.length) H) : rLenD [.ref a] H Q := ⟨a, kvs, rfl, h, q⟩
theorem flat_strs : ∀ {ls : List Str}, (∀ x ∈ ls, PyData.strOk x = true) → flatOk (ls.map V.str) = true
  | [], _ => rfl
  | x :: l, h => by
    have ih := flat_strs (ls := l) fun y hy => h y (List.mem_cons_of_mem _ hy)
    have hx := h x List.mem_cons_self
    simp [flatOk, flat1] at ih ⊢
    exact ⟨hx, ih⟩
theorem chs_strOk : ∀ e ∈ ENT, ∀ c ∈ chs e, PyData.strOk c = true := by decide +kernel
theorem o_eqSnil {K : PySem.W.Frag} {H : Hp} {Q : VK} {a b : Addr} {ls : List Str} (hs : ∀ x ∈ ls, PyData.strOk x = true) (h1 : SqL K H a (ls.map V.str)) (h2 : SqL K H b []) (q : Q (.bl ls.isEmpty) H) : rEqA K (.ref a) (.ref b) H Q :=
  o_eqLL h1 h2 (flat_strs hs) rfl (by
    cases ls with
    | nil => exact q
    | cons x l => exact q)
theorem okOpt_len {l : List Str} {o : Str → List Str} (h : (entsE l).length ≠ l.length) : okOpt l o = false := by
  unfold okOpt
  rw [show ((entsE l).length == l.length) = false from by simpa using h]
  rfl
theorem okOpt_ent {l : List Str} {o : Str → List Str} {e : Str} (he : e ∈ entsE l) (h : toldE o e = [] ∨ (toldE o e).length ≠ (o e).length) : okOpt l o = false := by
  have : ((entsE l).all fun e => !(toldE o e).isEmpty && (toldE o e).length == (o e).length) = false := by
    rw [List.all_eq_false]
    refine ⟨e, he, ?_⟩
    rcases h with h | h
    · rw [h]; simp
    · simp [h]
  unfold okOpt
  rw [this, Bool.and_false, Bool.false_and]
theorem okOpt_cnt {l : List Str} {o : Str → List Str} (h : 24 < mcnt (toldE o) (entsE l).reverse) : okOpt l o = false := by
  unfold okOpt
  rw [decide_eq_false (by omega), Bool.and_false]
theorem okOpt_of {l : List Str} {o : Str → List Str} (h1 : (entsE l).length = l.length) (h2 : ∀ e ∈ entsE l, toldE o e ≠ [] ∧ (toldE o e).length = (o e).length) (h3 : mcnt (toldE o) (entsE l).reverse ≤ 24) : okOpt l o = true := by
  unfold okOpt
  rw [decide_eq_true h3, Bool.and_true, h1, beq_self_eq_true, Bool.true_and, List.all_eq_true]
  intro e he
  obtain ⟨a, b⟩ := h2 e he
  rw [b]
  simp [a]
section
variable {K : PySem.W.Frag} [TxtK K] {w : World} [BookW K w] {k : Nat} {H : Hp} {Q : VK} {E : XK} {xs : List V} {a b d dx : Addr} {f : Str → Str}
theorem MenuA.kp {G H H' : Hp} {m : Addr} {es : List Str} {t : Str → List Str} (h : MenuA K G H m f es t) (x : ∀ b o, G b = none → H b = some o → H' b = some o) : MenuA K G H' m f es t := by
  obtain ⟨dx, b, db, dxb, en, d, kvs, h1, h2, h3, h4, h5, h6, g1, g2, g3, g4, g5⟩ := h.ex
  refine ⟨dx, b, db, dxb, en, d, kvs, x _ _ g1 h1, x _ _ g2 h2, x _ _ g3 h3, x _ _ g4 h4, x _ _ g5 h5, h6.ex fun b v z => ?_, g1, g2, g3, g4, g5⟩
  unfold nw at z ⊢
  by_cases y : G b = none
  · rw [if_pos y] at z ⊢
    exact x b _ y z
  · rw [if_neg y] at z; cases z
theorem s_mkMenu {kvs : List (Key × V)} {l : List Str} {o : Str → List Str} {d2 : Addr} (hv : xs = [.ref b, .ref d2]) (hb : H b = some (.ins (He.ga K "Book") dx (fs_Book (.ref d)))) (hd : H d = some (.dK (bk f))) (hf : ∀ e ∈ ENT, f e ∈ chs e)
    (ho : H d2 = some (.dK kvs)) (hO : OptK H kvs l o) (hol : ∀ e ∈ l, (o e).length ≤ 1000)
    (qT : okOpt l o = true → ∀ m H', H m = none → Ex H H' → MenuA K H H' m f (entsE l) (toldE o) → Q (.ref m) H')
    (qE : okOpt l o = false → ∀ H', Ex H H' → E (.ref (He.ga K "InvalidInput")) none H') : RMk (He.ga K "Menu") (Gam K w (k + 4) .Menu_init) xs E H Q := by
  subst hv
  intro m dm hm hdm hn
  refine ⟨rfl, ?_⟩
  unfold rd_Menu_init
  refine k_start ?_
  have x0 : Ex H (upd (upd H dm (.own m)) m (.ins (He.ga K ("Menu" : Str)) dm [])) := (Ex.new hdm).new' hm
  have hm0 : (upd (upd H dm (.own m)) m (.ins (He.ga K ("Menu" : Str)) dm [])) m = some (.ins (He.ga K ("Menu" : Str)) dm []) := upd_same
  generalize upd (upd H dm (.own m)) m (.ins (He.ga K ("Menu" : Str)) dm []) = G0 at x0 hm0
  have hb0 := x0.at hb
  have hd0 := x0.at hd
  walk_at "go"
  rename_i bp dp db G1 hbp hdb hg1 hbp1 hdb1
  have hm1 := hg1.at hm0
  have hbpm : bp ≠ m := fun z => by rw [z, hm0] at hbp; cases hbp
  have hdbm : db ≠ m := fun z => by rw [z, hm0] at hdb; cases hdb
  have hbpH := x0.none hbp
  have hdbH := x0.none hdb
  have x2 : Ex H (upd G1 m (.ins (He.ga K ("Menu" : Str)) dm (fs_Menu_1 (.ref bp)))) := (x0.trans hg1).new' hm
  have hm2 : (upd G1 m (.ins (He.ga K ("Menu" : Str)) dm (fs_Menu_1 (.ref bp)))) m = some (.ins (He.ga K ("Menu" : Str)) dm (fs_Menu_1 (.ref bp))) := upd_same
  have hbp2 : (upd G1 m (.ins (He.ga K ("Menu" : Str)) dm (fs_Menu_1 (.ref bp)))) bp = some (.ins (He.ga K ("Book" : Str)) dp (fs_Book (.ref db))) := by rw [upd_ne hbpm]; exact hbp1
  have hdb2 : (upd G1 m (.ins (He.ga K ("Menu" : Str)) dm (fs_Menu_1 (.ref bp)))) db = some (.dK (bk f)) := by rw [upd_ne hdbm]; exact hdb1
  generalize upd G1 m (.ins (He.ga K ("Menu" : Str)) dm (fs_Menu_1 (.ref bp))) = G2 at x2 hm2 hbp2 hdb2 ⊢
  clear hm0 hm1 hbp1 hdb1 hg1 hb0 hd0 x0
  refine k_lcT ?_
  walk_at "go"
  refine k_lcFT (fun e => decide (e ∈ l)) (by show 3 < 6; decide) ent_sq (by decide) (fun e he G' Q' hx q' => ?_) fun en G3 hen hg3 hen3 => ?_
  · haveI : InE e := ⟨he⟩
    dsimp only [List.set]
    walk_at "go"
    refine o_inOpt (.inl ((x2.trans hx).at ho)) (hO.ex fun _ _ z => (x2.trans hx).at z) ?_
    first | exact q' | (walk_at "go"; exact q')
  · change G3 en = some (.lst ((entsE l).map V.str)) at hen3
    have hm3 := hg3.at hm2
    have henm : en ≠ m := fun z => by rw [z, hm2] at hen; cases hen
    have henH := x2.none hen
    have hbp3 := hg3.at hbp2
    have hdb3 := hg3.at hdb2
    walk_at "go"
    have x4 : Ex H (upd G3 m (.ins (He.ga K ("Menu" : Str)) dm (fs_Menu_2 (.ref bp) (.ref en)))) := (x2.trans hg3).new' hm
    have hm4 : (upd G3 m (.ins (He.ga K ("Menu" : Str)) dm (fs_Menu_2 (.ref bp) (.ref en)))) m = some (.ins (He.ga K ("Menu" : Str)) dm (fs_Menu_2 (.ref bp) (.ref en))) := upd_same
    have hbp4 : (upd G3 m (.ins (He.ga K ("Menu" : Str)) dm (fs_Menu_2 (.ref bp) (.ref en)))) bp = some (.ins (He.ga K ("Book" : Str)) dp (fs_Book (.ref db))) := by rw [upd_ne hbpm]; exact hbp3
    have hdb4 : (upd G3 m (.ins (He.ga K ("Menu" : Str)) dm (fs_Menu_2 (.ref bp) (.ref en)))) db = some (.dK (bk f)) := by rw [upd_ne hdbm]; exact hdb3
    have hen4 : (upd G3 m (.ins (He.ga K ("Menu" : Str)) dm (fs_Menu_2 (.ref bp) (.ref en)))) en = some (.lst ((entsE l).map V.str)) := by rw [upd_ne henm]; exact hen3
    generalize upd G3 m (.ins (He.ga K ("Menu" : Str)) dm (fs_Menu_2 (.ref bp) (.ref en))) = G4 at x4 hm4 hbp4 hdb4 hen4 ⊢
    clear hm2 hbp2 hdb2 hm3 hbp3 hdb3 hen3 hg3 x2
    have hel : (entsE l).length ≤ 10 := List.length_filter_le _ _
    have hkl := hO.len
    refine o_lenDK (x4.at ho) ?_
    walk_at "go"
    refine k_itd (fun heq => ?_) (fun hne => ?_)
    rotate_left
    · walk_at "go"
      exact qE (okOpt_len fun z => hne (by rw [hkl, z])) _ x4
    · have heq : (entsE l).length = l.length := by
        rw [hkl] at heq
        omega
      walk_at "go"
      rename_i dd G5 hdd hg5 hdd5
      have hddH := x4.none hdd
      have hddm : dd ≠ m := fun z => by rw [z, hm4] at hdd; cases hdd
      have hdbdd0 : db ≠ dd := fun z => by rw [← z, hdb4] at hdd; cases hdd
      have x5 := x4.trans hg5
      have hbp5 := hg5.at hbp4
      have hdb5 := hg5.at hdb4
      have hen5 := hg5.at hen4
      have x6 : Ex H (upd G5 m (.ins (He.ga K ("Menu" : Str)) dm (fs_Menu (.ref bp) (.ref en) (.ref dd) (.int 1)))) := x5.new' hm
      have cp : ∀ {b o}, b ≠ m → G5 b = some o → (upd G5 m (.ins (He.ga K ("Menu" : Str)) dm (fs_Menu (.ref bp) (.ref en) (.ref dd) (.int 1)))) b = some o := fun n h => by rw [upd_ne n]; exact h
      have hbp6 := cp hbpm hbp5
      have hdb6 := cp hdbm hdb5
      have hen6 := cp henm hen5
      have hdd6 := cp hddm hdd5
      have hm6 : (upd G5 m (.ins (He.ga K ("Menu" : Str)) dm (fs_Menu (.ref bp) (.ref en) (.ref dd) (.int 1)))) m = some (.ins (He.ga K ("Menu" : Str)) dm (fs_Menu (.ref bp) (.ref en) (.ref dd) (.int 1))) := upd_same
      generalize upd G5 m (.ins (He.ga K ("Menu" : Str)) dm (fs_Menu (.ref bp) (.ref en) (.ref dd) (.int 1))) = G6 at x6 hbp6 hdb6 hen6 hdd6 hm6 ⊢
      clear cp hm4 hbp4 hdb4 hen4 hg5 hdd5 hbp5 hdb5 hen5 x5 x4
      have hm6' : G6 m = some (.ins (He.ga K ("Menu" : Str)) dm (fs_Menu (.ref bp) (.ref en) (.ref dd) (.int (mcnt (toldE o) ((entsE l).take 0).reverse : Nat)))) := hm6
      refine k_raL (k_rlI (sqL_of hen6) (fun j σ G => ∃ (kvs' : List (Key × V)) (u3 u4 u5 : Option V), σ = [some (.ref m), some (.ref b), some (.ref d2), u3, u4, u5] ∧ Ex H G ∧ G m = some (.ins (He.ga K ("Menu" : Str)) dm (fs_Menu (.ref bp) (.ref en) (.ref dd) (.int (mcnt (toldE o) ((entsE l).take j).reverse : Nat)))) ∧ G bp = some (.ins (He.ga K ("Book" : Str)) dp (fs_Book (.ref db))) ∧ G db = some (.dK (bk f)) ∧ G en = some (.lst ((entsE l).map V.str)) ∧ G dd = some (.dK kvs') ∧ OptK (nw H G) kvs' ((entsE l).take j) (toldE o) ∧ ∀ e ∈ (entsE l).take j, toldE o e ≠ [] ∧ (toldE o e).length = (o e).length)
        ⟨[], none, none, none, rfl, x6, hm6', hbp6, hdb6, hen6, hdd6, OptK.nil, fun e z => absurd z (List.not_mem_nil)⟩ (fun j σ G _ ⟨_, _, _, _, _, _, _, _, _, z, _⟩ => sqL_of z) ?_ ?_)
      · rintro j x σ G hj ⟨kvs', u3, u4, u5, rfl, hx, gm, gb, gdb, gen, gdd, gO, gk⟩
        rw [List.getElem?_map] at hj
        obtain ⟨e, he, rfl⟩ := Option.map_eq_some_iff.mp hj
        have hemem := List.mem_of_getElem? he
        obtain ⟨hE, hel'⟩ := mem_entsE.mp hemem
        haveI : InE e := ⟨hE⟩
        have htk : (entsE l).take (j + 1) = (entsE l).take j ++ [e] := by rw [List.take_succ, he]; rfl
        obtain ⟨q0, hq0, hq1⟩ := hO.at_ e hel'
        have hol' := hol e hel'
        have hoG := hx.at ho
        have hqG := hx.at hq1
        dsimp only [List.set]
        walk_at "go"
        refine k_lcFA (fun c => decide (c ∈ o e)) (by show 5 < 6; decide) (.inr (ch_sq hE)) (by have := (chx_ok e hE).2.2.1; omega) (fun c hc G' Q' hx' q' => ?_) fun D G1 hD hg1 hD1 => ?_
        · have hoG' := hx'.at hoG
          have hqG' := hx'.at hqG
          dsimp only [List.set]
          walk_at "go"
          refine k_getOpt (.inl hoG') hq0 ?_
          refine o_inL (sqL_of hqG') ?_
          first | exact q' | (walk_at "go"; exact q')
        · change G1 D = some (.lst ((toldE o e).map V.str)) at hD1
          have htl : (toldE o e).length ≤ 4 := Nat.le_trans (List.length_filter_le _ _) (chx_ok e hE).2.2.1
          have hm1 := hg1.at gm
          have hb1' := hg1.at gb
          have hdb1' := hg1.at gdb
          have hen1 := hg1.at gen
          have hdd1 := hg1.at gdd
          have hoG1 := hg1.at hoG
          have hqG1 := hg1.at hqG
          clear hm6 hm6' hbp6 hdb6 hen6 hdd6
          walk_at "go"
          rename_i pn G2 hpn hg2 hpn2
          have hD2 := hg2.at hD1
          have hoG2 := hg2.at hoG1
          have hqG2 := hg2.at hqG1
          have x2 := (hx.trans hg1).trans hg2
          refine o_eqSnil (ls := toldE o e) (fun c hc => chs_strOk e hE c (List.mem_filter.mp hc).1) (sqL_of hD2) (sqL_of hpn2) ?_
          by_cases hnil : toldE o e = []
          · rw [show (toldE o e).isEmpty = true from by rw [hnil]; rfl]
            walk_at "go"
            exact qE (okOpt_ent hemem (.inl hnil)) _ x2
          · rw [show (toldE o e).isEmpty = false from by simpa using hnil]
            walk_at "go"
            refine k_getOpt (.inl hoG2) hq0 ?_
            walk_at "go"
            refine k_itd (fun hle => ?_) (fun hle => ?_)
            · have hm3 := hg2.at hm1
              have hdd3 := hg2.at hdd1
              have hen3 := hg2.at hen1
              have hb3 := hg2.at hb1'
              have hdb3 := hg2.at hdb1'
              have hDH : H D = none := hx.none hD
              have hDm : D ≠ m := fun z => by rw [z, gm] at hD; cases hD
              have hDdd : D ≠ dd := fun z => by rw [z, gdd] at hD; cases hD
              have hkl' := gO.len
              have hjl : ((entsE l).take j).length ≤ 10 := by rw [List.length_take]; omega
              have hej : e ∉ (entsE l).take j := fun z => by
                have nd := entsE_nd (l := l)
                rw [← List.take_append_drop (j + 1) (entsE l), htk, List.append_assoc] at nd
                exact (List.nodup_append.mp nd).2.2 e z e (by simp) rfl
              walk_at "go"
              refine k_rdput hdd3 (by omega) rfl ?_
              have hmdd : m ≠ dd := Ne.symm hddm
              have hm4 : (upd G2 dd (.dK (putK kvs' (.inr e) (.ref D)))) m = _ := (upd_ne hmdd).trans hm3
              have hD4 : (upd G2 dd (.dK (putK kvs' (.inr e) (.ref D)))) D = _ := (upd_ne hDdd).trans hD2
              walk_at "go"
              have hbpdd : bp ≠ dd := fun z => by rw [z, gdd] at gb; cases gb
              have hdbdd : db ≠ dd := hdbdd0
              have hendd : en ≠ dd := fun z => by rw [z, gdd] at gen; cases gen
              refine ⟨_, _, _, _, rfl, (x2.new' hddH).new' hm, ?_, ?_, ?_, ?_, (upd_ne hddm).trans upd_same, ?_, ?_⟩
              · rw [upd_same, htk, mcnt_app]
                simp
              · rw [upd_ne hbpm, upd_ne hbpdd]; exact hb3
              · rw [upd_ne hdbm, upd_ne hdbdd]; exact hdb3
              · rw [upd_ne henm, upd_ne hendd]; exact hen3
              · have o1 : OptK (nw H G2) kvs' ((entsE l).take j) (toldE o) := gO.ex fun b v z => nw_le (fun _ y => y) (fun b v _ y => hg2.at (hg1.at y)) b _ z
                have o2 := o1.put (e := e) (cs := toldE o e) (nw_at hDH hD2)
                rw [if_neg hej, ← htk, show oset (toldE o) e (toldE o e) = toldE o from by
                  funext x
                  unfold oset
                  split
                  · rename_i z; rw [z]
                  · rfl] at o2
                refine o2.ex fun b v z => ?_
                unfold nw at z ⊢
                by_cases y : H b = none
                · rw [if_pos y] at z ⊢
                  rw [upd_ne (fun y' => by rw [y', hm3] at z; cases z), upd_ne (fun y' => by rw [y', hdd3] at z; cases z)]
                  exact z
                · rw [if_neg y] at z; cases z
              · intro e' he'
                rw [htk] at he'
                rcases List.mem_append.mp he' with z | z
                · exact gk e' z
                · rw [List.mem_singleton.mp z]
                  refine ⟨hnil, ?_⟩
                  omega
            · walk_at "go"
              refine qE (okOpt_ent hemem (.inr fun z => hle ?_)) _ x2
              rw [z]
      · rintro σ G ⟨kvs', u3, u4, u5, rfl, hx, gm, gb, gdb, gen, gdd, gO, gk⟩
        clear hm6 hm6' hbp6 hdb6 hen6 hdd6
        walk_at "go"
        rw [List.length_map, List.take_length] at gm gO gk ⊢
        refine k_itd (fun h24 => ?_) (fun h24 => ?_)
        · walk_at "go"
          exact qE (okOpt_cnt (by omega)) _ hx
        · walk_at "go"
          exact ⟨rfl, qT (okOpt_of heq gk (by omega)) m G hm hx ⟨⟨_, _, _, _, _, _, _, gm, gb, gdb, gen, gdd, gO, hm, hbpH, hdbH, henH, hddH⟩⟩⟩
end
end

set_option Elab.async false
set_option linter.all false
set_option maxRecDepth 100000
set_option maxHeartbeats 4000000
section
open PySem PySem.Spec PyProof.Rows L2
/-! ### the stepping tactic -/
local macro_rules | `(tactic| walk_at "cs") => `(tactic| fail)
local macro_rules | `(tactic| walk_at "cs") => `(tactic| ((with_reducible refine' s_law_entries ?hv ?q); (case hv => exact rfl); intro p H' hp he hm))
local macro_rules | `(tactic| walk_at "cs") => `(tactic| ((with_reducible refine' s_law_choices ?hv ?he ?q); (case hv => exact rfl); (case he => first | with_reducible assumption | exact InE.mem); intro p H' hp he hm))
local macro_rules | `(tactic| walk_at "cs") => `(tactic| ((with_reducible refine' s_law_choicesV ?hv ?he ?hc ?q); (case hv => exact rfl); (case he => infer_instance); (case hc => infer_instance); intro p H' hp he hm))
local macro_rules | `(tactic| walk_at "cs") => `(tactic| ((with_reducible refine' s_law_draws ?hv ?hm ?hs ?q); (case hv => exact rfl); (case hm => decide); (case hs => decide); intro p H' ds hp he hm hl hr))
local macro_rules | `(tactic| walk_at "cs") => `(tactic| ((with_reducible refine' k_ninEnt ?q)))
local macro_rules | `(tactic| walk_at "cs") => `(tactic| ((with_reducible refine' k_lenEnt ?q)))
local macro_rules | `(tactic| walk_at "cs") => `(tactic| ((with_reducible refine' o_ixTn ?h ?h0 ?e ?q); (case h => exact ent_sq); (case h0 => decide); (case e => exact rfl)))
local macro_rules | `(tactic| walk_at "cs") => `(tactic| ((with_reducible refine' k_ixW ?he ?q); (case he => first | with_reducible assumption | exact InE.mem)))
local macro_rules | `(tactic| walk_at "cs") => `(tactic| ((with_reducible refine' k_ninCh ?he ?q); (case he => first | with_reducible assumption | exact InE.mem)))
local macro_rules | `(tactic| walk_at "cs") => `(tactic| ((with_reducible refine' k_ninEntT ?he ?q); (case he => first | with_reducible assumption | exact InE.mem)))
local macro_rules | `(tactic| walk_at "cs") => `(tactic| ((with_reducible refine' k_ninChT ?he ?hc ?q); (case he => first | with_reducible assumption | exact InE.mem); (case hc => first | with_reducible assumption | decide +kernel)))
local macro_rules | `(tactic| walk_at "cs") => `(tactic| ((with_reducible refine' k_bkput ?h ?he ?q); (case h => walk_at "hp"); (case he => first | with_reducible assumption | exact InE.mem)))
local macro_rules | `(tactic| walk_at "cs") => `(tactic| ((with_reducible refine' k_bkget ?h ?he ?q); (case h => walk_at "hp"); (case he => first | with_reducible assumption | exact InE.mem)))
local macro_rules | `(tactic| walk_at "cs") => `(tactic| ((with_reducible refine' s_Book_getitem ?hv ?ha ?hd ?he ?hf ?q); (case hv => exact rfl); (case ha => walk_at "hp"); (case hd => walk_at "hp"); (case he => infer_instance); (case hf => infer_instance)))
local macro_rules | `(tactic| walk_at "cs") => `(tactic| ((with_reducible refine' s_Book_setitem ?hv ?ha ?hd ?he ?hc ?q); (case hv => exact rfl); (case ha => walk_at "hp"); (case hd => walk_at "hp"); (case he => infer_instance); (case hc => first | with_reducible assumption | decide +kernel)))
local macro_rules | `(tactic| walk_at "cs") => `(tactic| ((with_reducible refine' s_mkBook ?hv ?h0 ?h1 ?h2 ?h3 ?h4 ?h5 ?h6 ?h7 ?h8 ?h9 ?q); (case hv => exact rfl); (case h0 => decide +kernel); (case h1 => decide +kernel); (case h2 => decide +kernel); (case h3 => decide +kernel); (case h4 => decide +kernel); (case h5 => decide +kernel); (case h6 => decide +kernel); (case h7 => decide +kernel); (case h8 => decide +kernel); (case h9 => decide +kernel); intro x dx d H' hx hd hn he hxm hdm))
local macro_rules | `(tactic| walk_at "cs") => `(tactic| ((with_reducible refine' s_Book_setitemU ?hv ?ha ?he ?hc ?q); (case hv => exact rfl); (case ha => walk_at "hp"); (case he => infer_instance); (case hc => first | with_reducible assumption | decide +kernel)))
local macro_rules | `(tactic| walk_at "cs") => `(tactic| ((with_reducible refine' s_law_picks ?hv ?hS ?hl ?hr ?q); (case hv => exact rfl); (case hS => walk_at "sq"); (case hl => assumption); (case hr => assumption); intro p H' f hp he hm hg))
local macro_rules | `(tactic| walk_at "cs") => `(tactic| ((with_reducible refine' s_law_book ?hv ?ha ?hg ?q); (case hv => exact rfl); (case ha => walk_at "hp"); (case hg => assumption); intro x dx d H' hx hd hn he hxm hdm))
local macro_rules | `(tactic| walk_at "cs") => `(tactic| ((with_reducible refine' s_Book_copied ?hv ?ha ?hd ?hf ?q); (case hv => exact rfl); (case ha => walk_at "hp"); (case hd => walk_at "hp"); (case hf => assumption); intro p dp d2 H2 hp hd2 he hm hmd))
/-- what a menu's options are like -/
structure TG (es : List Str) (t : Str → List Str) : Prop where
  nd : es.Nodup
  sub : ∀ e ∈ es, e ∈ ENT
  pos : ∀ e ∈ es, 0 < (t e).length
  few : ∀ e ∈ es, (t e).length ≤ 4
  ch : ∀ e ∈ es, ∀ c ∈ t e, c ∈ chs e
def BkA (K : PySem.W.Frag) [TxtK K] (H : Hp) (v : V) (g : Str → Str) : Prop := ∃ x dx d, v = .ref x ∧ H x = some (.ins (He.ga K ("Book" : Str)) dx (fs_Book (.ref d))) ∧ H d = some (.dK (bk g))
section
variable {K : PySem.W.Frag} [TxtK K] {w : World} [BookW K w] {k : Nat} {H : Hp} {Q : VK} {E : XK} {xs : List V} {a b d dx : Addr} {f : Str → Str}
theorem s_Menu_numbered {G : Hp} {m : Addr} {es : List Str} {t : Str → List Str} {n : Nat} (hv : xs = [.ref m, .int (n : Nat)]) (hM : MenuA K G H m f es t) (hT : TG es t) (hf : ∀ e ∈ ENT, f e ∈ chs e)
    (q : ∀ v H', Ex H H' → BkA K H' v (numR t es.reverse n f) → Q v H') : Gam K w (k + 3) .Menu_numbered xs H Q E := by
  subst hv
  obtain ⟨dm, b, db, dxb, en, d, kvs, h1, h2, h3, h4, h5, h6, -⟩ := hM.ex
  refine ⟨rfl, ?_⟩
  unfold rd_Menu_numbered
  refine k_start ?_
  walk_at "go"
  rename_i x dp xd H1 hx hxd he1 hmx hmd le H2 hle he2 hm2
  have h12 := he1.trans he2
  refine k_rrev (sqL_of hm2) (fun j σ H' => ∃ (g : Str → Str) (r : Nat) (u v : Option V), σ = [some (.ref m), some (.int (n : Nat)), some (.ref x), some (.int (r : Nat)), u, v] ∧ Ex H H' ∧ H' le = some (.lst (es.map V.str)) ∧ H' x = some (.ins (He.ga K ("Book" : Str)) dp (fs_Book (.ref xd))) ∧ H' xd = some (.dK (bk g)) ∧ numR t (es.reverse.drop j) r g = numR t es.reverse n f)
    ⟨f, n, none, none, rfl, h12, hm2, he2.at hmx, he2.at hmd, rfl⟩ (fun j σ H' ⟨_, _, _, _, _, _, z, _⟩ => sqL_of z) ?_ ?_
  · rintro j v σ H' hj hjv ⟨g, r, u, v0, rfl, hxx, hL, hX, hXd, hnum⟩
    rw [List.length_map] at hj hjv
    rw [List.getElem?_map] at hjv
    obtain ⟨e, he, rfl⟩ := Option.map_eq_some_iff.mp hjv
    have hmem := List.mem_of_getElem? he
    have hE := hT.sub e hmem
    haveI : InE e := ⟨hE⟩
    have hp := hT.pos e hmem
    have hfw := hT.few e hmem
    obtain ⟨q0, hq0, hq1⟩ := h6.at_ e hmem
    have hq1' : H q0 = some (.lst ((t e).map V.str)) := by
      unfold nw at hq1
      split at hq1
      · exact hq1
      · cases hq1
    have hdr : es.reverse.drop j = e :: es.reverse.drop (j + 1) := by
      have hjl : j < es.reverse.length := by rw [List.length_reverse]; exact hj
      rw [List.drop_eq_getElem_cons hjl]
      congr 1
      rw [List.getElem_reverse]
      have := List.getElem?_eq_some_iff.mp he
      exact this.2
    rw [hdr] at hnum
    have h1' := hxx.at h1
    have h5' := hxx.at h5
    have hq1'' := hxx.at hq1'
    clear hm2 hmx hmd
    dsimp only [List.set]
    walk_at "go"
    refine k_getOpt (.inl h5') hq0 ?_
    walk_at "go"
    have hsv : sv (t e) ((r : Int) % ((t e).length : Nat)) = (t e).getD (r % (t e).length) "" := by
      unfold sv
      congr 1
    refine s_Book_setitem rfl hX hXd ⟨hE⟩ (hT.ch e hmem _ (sv_mem (Int.emod_nonneg _ (by omega)) (Int.emod_lt_of_pos _ (by omega)))) ?_
    have hqn : q0 ≠ xd := fun z => by rw [z, hXd] at hq1''; cases hq1''
    have hxn : x ≠ xd := fun z => by rw [z, hXd] at hX; cases hX
    have hln : le ≠ xd := fun z => by rw [z, hXd] at hL; cases hL
    have hq2 : (upd H' xd (.dK (bk (fset g e (sv (t e) ((r : Int) % ((t e).length : Nat))))))) q0 = some (.lst ((t e).map V.str)) := (upd_ne hqn).trans hq1''
    have hX2 : (upd H' xd (.dK (bk (fset g e (sv (t e) ((r : Int) % ((t e).length : Nat))))))) x = some (.ins (He.ga K ("Book" : Str)) dp (fs_Book (.ref xd))) := (upd_ne hxn).trans hX
    have hL2 : (upd H' xd (.dK (bk (fset g e (sv (t e) ((r : Int) % ((t e).length : Nat))))))) le = some (.lst (es.map V.str)) := (upd_ne hln).trans hL
    have hd2 : (upd H' xd (.dK (bk (fset g e (sv (t e) ((r : Int) % ((t e).length : Nat))))))) xd = some (.dK (bk (fset g e (sv (t e) ((r : Int) % ((t e).length : Nat)))))) := upd_same
    have x2 : Ex H (upd H' xd (.dK (bk (fset g e (sv (t e) ((r : Int) % ((t e).length : Nat))))))) := hxx.new' hxd
    generalize upd H' xd (.dK (bk (fset g e (sv (t e) ((r : Int) % ((t e).length : Nat)))))) = H5 at hq2 hX2 hL2 hd2 x2 ⊢
    walk_at "go"
    refine ⟨_, r / (t e).length, some (.str e), some (.ref q0), by rw [Int.natCast_ediv], x2, hL2, hX2, hd2, ?_⟩
    rw [hsv]
    exact hnum
  · rintro σ H' ⟨g, r, u, v0, rfl, hxx, hL, hX, hXd, hnum⟩
    rw [List.length_map, ← List.length_reverse, List.drop_length] at hnum
    clear hm2 hmx hmd
    walk_at "go"
    exact q _ H' hxx ⟨x, dp, xd, rfl, hX, by rw [hXd]; rw [← hnum]; rfl⟩
theorem s_Menu_contains {G : Hp} {m b2 d2 dx2 : Addr} {g : Str → Str} {es : List Str} {t : Str → List Str} (hv : xs = [.ref m, .ref b2]) (hM : MenuA K G H m f es t) (hT : TG es t) (hb2 : H b2 = some (.ins (He.ga K ("Book" : Str)) dx2 (fs_Book (.ref d2)))) (hd2 : H d2 = some (.dK (bk g)))
    (q : ∀ H', Ex H H' → Q (.bl (inMenu t f es g)) H') : Gam K w (k + 3) .Menu_contains xs H Q E := by
  subst hv
  obtain ⟨dm, b, db, dxb, en, d, kvs, h1, h2, h3, h4, h5, h6, -⟩ := hM.ex
  have h6 : OptK H kvs es t := h6.ex fun b v z => by
    unfold nw at z
    split at z
    · exact z
    · cases z
  refine ⟨rfl, ?_⟩
  unfold rd_Menu_contains
  refine k_start ?_
  walk_at "go"
  refine k_rtI ent_sq (fun j σ H' => ∃ (u : Option V), σ = [some (.ref m), some (.ref b2), u] ∧ Ex H H' ∧ ∀ e ∈ ENT.take j, (if e ∈ es then decide (g e ∈ t e) else decide (g e = f e)) = true) ⟨none, rfl, Ex.refl _, fun e z => absurd z List.not_mem_nil⟩ (fun j σ H' _ _ => ent_sq) ?_ ?_
  · rintro j x σ H' hj ⟨u, rfl, hxx, hall⟩
    rw [List.getElem?_map] at hj
    obtain ⟨e, he, rfl⟩ := Option.map_eq_some_iff.mp hj
    have hE := List.mem_of_getElem? he
    haveI : InE e := ⟨hE⟩
    have htk : ENT.take (j + 1) = ENT.take j ++ [e] := by rw [List.take_succ, he]; rfl
    have h1' := hxx.at h1
    have h2' := hxx.at h2
    have h3' := hxx.at h3
    have h5' := hxx.at h5
    have hb2' := hxx.at hb2
    have hd2' := hxx.at hd2
    have h6' : OptK H' kvs es t := h6.ex fun _ _ z => hxx.at z
    have bad : (if e ∈ es then decide (g e ∈ t e) else decide (g e = f e)) = false → inMenu t f es g = false := fun z => by
      unfold inMenu
      rw [List.all_eq_false]
      exact ⟨e, hE, by rw [z]; decide⟩
    have good : (if e ∈ es then decide (g e ∈ t e) else decide (g e = f e)) = true → ∀ e' ∈ ENT.take (j + 1), (if e' ∈ es then decide (g e' ∈ t e') else decide (g e' = f e')) = true := fun z e' he' => by
      rw [htk] at he'
      rcases List.mem_append.mp he' with y | y
      · exact hall e' y
      · rw [List.mem_singleton.mp y]; exact z
    dsimp only [List.set]
    walk_at "go"
    refine o_inOpt (.inl h5') h6' ?_
    walk_at "go"
    refine k_itd (fun hin => ?_) (fun hin => ?_)
    · rw [if_pos hin] at bad good
      obtain ⟨q0, hq0, hq1⟩ := h6'.at_ e hin
      walk_at "go"
      refine k_getOpt (.inl h5') hq0 ?_
      refine o_ninL (sqL_of hq1) ?_
      walk_at "go"
      refine k_itd (fun hc => ?_) (fun hc => ?_)
      · walk_at "go"
        exact ⟨_, rfl, hxx, good (decide_eq_true hc)⟩
      · walk_at "go"
        rw [← bad (decide_eq_false hc)]
        exact q H' hxx
    · rw [if_neg hin] at bad good
      walk_at "go"
      refine k_itd (fun hc => ?_) (fun hc => ?_)
      · walk_at "go"
        exact ⟨_, rfl, hxx, good (decide_eq_true hc)⟩
      · walk_at "go"
        rw [← bad (decide_eq_false hc)]
        exact q H' hxx
  · rintro σ H' ⟨u, rfl, hxx, hall⟩
    walk_at "go"
    have : inMenu t f es g = true := by
      unfold inMenu
      rw [List.all_eq_true]
      rw [List.length_map, List.take_length] at hall
      exact hall
    rw [← this]
    exact q H' hxx
/-- what books gives -/
def jM (K : PySem.W.Frag) [TxtK K] (G : Hp) (m : Addr) (f : Str → Str) (es : List Str) (t : Str → List Str) : It where
  go := fun i H => i < mcnt t es.reverse ∧ MenuA K G H m f es t
  stop := fun i H => i = mcnt t es.reverse ∧ MenuA K G H m f es t
  yld := fun i H x H' => Ex H H' ∧ BkA K H' x (numR t es.reverse i f)
theorem gbooks_ok {G : Hp} {m : Addr} {es : List Str} {t : Str → List Str} (hT : TG es t) (hf : ∀ e ∈ ENT, f e ∈ chs e) (h24 : mcnt t es.reverse ≤ 24) :
    GamG_Menu_books K w (k + 6) [.ref m] (jM K G m f es t) (mcnt t es.reverse) (fun _ _ => True) := by
  have hpos : 0 < mcnt t es.reverse := mcnt_pos fun e he => hT.pos e (List.mem_reverse.mp he)
  refine ⟨rfl, fun i H x H1 h => h.1, fun i H h1 h2 => by have := h1.1; have := h2.1; omega, fun H0 hgs => ?_⟩
  have hM : MenuA K G H0 m f es t := hgs.elim (fun h => h.2) fun h => h.2
  clear hgs
  obtain ⟨dm, b, db, dxb, en, d, kvs, h1, -⟩ := hM.ex
  unfold rdG_Menu_books
  refine L2.MR.gFor_r ?_
  show (tCons (tFld K (tVar 0) ("count" : Str)) tNil) [some (.ref m), none] H0 (L2.MR.RGR 1 _ _ 0 H0 [some (.ref m), none])
  walk_at "go"
  refine L2.MR.rgr_of (n := mcnt t es.reverse) (by omega) (fun j i Hw σ H => i = j ∧ MenuA K G H m f es t ∧ (0 < j → H = Hw) ∧ MenuA K G Hw m f es t ∧ Ex Hw H ∧ ∃ u, σ = [some (.ref m), u]) ⟨rfl, hM, fun z => absurd z (Nat.lt_irrefl _), hM, Ex.refl _, _, rfl⟩ ?_ ?_
  · rintro j i Hw σ H hj ⟨rfl, hMH, he0, hMw, hex, u, rfl⟩
    refine ⟨by omega, ⟨by omega, hMw⟩, ?_⟩
    dsimp only [List.set]
    obtain ⟨dm', b', db', dxb', en', d', kvs', g1, -⟩ := hMH.ex
    walk_at "go"
    refine s_Menu_numbered (G := G) rfl hMH hT hf fun v H' he hb => ?_
    refine ⟨⟨hex.trans he, hb⟩, fun H2 _ hg => ?_⟩
    have hM2 : MenuA K G H2 m f es t := hg.elim (fun h => h.2) fun h => h.2
    exact ⟨rfl, hM2, fun _ => rfl, hM2, Ex.refl _, _, rfl⟩
  · rintro i Hw σ H ⟨rfl, hMH, he0, hMw, hex, u, rfl⟩
    exact ⟨he0 hpos, rfl, hMw⟩
end
end

set_option Elab.async false
set_option linter.all false
set_option maxRecDepth 100000
set_option maxHeartbeats 4000000
section
open PySem PySem.Spec PyProof.Rows L2
/-! ### the stepping tactic -/
local macro_rules | `(tactic| walk_at "cs") => `(tactic| fail)
local macro_rules | `(tactic| walk_at "cs") => `(tactic| ((with_reducible refine' s_law_entries ?hv ?q); (case hv => exact rfl); intro p H' hp he hm))
local macro_rules | `(tactic| walk_at "cs") => `(tactic| ((with_reducible refine' s_law_choices ?hv ?he ?q); (case hv => exact rfl); (case he => first | with_reducible assumption | exact InE.mem); intro p H' hp he hm))
local macro_rules | `(tactic| walk_at "cs") => `(tactic| ((with_reducible refine' s_law_choicesV ?hv ?he ?hc ?q); (case hv => exact rfl); (case he => infer_instance); (case hc => infer_instance); intro p H' hp he hm))
local macro_rules | `(tactic| walk_at "cs") => `(tactic| ((with_reducible refine' s_law_draws ?hv ?hm ?hs ?q); (case hv => exact rfl); (case hm => decide); (case hs => decide); intro p H' ds hp he hm hl hr))
local macro_rules | `(tactic| walk_at "cs") => `(tactic| ((with_reducible refine' k_ninEnt ?q)))
local macro_rules | `(tactic| walk_at "cs") => `(tactic| ((with_reducible refine' k_lenEnt ?q)))
local macro_rules | `(tactic| walk_at "cs") => `(tactic| ((with_reducible refine' o_ixTn ?h ?h0 ?e ?q); (case h => exact ent_sq); (case h0 => decide); (case e => exact rfl)))
local macro_rules | `(tactic| walk_at "cs") => `(tactic| ((with_reducible refine' k_ixW ?he ?q); (case he => first | with_reducible assumption | exact InE.mem)))
local macro_rules | `(tactic| walk_at "cs") => `(tactic| ((with_reducible refine' k_ninCh ?he ?q); (case he => first | with_reducible assumption | exact InE.mem)))
local macro_rules | `(tactic| walk_at "cs") => `(tactic| ((with_reducible refine' k_ninEntT ?he ?q); (case he => first | with_reducible assumption | exact InE.mem)))
local macro_rules | `(tactic| walk_at "cs") => `(tactic| ((with_reducible refine' k_ninChT ?he ?hc ?q); (case he => first | with_reducible assumption | exact InE.mem); (case hc => first | with_reducible assumption | decide +kernel)))
local macro_rules | `(tactic| walk_at "cs") => `(tactic| ((with_reducible refine' k_bkput ?h ?he ?q); (case h => walk_at "hp"); (case he => first | with_reducible assumption | exact InE.mem)))
local macro_rules | `(tactic| walk_at "cs") => `(tactic| ((with_reducible refine' k_bkget ?h ?he ?q); (case h => walk_at "hp"); (case he => first | with_reducible assumption | exact InE.mem)))
local macro_rules | `(tactic| walk_at "cs") => `(tactic| ((with_reducible refine' s_Book_getitem ?hv ?ha ?hd ?he ?hf ?q); (case hv => exact rfl); (case ha => walk_at "hp"); (case hd => walk_at "hp"); (case he => infer_instance); (case hf => infer_instance)))
local macro_rules | `(tactic| walk_at "cs") => `(tactic| ((with_reducible refine' s_Book_setitem ?hv ?ha ?hd ?he ?hc ?q); (case hv => exact rfl); (case ha => walk_at "hp"); (case hd => walk_at "hp"); (case he => infer_instance); (case hc => first | with_reducible assumption | decide +kernel)))
local macro_rules | `(tactic| walk_at "cs") => `(tactic| ((with_reducible refine' s_mkBook ?hv ?h0 ?h1 ?h2 ?h3 ?h4 ?h5 ?h6 ?h7 ?h8 ?h9 ?q); (case hv => exact rfl); (case h0 => decide +kernel); (case h1 => decide +kernel); (case h2 => decide +kernel); (case h3 => decide +kernel); (case h4 => decide +kernel); (case h5 => decide +kernel); (case h6 => decide +kernel); (case h7 => decide +kernel); (case h8 => decide +kernel); (case h9 => decide +kernel); intro x dx d H' hx hd hn he hxm hdm))
local macro_rules | `(tactic| walk_at "cs") => `(tactic| ((with_reducible refine' s_Book_setitemU ?hv ?ha ?he ?hc ?q); (case hv => exact rfl); (case ha => walk_at "hp"); (case he => infer_instance); (case hc => first | with_reducible assumption | decide +kernel)))
local macro_rules | `(tactic| walk_at "cs") => `(tactic| ((with_reducible refine' s_law_picks ?hv ?hS ?hl ?hr ?q); (case hv => exact rfl); (case hS => walk_at "sq"); (case hl => assumption); (case hr => assumption); intro p H' f hp he hm hg))
local macro_rules | `(tactic| walk_at "cs") => `(tactic| ((with_reducible refine' s_law_book ?hv ?ha ?hg ?q); (case hv => exact rfl); (case ha => walk_at "hp"); (case hg => assumption); intro x dx d H' hx hd hn he hxm hdm))
local macro_rules | `(tactic| walk_at "cs") => `(tactic| ((with_reducible refine' s_law_cell ?hv ?hS ?hi ?q); (case hv => exact rfl); (case hS => walk_at "sq"); (case hi => first | decide | omega)))
local macro_rules | `(tactic| walk_at "cs") => `(tactic| ((with_reducible refine' i_excC ?hd ?c ?q); (case hd => exact .inl rfl); (case c => infer_instance)))
local macro_rules | `(tactic| walk_at "cs") => `(tactic| ((with_reducible refine' i_excT ?hd ?c ?q); (case hd => exact .inl rfl); (case c => infer_instance)))
local macro_rules | `(tactic| walk_at "cs") => `(tactic| ((with_reducible refine' i_excA ?hd ?h ?p ?c ?q); (case hd => exact .inl rfl); (case h => walk_at "hp"); (case p => infer_instance); (case c => infer_instance)))
theorem eqD_same {f : Str → Str} : eqD (bk f) (bk f) = true := by
  unfold eqD
  rw [beq_self_eq_true, Bool.true_and]
  show (List.map (fun e => ((Sum.inr e, V.str (f e)) : Key × V)) ENT).all _ = _
  rw [List.all_map, List.all_eq_true]
  intro e he
  simp only [Function.comp, bk_get he]
  show (f e == f e) = true
  simp
theorem bk_flat {f : Str → Str} : ∀ p ∈ bk f, flatV p.2 = true := by
  intro p hp
  obtain ⟨e, _, rfl⟩ := List.mem_map.mp hp
  rfl
theorem chs_nd : ∀ e ∈ ENT, (chs e).Nodup := by decide +kernel
section
variable {mx mn : Nat} {l : List Str} {o : Str → List Str}
theorem OptG.tl (h : OptG mx l o) {e : Str} (he : e ∈ l) : (toldE o e).length = (o e).length := filt_len (chs_nd e (h.sub e he)) (h.nd e he) (h.ch e he)
theorem OptG.tg (h : OptG mx l o) : TG (entsE l) (toldE o) where
  nd := entsE_nd
  sub := entsE_sub
  pos := fun e he => by
    have hel := (mem_entsE.mp he).2
    have := h.two e hel
    rw [h.tl hel]; omega
  few := fun e he => Nat.le_trans (List.length_filter_le _ _) (chx_ok e (entsE_sub e he)).2.2.1
  ch := fun e _ c hc => (List.mem_filter.mp hc).1
theorem OptG.cnt (h : OptG (if mn < 3 then 3 else 2) l o) (nd : l.Nodup) (hl : l.length ≤ mn) (h3 : mn ≤ 3) (m : Nat) : mcnt (toldE o) (entsM l m).reverse ≤ 24 := by
  have hen : (entsE l).length = l.length := filt_len ENT_nd nd h.sub
  have hlen : (entsM l m).reverse.length ≤ mn := by
    rw [List.length_reverse]
    have : (entsM l m).length ≤ (entsE l).length := by
      unfold entsM entsE
      exact (List.Sublist.filter _ (List.take_sublist m ENT)).length_le
    omega
  have hall : ∀ e ∈ (entsM l m).reverse, (toldE o e).length ≤ (if mn < 3 then 3 else 2) := fun e he => by
    have hel : e ∈ l := by
      have := (List.mem_filter.mp (List.mem_reverse.mp he)).2
      exact of_decide_eq_true this
    rw [h.tl hel]
    exact h.most e hel
  by_cases z : mn < 3
  · rw [if_pos z] at hall
    have := mcnt_le (t := toldE o) (n := 3) (by decide) (m := 2) hall (by omega)
    exact Nat.le_trans this (by decide)
  · rw [if_neg z] at hall
    have := mcnt_le (t := toldE o) (n := 2) (by decide) (m := 3) hall (by omega)
    exact Nat.le_trans this (by decide)
theorem OptG.ok (h : OptG (if mn < 3 then 3 else 2) l o) (nd : l.Nodup) (hl : l.length ≤ mn) (h3 : mn ≤ 3) : okOpt l o = true :=
  okOpt_of (filt_len ENT_nd nd h.sub) (fun e he => by
    have hel := (mem_entsE.mp he).2
    have h2 := h.two e hel
    have h1 := h.tl hel
    refine ⟨fun z => ?_, h1⟩
    rw [z] at h1
    simp at h1
    rw [← h1] at h2
    simp at h2) (h.cnt nd hl h3 10)
end
theorem k_pairs {tk tv : TE} {l : List (TE × TE)} {σ : L2.St} {H : Hp} {R : List (V × V) → Hp → Prop} (h : tk σ H fun x H1 => tv σ H1 fun y H2 => tPairs l σ H2 fun ps H3 => R ((x, y) :: ps) H3) : tPairs ((tk, tv) :: l) σ H R := h
theorem k_pairs0 {σ : L2.St} {H : Hp} {R : List (V × V) → Hp → Prop} (h : R [] H) : tPairs [] σ H R := h
theorem k_disp1 {σ : L2.St} {H : Hp} {Q : VK} {e1 : Str} {c1 : List Str} {t1 : TE} (h1 : ∀ (H1 : Hp) (Q1 : VK), Ex H H1 → (∀ q H2, Ex H1 H2 → H2 q = some (.lst (c1.map V.str)) → Q1 (.ref q) H2) → t1 σ H1 Q1)
    (q : ∀ p H' kvs, H p = none → Ex H H' → H' p = some (.dK kvs) → OptK H' kvs [e1] (oset (fun _ => []) e1 c1) → Q (.ref p) H') : tDisp [(tC (.str e1), t1)] σ H Q := fun p hp => by
  have x0 : Ex H (upd H p (.dK [])) := Ex.new hp
  have hp0 : (upd H p (.dK [])) p = some (.dK []) := upd_same
  generalize upd H p (.dK []) = G at x0 hp0
  refine k_pairs ?_
  refine h1 _ _ x0 fun q1 H1 he1 hq1 => ?_
  refine k_pairs0 ?_
  refine ⟨he1.at hp0, [(.inr e1, .ref q1)], rfl, by show 1 ≤ 15; decide, ?_⟩
  have hne : q1 ≠ p := fun z => by rw [z, he1.at hp0] at hq1; cases hq1
  refine q p _ _ hp ((x0.trans he1).new' hp) upd_same ?_
  have o1 := (OptK.nil (H := upd H1 p (.dK (mergeK [] [(Sum.inr e1, V.ref q1)]))) (o := fun _ => [])).put (e := e1) (cs := c1) ((upd_ne hne).trans hq1)
  exact o1
theorem nw_ex {H H' : Hp} : Ex (nw H H') H' := fun b v h => by
  unfold nw at h
  by_cases z : H b = none
  · rw [if_pos z] at h; exact h
  · rw [if_neg z] at h; cases h
theorem k_disp3 {σ : L2.St} {H : Hp} {Q : VK} {e1 e2 e3 : Str} {c1 c2 c3 : List Str} {t1 t2 t3 : TE} (n12 : e1 ≠ e2) (n13 : e1 ≠ e3) (n23 : e2 ≠ e3)
    (h1 : ∀ (H1 : Hp) (Q1 : VK), Ex H H1 → (∀ q H2, H1 q = none → Ex H1 H2 → H2 q = some (.lst (c1.map V.str)) → Q1 (.ref q) H2) → t1 σ H1 Q1)
    (h2 : ∀ (H1 : Hp) (Q1 : VK), Ex H H1 → (∀ q H2, H1 q = none → Ex H1 H2 → H2 q = some (.lst (c2.map V.str)) → Q1 (.ref q) H2) → t2 σ H1 Q1)
    (h3 : ∀ (H1 : Hp) (Q1 : VK), Ex H H1 → (∀ q H2, H1 q = none → Ex H1 H2 → H2 q = some (.lst (c3.map V.str)) → Q1 (.ref q) H2) → t3 σ H1 Q1)
    (q : ∀ p H' kvs, H p = none → Ex H H' → H' p = some (.dK kvs) → OptK (nw H H') kvs [e1, e2, e3] (oset (oset (oset (fun _ => []) e1 c1) e2 c2) e3 c3) → Q (.ref p) H') : tDisp [(tC (.str e1), t1), (tC (.str e2), t2), (tC (.str e3), t3)] σ H Q := fun p hp => by
  have x0 : Ex H (upd H p (.dK [])) := Ex.new hp
  have hp0 : (upd H p (.dK [])) p = some (.dK []) := upd_same
  generalize upd H p (.dK []) = G at x0 hp0
  refine k_pairs ?_
  refine h1 _ _ x0 fun q1 H1 hn1 he1 hq1 => ?_
  refine k_pairs ?_
  refine h2 _ _ (x0.trans he1) fun q2 H2 hn2 he2 hq2 => ?_
  refine k_pairs ?_
  refine h3 _ _ ((x0.trans he1).trans he2) fun q3 H3 hn3 he3 hq3 => ?_
  refine k_pairs0 ?_
  have hp3 := he3.at (he2.at (he1.at hp0))
  have hq13 := he3.at (he2.at hq1)
  have hq23 := he3.at hq2
  refine ⟨hp3, [(.inr e1, .ref q1), (.inr e2, .ref q2), (.inr e3, .ref q3)], rfl, by show 3 ≤ 15; decide, ?_⟩
  have m1 : q1 ≠ p := fun z => by rw [z, hp3] at hq13; cases hq13
  have m2 : q2 ≠ p := fun z => by rw [z, hp3] at hq23; cases hq23
  have m3 : q3 ≠ p := fun z => by rw [z, hp3] at hq3; cases hq3
  refine q p _ _ hp ((((x0.trans he1).trans he2).trans he3).new' hp) upd_same ?_
  have o1 := (OptK.nil (H := nw H (upd H3 p (.dK (mergeK [] [(Sum.inr e1, V.ref q1), (Sum.inr e2, V.ref q2), (Sum.inr e3, V.ref q3)])))) (o := fun _ => [])).put (e := e1) (cs := c1) (nw_at (x0.none hn1) ((upd_ne m1).trans hq13))
  have o2 := o1.put (e := e2) (cs := c2) (nw_at ((x0.trans he1).none hn2) ((upd_ne m2).trans hq23))
  have o3 := o2.put (e := e3) (cs := c3) (nw_at (((x0.trans he1).trans he2).none hn3) ((upd_ne m3).trans hq3))
  have el : (if e3 ∈ (if e2 ∈ (if e1 ∈ ([] : List Str) then ([] : List Str) else [] ++ [e1]) then (if e1 ∈ ([] : List Str) then ([] : List Str) else [] ++ [e1]) else (if e1 ∈ ([] : List Str) then ([] : List Str) else [] ++ [e1]) ++ [e2]) then (if e2 ∈ (if e1 ∈ ([] : List Str) then ([] : List Str) else [] ++ [e1]) then (if e1 ∈ ([] : List Str) then ([] : List Str) else [] ++ [e1]) else (if e1 ∈ ([] : List Str) then ([] : List Str) else [] ++ [e1]) ++ [e2]) else (if e2 ∈ (if e1 ∈ ([] : List Str) then ([] : List Str) else [] ++ [e1]) then (if e1 ∈ ([] : List Str) then ([] : List Str) else [] ++ [e1]) else (if e1 ∈ ([] : List Str) then ([] : List Str) else [] ++ [e1]) ++ [e2]) ++ [e3]) = [e1, e2, e3] := by
    simp [Ne.symm n12, Ne.symm n13, Ne.symm n23]
  rw [el] at o3
  exact o3
/-- options that are refused -/
def WrA (H : Hp) (v : V) : Prop := ∃ p kvs l o, v = .ref p ∧ H p = some (.dK kvs) ∧ OptK H kvs l o ∧ (∀ e ∈ l, (o e).length ≤ 1000) ∧ okOpt l o = false
theorem WrA.ex {H H' : Hp} {v : V} (e : Ex H H') (h : WrA H v) : WrA H' v := let ⟨p, kvs, l, o, a, b, c, d⟩ := h; ⟨p, kvs, l, o, a, e.at b, c.ex fun _ _ z => e.at z, d⟩
theorem any_all {α : Type} {R : α → V → Prop} {xs : List α} {vs : List V} {e : V → Bool} {e' : α → Bool} (h : AllA R xs vs) (hr : ∀ x v, R x v → e v = e' x) : vs.any e = xs.any e' := by
  rw [Bool.eq_iff_iff, List.any_eq_true, List.any_eq_true]
  constructor
  · rintro ⟨v, hv, he⟩
    obtain ⟨i, hi⟩ := List.getElem?_of_mem hv
    obtain ⟨x, hx, hR⟩ := h.at hi
    exact ⟨x, List.mem_of_getElem? hx, by rw [← hr x v hR]; exact he⟩
  · rintro ⟨x, hx, he⟩
    obtain ⟨i, hi⟩ := List.getElem?_of_mem hx
    have hil : i < vs.length := by rw [h.1]; exact (List.getElem?_eq_some_iff.mp hi).1
    have hR := h.2 i x _ hi (List.getElem?_eq_getElem hil)
    exact ⟨_, List.getElem_mem hil, by rw [hr x _ hR]; exact he⟩
theorem tg_of {l : List Str} {o : Str → List Str} (h : ∀ e ∈ entsE l, 0 < (toldE o e).length) : TG (entsE l) (toldE o) where
  nd := entsE_nd
  sub := entsE_sub
  pos := h
  few := fun e he => Nat.le_trans (List.length_filter_le _ _) (chx_ok e (entsE_sub e he)).2.2.1
  ch := fun e _ c hc => (List.mem_filter.mp hc).1
theorem k_rgm {C a dx : Addr} {m : Str} {fs : List (Str × V)} {sp : List V → It → Nat → (Hp → Hp → Prop) → Prop} {dvs : List V} {ta : TA} {σ : L2.St} {R : It → (Hp → Hp → Prop) → Hp → Prop} {H1 : Hp} (h : H1 a = some (.ins C dx fs)) (j : LkN fs m)
    (q : ta σ H1 fun vs H2 => ∃ J M RR, sp (.ref a :: (vs ++ dvs)) J M RR ∧ R J RR H2) : L2.MR.RGm C m sp dvs ta σ R (.ref a) H1 := ⟨a, dx, fs, rfl, h, j.eq, q⟩
section
variable {K : PySem.W.Frag} [TxtK K] {w : World} [BookW K w] {k : Nat} {H : Hp} {Q : VK} {E : XK} {xs : List V} {a b d dx : Addr} {f : Str → Str}
theorem s_law_refused {kvs : List (Key × V)} {l : List Str} {o : Str → List Str} {d2 : Addr} (hv : xs = [.ref b, .ref d2]) (hb : H b = some (.ins (He.ga K "Book") dx (fs_Book (.ref d)))) (hd : H d = some (.dK (bk f))) (hf : ∀ e ∈ ENT, f e ∈ chs e)
    (ho : H d2 = some (.dK kvs)) (hO : OptK H kvs l o) (hol : ∀ e ∈ l, (o e).length ≤ 1000) (hbad : okOpt l o = false)
    (q : ∀ H', Ex H H' → Q (.bl true) H') : Gam K w (k + 5) .law_refused xs H Q E := by
  subst hv
  refine ⟨rfl, ?_⟩
  unfold rd_law_refused
  refine k_start ?_
  walk_at "go"
  refine s_mkMenu (k := k) rfl hb hd hf ho hO hol (fun h => absurd h (by rw [hbad]; decide)) fun _ H' hx => ?_
  refine k_wAs (c := .ref (He.ga K "InvalidInput")) TxtK.xm_InvalidInput_InvalidInput fun c hc => ?_
  dsimp only [List.set]
  walk_at "go"
  exact q _ hx
theorem k_count {G : Hp} {m : Addr} {es : List Str} {t : Str → List Str} {σ : L2.St} (hM : MenuA K G H m f es t) (hT : TG es t) (hf : ∀ e ∈ ENT, f e ∈ chs e) (h24 : mcnt t es.reverse ≤ 24) (hσ : 10 < σ.length)
    (q : ∀ D H1 ws, Ex H H1 → H1 D = some (.lst ws) → ws.length = mcnt t es.reverse → Q (.ref D) H1) :
    L2.MR.RGm (He.ga K ("Menu" : Str)) ("books" : Str) (GamG_Menu_books K w (k + 6)) [] tNil σ (L2.MR.RLcR (gName 10) tYes (tVar 10) [10] σ Q) (.ref m) H := by
  obtain ⟨dm', b', db', dxb', en', d', kvs', hm5, -⟩ := id hM.ex
  refine k_rgm hm5 inferInstance ?_
  refine ⟨jM K G m f es t, mcnt t es.reverse, fun _ _ => True, gbooks_ok (k := k) hT hf h24, ?_⟩
  refine L2.MR.rlcR_of (mcnt t es.reverse) (fun D i H1 => Ex H H1 ∧ ∃ ws, H1 D = some (.lst ws) ∧ ws.length = i) (fun D hD => ⟨Ex.new hD, [], upd_same, rfl⟩) (fun D i H1 hD hi ⟨e, _⟩ => ⟨hi, hM.kp fun b v _ h => e.at h⟩) (fun D H1 hD ⟨e, _⟩ => ⟨rfl, hM.kp fun b v _ h => e.at h⟩) ?_ fun D H1 hD ⟨e, ws, hws, hwl⟩ => q D H1 ws e hws hwl
  rintro D i x H1 H2 hD hi ⟨e, ws, hws, hwl⟩ ⟨ex, -⟩
  have hw : wipe σ [10] = σ.set 10 none := rfl
  rw [hw]
  refine ⟨by simp [wipe, List.set_set], ?_⟩
  unfold tYes
  dsimp only
  rw [if_pos rfl]
  exact ⟨x, List.getElem?_set_self (by rw [List.length_set]; exact hσ), ws, ex.at hws, szl_of (by omega), trivial, (e.trans ex).new' hD, _, upd_same, by simp [hwl]⟩
end
local macro_rules | `(tactic| walk_at "cs") => `(tactic| ((with_reducible refine' s_law_options ?hv ?hS ?hl ?hr ?q); (case hv => exact rfl); (case hS => walk_at "sq"); (case hl => assumption); (case hr => assumption); intro p H' kvs l o m hp he hm hO hG hlm hm1 hm3))
theorem law_ok {w : World} {K : PySem.W.Frag} {mg : Str → Option Value} (T : Txt K w mg) (H : Hp) (a : Addr) (ns : List Int) (hl : ns.length ≤ 63) (hS : SqL K H a (ns.map V.int)) : Gam K w 60 .law [.ref a] H (fun v _ => v = .bl true) (fun _ _ _ => False) := by
  haveI := T.k
  haveI := T.kd
  refine ⟨rfl, ?_⟩
  unfold rd_law
  refine k_start ?_
  walk_at "go"
  rename_i p1 G1 ds1 hp1 he1 hm1 hl1 hr1 bp G2 f hbp he2 hbm hf p2 G3 ds2 hp2 he3 hm2 hl2 hr2 od G4 kvs l o mn hod he4 hodm hO hG hlm hmn1 hmn3 bk0 dbk db G5 hbk hdb hnb he5 hbkm hdbm gv G6 hgv he6 hgvm
  have x56 := he5.trans he6
  have x36 := he4.trans x56
  have x26 := he3.trans x36
  have hod6 := x56.at hodm
  have hO6 : OptK G6 kvs l o := hO.ex fun _ _ z => x56.at z
  have hbp6 := x26.at hbm
  have hbk6 := he6.at hbkm
  have hdb6 := he6.at hdbm
  have hS6 : SqL K G6 a (ns.map V.int) := (((he1.trans he2).trans x26)).sqL hS
  have hnd := hO.nd
  have hTG := hG.tg
  have hcnt := hG.cnt hnd hlm hmn3
  have hok := hG.ok hnd hlm hmn3
  have hgo : gv ≠ od := fun z => by rw [z, he5.at hodm] at hgv; cases hgv
  have hgvn : ∀ {b v}, G5 b = some v → b ≠ gv := fun h z => by rw [z, hgv] at h; cases h
  have hodgv := Ne.symm hgo
  have hbpgv : bp ≠ gv := hgvn (((he3.trans he4).trans he5).at hbm)
  have hbkgv : bk0 ≠ gv := hgvn hbkm
  have hdbgv : db ≠ gv := hgvn hdbm
  have hbpdb : bp ≠ db := fun z => by rw [z] at hbm; rw [((he3.trans he4)).at hbm] at hdb; cases hdb
  have hlstgv : ∀ {q0 v}, G6 q0 = some (.lst v) → q0 ≠ gv := fun h z => by rw [z, hgvm] at h; cases h
  have hlstod : ∀ {q0 v}, G6 q0 = some (.lst v) → q0 ≠ od := fun h z => by rw [z, hod6] at h; cases h
  have hbpod : bp ≠ od := fun z => by rw [z] at hbm; rw [(he3.at hbm)] at hod; cases hod
  have hbkod : bk0 ≠ od := fun z => by rw [z, hodm] at hbk; cases hbk
  have hdbod : db ≠ od := fun z => by rw [z, hodm] at hdb; cases hdb
  have hol4 : ∀ e ∈ l, (o e).length ≤ 1000 := fun e he => by
    have := hG.most e he
    split at this <;> omega
  have hll : l.length ≤ 3 := by omega
  clear hm1 hbm hm2 hodm hO hbkm hdbm he1 he2 he3 he4 he5 he6 x56 x36 x26
  refine k_forKeys (kvs := kvs) hod6 (fun _ R h => ⟨_, rfl, h⟩) (fun od' m σ H' => ∃ (gk : List (Key × V)) (u : Option V), σ = [some (.ref a), some (.ref bp), some (.ref od), some (.ref bk0), some (.ref gv), u, none, none, none, none, none, none, none, none, none, none] ∧ H' od = some (.frz od' (.dK kvs)) ∧ (∀ b v, G6 b = some v → b ≠ od → b ≠ gv → H' b = some v) ∧ H' gv = some (.dK gk) ∧ OptK (nw G6 H') gk (l.take m) o)
    (fun od' => ⟨[], none, rfl, upd_same, fun b v h n _ => (upd_ne n).trans h, (upd_ne hgo).trans hgvm, OptK.nil⟩) (fun od' m σ H' ⟨_, _, _, z, _⟩ => z) ?_ ?_
  · rintro od' m k v σ H' hkv ⟨gk, u, rfl, hlk, hkp, hgk, hOg⟩
    obtain ⟨e, rfl, hle⟩ := hO6.key hkv
    have htk : l.take (m + 1) = l.take m ++ [e] := by rw [List.take_succ, hle]; rfl
    obtain ⟨q0, hq0, hq1⟩ := hO6.at_ e (List.mem_of_getElem? hle)
    have hq1' := hkp _ _ hq1 (hlstod hq1) (hlstgv hq1)
    have hole := hol4 e (List.mem_of_getElem? hle)
    have hej : e ∉ l.take m := fun z => by
      have nd := hnd
      rw [← List.take_append_drop (m + 1) l, htk, List.append_assoc] at nd
      exact (List.nodup_append.mp nd).2.2 e z e (by simp) rfl
    have hgkl := hOg.len
    have hgkl2 : (l.take m).length ≤ l.length := by rw [List.length_take]; omega
    dsimp only [List.set]
    walk_at "go"
    refine k_getOpt (.inr ⟨od', hlk⟩) hq0 ?_
    walk_at "go"
    rename_i p H1 hp he hm
    refine k_rdput (s := e) (he.at hgk) (by omega) rfl ?_
    have hpgv : p ≠ gv := fun z => by rw [z, hgk] at hp; cases hp
    have hpod : p ≠ od := fun z => by rw [z, hlk] at hp; cases hp
    have hp6 : G6 p = none := by
      cases z : G6 p with
      | none => rfl
      | some v => rw [hkp _ _ z hpod hpgv] at hp; cases hp
    refine ⟨_, _, rfl, (upd_ne hodgv).trans (he.at hlk), fun b v z n1 n2 => (upd_ne n2).trans (he.at (hkp b v z n1 n2)), upd_same, ?_⟩
    have o1 : OptK (nw G6 H1) gk (l.take m) o := hOg.ex fun b v z => nw_le (fun _ y => y) (fun b v _ y => he.at y) b _ z
    have o2 := o1.put (e := e) (cs := o e) (nw_at hp6 hm)
    rw [if_neg hej, ← htk, show oset o e (o e) = o from by
      funext x
      unfold oset
      split
      · rename_i z; rw [z]
      · rfl] at o2
    refine o2.ex fun b v z => ?_
    unfold nw at z ⊢
    by_cases y : G6 b = none
    · rw [if_pos y] at z ⊢
      rw [upd_ne (fun y' => by rw [y', he.at hgk] at z; cases z)]
      exact z
    · rw [if_neg y] at z; cases z
  · rintro od' σ H' ⟨gk, u, rfl, hlk, hkp, hgk, hOg⟩
    rw [hO6.len, List.take_length] at hOg
    have hgk7 : (upd H' od (.dK kvs)) gv = some (.dK gk) := (upd_ne hgo).trans hgk
    have hk7 : ∀ b v, G6 b = some v → b ≠ gv → (upd H' od (.dK kvs)) b = some v := fun b v h n => by
      by_cases z : b = od
      · rw [z, upd_same, ← hod6, ← z, h]
      · rw [upd_ne z]; exact hkp b v h z n
    have hO7 : OptK (nw G6 (upd H' od (.dK kvs))) gk l o := hOg.ex fun b v z => by
      unfold nw at z ⊢
      by_cases y : G6 b = none
      · rw [if_pos y] at z ⊢
        rw [upd_ne (fun y' => by rw [y', hod6] at y; cases y)]
        exact z
      · rw [if_neg y] at z; cases z
    generalize upd H' od (.dK kvs) = G7 at hgk7 hk7 hO7 ⊢
    clear hlk hkp hgk hOg
    have hOG7 : OptK G7 gk l o := hO7.ex fun b v z => by
      unfold nw at z
      split at z
      · exact z
      · cases z
    have hod7 := hk7 _ _ hod6 hodgv
    have hbp7 := hk7 _ _ hbp6 hbpgv
    have hbk7 := hk7 _ _ hbk6 hbkgv
    have hdb7 := hk7 _ _ hdb6 hdbgv
    have gnew : ∀ e ∈ l, ∀ p, valV gk (.inr e) = some (.ref p) → G6 p = none ∧ ∃ v, G7 p = some (.lst v) ∧ v.length ≤ 1000 := fun e he p hp => by
      obtain ⟨p', h1, h2⟩ := hO7.at_ e he
      rw [h1] at hp
      cases hp
      unfold nw at h2
      split at h2
      · exact ⟨‹_›, _, h2, by rw [List.length_map]; exact hol4 e he⟩
      · cases h2
    have hgkl := hO7.len
    have hgvm' := hgvm
    clear hgvm
    walk_at "go"
    refine s_mkMenu (k := 55) rfl hbk7 hdb7 hf hgk7 hOG7 hol4 (fun _ mm G8 hmm he8' hM8' => ?_) (fun z => by rw [hok] at z; cases z)
    walk_at "go"
    have hod8 := he8'.at hod7
    have hgk8 := he8'.at hgk7
    refine k_forKeys (kvs := kvs) hod8 (fun _ R h => ⟨_, rfl, h⟩) (fun od' m σ H' => ∃ (u : Option V), σ = [some (.ref a), some (.ref bp), some (.ref od), some (.ref bk0), some (.ref gv), u, some (.ref mm), none, none, none, none, none, none, none, none, none] ∧ H' od = some (.frz od' (.dK kvs)) ∧ (∀ b v, G8 b = some v → b ≠ od → (∀ e ∈ l, valV gk (.inr e) ≠ some (.ref b)) → H' b = some v) ∧ (∀ e ∈ l, ∀ p, valV gk (.inr e) = some (.ref p) → ∃ v, H' p = some (.lst v) ∧ v.length ≤ 1000 + m))
      (fun od' => ⟨_, rfl, upd_same, fun b v h n _ => (upd_ne n).trans h, fun e he p hp => by
        obtain ⟨h1, v, h2, h3⟩ := gnew e he p hp
        exact ⟨v, (upd_ne (fun z => by rw [z, hod6] at h1; cases h1)).trans (he8'.at h2), h3⟩⟩) (fun od' m σ H' ⟨_, _, z, _⟩ => z) ?_ ?_
    · rintro od' m k v σ H' hkv ⟨u, rfl, hlk, hkp, hls⟩
      obtain ⟨e, rfl, hle⟩ := hO6.key hkv
      have hel := List.mem_of_getElem? hle
      obtain ⟨q0, hq0, -⟩ := hOG7.at_ e hel
      obtain ⟨v0, hq1, hv0⟩ := hls e hel q0 hq0
      have hml : m < l.length := (List.getElem?_eq_some_iff.mp hle).1
      have hgvH : H' gv = some (.dK gk) := hkp gv _ hgk8 hgo fun e he z => by
        obtain ⟨_, v, h2, _⟩ := gnew e he gv z
        rw [hgk7] at h2
        cases h2
      dsimp only [List.set]
      walk_at "go"
      refine k_getOpt (.inl hgvH) hq0 ?_
      walk_at "go"
      have hq0od : q0 ≠ od := fun z => by rw [z, hlk] at hq1; cases hq1
      refine ⟨_, rfl, (upd_ne (Ne.symm hq0od)).trans hlk, fun b v h n1 n2 => (upd_ne (fun z => n2 e hel (by rw [z]; exact hq0))).trans (hkp b v h n1 n2), fun e' he' p' hp' => ?_⟩
      obtain ⟨v', h1, h2⟩ := hls e' he' p' hp'
      by_cases z : p' = q0
      · subst z
        exact ⟨_, upd_same, by rw [List.length_append, List.length_singleton]; omega⟩
      · exact ⟨v', (upd_ne z).trans h1, by omega⟩
    · rintro od' σ H' ⟨u, rfl, hlk, hkp, hls⟩
      have hk9 : ∀ b v, G8 b = some v → (∀ e ∈ l, valV gk (.inr e) ≠ some (.ref b)) → (upd H' od (.dK kvs)) b = some v := fun b v h n => by
        by_cases z : b = od
        · rw [z, upd_same, ← hod8, ← z, h]
        · rw [upd_ne z]; exact hkp b v h z n
      generalize upd H' od (.dK kvs) = G9 at hk9 ⊢
      clear hlk hkp hls
      have old9 : ∀ b v, G6 b = some v → b ≠ gv → G9 b = some v := fun b v h n => hk9 b v (he8'.at (hk7 b v h n)) fun e he z => by
        rw [(gnew e he b z).1] at h
        cases h
      have hM9 : MenuA K G7 G9 mm f (entsE l) (toldE o) := hM8'.kp fun b v h h' => hk9 b v h' fun e he z => by
        obtain ⟨_, v', h2, _⟩ := gnew e he b z
        rw [h] at h2
        cases h2
      have hod9 := old9 _ _ hod6 hodgv
      have hbp9 := old9 _ _ hbp6 hbpgv
      have hbk9 := old9 _ _ hbk6 hbkgv
      have hdb9 := old9 _ _ hdb6 hdbgv
      have hO9 : OptK G9 kvs l o := hO6.ex fun b v z => old9 b _ z (hlstgv z)
      have hS9 : SqL K G9 a (ns.map V.int) := by
        rcases hS6 with (z | ⟨o', z⟩) | z
        · exact .inl (.inl (old9 _ _ z (fun y => by rw [y, hgvm'] at z; cases z)))
        · exact .inl (.inr ⟨o', old9 _ _ z (fun y => by rw [y, hgvm'] at z; cases z)⟩)
        · exact .inr z
      have hdb7e : ∀ b, G7 b = none → b ≠ db := fun b h z => by rw [z, hdb7] at h; cases h
      clear hgk8 hod8 hgk7 hod7 hbp7 hbk7 hdb7 hod6 hbp6 hbk6 hdb6 hS6 hS
      walk_at "go"
      have hm7 : sv ENT (cellv ns 2 % 10) ∈ ENT := sv_mem (by omega) (by show _ < (10 : Int); omega)
      generalize sv ENT (cellv ns 2 % 10) = ce at hm7 ⊢
      have hce := chs_two hm7
      haveI : InE ce := ⟨hm7⟩
      have hcm : sv (chs ce) (cellv ns 2 / 10 % 2) ∈ chs ce := sv_mem (by omega) (by omega)
      walk_at "go"
      rename_i pe E1 hpe hg1 hme pc E2 hpc hg2 hmc
      have x2 := hg1.trans hg2
      have k10 : ∀ {b v}, b ≠ db → G9 b = some v → (upd E2 db (.dK (bk (fset f ce (sv (chs ce) (cellv ns 2 / 10 % 2)))))) b = some v := fun n h => (upd_ne n).trans (x2.at h)
      have hod10 := k10 (Ne.symm hdbod) hod9
      have hbp10 := k10 (fun z => by rw [z, hdb9] at hbp9; exact absurd z hbpdb) hbp9
      have hbk10 := k10 hnb.symm hbk9
      have hdb10 : (upd E2 db (.dK (bk (fset f ce (sv (chs ce) (cellv ns 2 / 10 % 2)))))) db = some (.dK (bk (fset f ce (sv (chs ce) (cellv ns 2 / 10 % 2))))) := upd_same
      have hO10 : OptK (upd E2 db (.dK (bk (fset f ce (sv (chs ce) (cellv ns 2 / 10 % 2)))))) kvs l o := hO9.ex fun b v z => k10 (fun y => by rw [y, hdb9] at z; cases z) z
      have hS10 : SqL K (upd E2 db (.dK (bk (fset f ce (sv (chs ce) (cellv ns 2 / 10 % 2)))))) a (ns.map V.int) := by
        rcases hS9 with (z | ⟨o', z⟩) | z
        · exact .inl (.inl (k10 (fun y => by rw [y, hdb9] at z; cases z) z))
        · exact .inl (.inr ⟨o', k10 (fun y => by rw [y, hdb9] at z; cases z) z⟩)
        · exact .inr z
      have hM10 : MenuA K G7 (upd E2 db (.dK (bk (fset f ce (sv (chs ce) (cellv ns 2 / 10 % 2)))))) mm f (entsE l) (toldE o) := hM9.kp fun b v h h' => k10 (hdb7e b h) h'
      have hf2 : Good (fset f ce (sv (chs ce) (cellv ns 2 / 10 % 2))) := hf.set hcm
      generalize fset f ce (sv (chs ce) (cellv ns 2 / 10 % 2)) = f2 at *
      generalize upd E2 db (.dK (bk f2)) = E3 at *
      clear k10 hdb9 hod9 hbp9 hbk9 hO9 hS9 hM9 hme hmc hg1 hg2 x2 hm7 hcm
      refine s_law_menu_books (k := 57) rfl hbp10 hod10 hO10 hol4 hcnt fun L vs E4 he4 hL hAL => ?_
      have hod4 := he4.at hod10
      have hbp4 := he4.at hbp10
      have hbk4 := he4.at hbk10
      have hdb4 := he4.at hdb10
      have hS4 := he4.sqL hS10
      have hM4 : MenuA K G7 E4 mm f (entsE l) (toldE o) := hM10.kp fun b v _ h => he4.at h
      clear hod10 hbp10 hbk10 hdb10 hO10 hS10 hM10
      have h24 : mcnt (toldE o) (entsE l).reverse ≤ 24 := hcnt 10
      have hvl : vs.length = mcnt (toldE o) (entsE l).reverse := hAL.1.trans (mbR_len _ _ _)
      have hvpos : 0 < vs.length := by rw [hvl]; exact mcnt_pos fun e he => hTG.pos e (List.mem_reverse.mp he)
      walk_at "go"
      refine k_rr1I ⟨by decide, by decide⟩ (fun j σ H' => ∃ (u9 : Option V), σ = [some (.ref a), some (.ref bp), some (.ref od), some (.ref bk0), some (.ref gv), u, some (.ref mm), some (.str ce), some (.ref L), u9, none, none, none, none, none, none] ∧ Ex E4 H') ⟨none, rfl, Ex.refl _⟩ ?_ ?_
      · rintro j σ H' hj ⟨u9, rfl, hx⟩
        have hM5 : MenuA K G7 H' mm f (entsE l) (toldE o) := hM4.kp fun b v _ h => hx.at h
        obtain ⟨dm, b', db', dxb', en', d', kvs', hm5, -⟩ := id hM5.ex
        have hL5 := hx.at hL
        have hA5 := hAL.mono fun g v z => DctA.ex hx z
        dsimp only [List.set]
        walk_at "go"
        refine L2.MR.k_lcRm ?_
        walk_at "go"
        refine k_rgm hm5 inferInstance ?_
        walk_at "go"
        refine ⟨jM K G7 mm f (entsE l) (toldE o), mcnt (toldE o) (entsE l).reverse, fun _ _ => True, gbooks_ok (k := 53) hTG hf h24, ?_⟩
        refine L2.MR.rlcR_of (mcnt (toldE o) (entsE l).reverse) (fun D i H1 => Ex H' H1 ∧ ∃ ws, H1 D = some (.lst ws) ∧ AllA (DctA H1) ((List.range i).map fun k => numR (toldE o) (entsE l).reverse k f) ws) (fun D hD => ⟨Ex.new hD, [], upd_same, AllA.nil⟩) (fun D i H1 hD hi ⟨e, _⟩ => ⟨hi, hM5.kp fun b v _ h => e.at h⟩) (fun D H1 hD ⟨e, _⟩ => ⟨rfl, hM5.kp fun b v _ h => e.at h⟩) ?_ ?_
        · rintro D i x H1 H2 hD hi ⟨e, ws, hws, hps⟩ ⟨ex, x0, dx0, d0, rfl, hx0, hd0⟩
          have hrg : (List.range (i + 1)).map (fun k => numR (toldE o) (entsE l).reverse k f) = (List.range i).map (fun k => numR (toldE o) (entsE l).reverse k f) ++ [numR (toldE o) (entsE l).reverse i f] := by rw [List.range_succ, List.map_append]; rfl
          have hws' := ex.at hws
          have hwl := hps.1
          rw [List.length_map, List.length_range] at hwl
          refine ⟨rfl, ?_⟩
          unfold tYes
          dsimp only [wipe, List.set]
          rw [if_pos rfl]
          walk_at "go"
          refine s_law_read_book (k := 57) rfl hx0 hd0 fun p H3 hp he hm => ?_
          refine ⟨ws, he.at hws', szl_of (by omega), trivial, ((e.trans ex).trans he).new' hD, ws ++ [.ref p], upd_same, ?_⟩
          rw [hrg]
          have hne : p ≠ D := fun z => by rw [z, hws'] at hp; cases hp
          refine (hps.mono fun g v z => ?_).snoc ⟨p, rfl, (upd_ne hne).trans hm⟩
          obtain ⟨p', rfl, hp'⟩ := z
          exact ⟨p', rfl, (upd_ne (fun z => by rw [z, hws] at hp'; cases hp')).trans (he.at (ex.at hp'))⟩
        · rintro D H1 hD ⟨e, ws, hws, hps⟩
          have hwl := hps.1
          rw [List.length_map, List.length_range] at hwl
          have hL6 := e.at hL5
          have hA6 := hA5.mono fun g v z => DctA.ex e z
          walk_at "go"
          refine ⟨D, L, ws, vs, rfl, rfl, sqL_of hws, sqL_of hL6, by omega, fun i x y h1 h2 => ?_, ?_⟩
          · obtain ⟨g1, e1, p1', rfl, z1⟩ := hps.at h1
            obtain ⟨g2, e2, p2', rfl, z2⟩ := hA6.at h2
            have hi : i < mcnt (toldE o) (entsE l).reverse := by
              have := (List.getElem?_eq_some_iff.mp h1).1
              omega
            have e3 := mbR_get (toldE o) f (entsE l).reverse i (List.pairwise_reverse.mpr (hTG.nd.imp Ne.symm)) (fun e he => hTG.pos e (List.mem_reverse.mp he)) hi
            rw [e2] at e3
            rw [List.getElem?_map, List.getElem?_range hi] at e1
            cases e3
            cases e1
            exact ⟨p1', p2', _, _, rfl, rfl, ⟨z1, bk_flat⟩, ⟨z2, bk_flat⟩, eqD_same⟩
          · walk_at "go"
            exact ⟨_, rfl, hx.trans e⟩
      · rintro σ H' ⟨u9, rfl, hx⟩
        have hod5 := hx.at hod4
        have hbp5 := hx.at hbp4
        have hbk5 := hx.at hbk4
        have hdb5 := hx.at hdb4
        have hS5 := hx.sqL hS4
        have hL5 := hx.at hL
        have hA5 := hAL.mono fun g v z => DctA.ex hx z
        have hM5 : MenuA K G7 H' mm f (entsE l) (toldE o) := hM4.kp fun b v _ h => hx.at h
        clear hod4 hbp4 hbk4 hdb4 hS4 hL hAL hM4
        walk_at "go"
        obtain ⟨i0, hi0, hi1⟩ : ∃ i : Nat, (i : Int) = cellv ns 3 % (vs.length : Nat) ∧ i < vs.length := by
          have h1 := Int.emod_nonneg (cellv ns 3) (show ((vs.length : Nat) : Int) ≠ 0 by omega)
          have h2 := Int.emod_lt_of_pos (cellv ns 3) (show (0 : Int) < ((vs.length : Nat) : Int) by omega)
          exact ⟨(cellv ns 3 % (vs.length : Nat)).toNat, by omega, by omega⟩
        obtain ⟨g0, hg0, p0, hv0, hp0⟩ := hA5.at (List.getElem?_eq_getElem hi1)
        have hix : ∀ (H'' : Hp) (Q' : VK), H'' L = some (.lst vs) → Q' (.ref p0) H'' → rIx K (.ref L) (.int (cellv ns 3 % (vs.length : Nat))) H'' Q' := fun H'' Q' h q => by
          rw [← hi0]
          exact o_ixLn (sqL_of h) (by omega) (by rw [Int.toNat_natCast, List.getElem?_eq_getElem hi1, hv0]) q
        have hgood0 : Good g0 := fun e he => by
          obtain ⟨m1, m2⟩ := (mem_mbR (toldE o) f _ g0 (List.pairwise_reverse.mpr (hTG.nd.imp Ne.symm))).mp (List.mem_of_getElem? hg0)
          by_cases z : e ∈ (entsE l).reverse
          · exact (List.mem_filter.mp (m1 e z)).1
          · rw [m2 e z]; exact hf e he
        clear hi0
        refine hix _ _ hL5 ?_
        walk_at "go"
        rename_i pd E6 ds3 hpd he6 hm6 hl6 hr6
        refine s_law_bent (k := 57) rfl (he6.at hp0) hgood0 (sqL_of hm6) hl6 hr6 fun pn E7 gn hpn he7 hm7 hgn => ?_
        have x7 := he6.trans he7
        have hod7 := x7.at hod5
        have hbp7 := x7.at hbp5
        have hbk7 := x7.at hbk5
        have hdb7 := x7.at hdb5
        have hS7 := x7.sqL hS5
        have hL7 := x7.at hL5
        have hp07 := x7.at hp0
        have hA7 := hA5.mono fun g v z => DctA.ex x7 z
        have hM7 : MenuA K G7 E7 mm f (entsE l) (toldE o) := hM5.kp fun b v _ h => x7.at h
        clear hm6 hod5 hbp5 hbk5 hdb5 hS5 hL5 hA5 hM5 hp0
        walk_at "go"
        refine hix _ _ hL7 ?_
        walk_at "go"
        rename_i l3 E8 hl3 he8 hm8
        refine k_rlI (sqL_of hm8) (fun j σ H'' => ∃ (u12 u13 : Option V), σ = [some (.ref a), some (.ref bp), some (.ref od), some (.ref bk0), some (.ref gv), u, some (.ref mm), some (.str ce), some (.ref L), u9, none, some (.ref pn), u12, u13, none, none] ∧ Ex E8 H'') ⟨none, none, rfl, Ex.refl _⟩ (fun j σ H'' _ ⟨_, _, _, z⟩ => sqL_of (z.at hm8)) ?_ ?_
        · rintro j x σ H'' hj ⟨u12, u13, rfl, hxx⟩
          have x8 := he8.trans hxx
          obtain ⟨g, p, rfl, hp, hg⟩ : ∃ g p, x = V.ref p ∧ H'' p = some (.dK (bk g)) ∧ Good g := by
            match j, hj with
            | 0, hj => cases hj; exact ⟨g0, p0, rfl, x8.at hp07, hgood0⟩
            | 1, hj => cases hj; exact ⟨gn, pn, rfl, x8.at hm7, hgn⟩
            | 2, hj => cases hj; exact ⟨f, bp, rfl, x8.at hbp7, hf⟩
            | j + 3, hj => simp at hj
          have hL8 := x8.at hL7
          have hA8 := hA7.mono fun g v z => DctA.ex x8 z
          have hM8 : MenuA K G7 H'' mm f (entsE l) (toldE o) := hM7.kp fun b v _ h => x8.at h
          dsimp only [List.set]
          walk_at "go"
          rename_i x9 dx9 d9 E9 hx9 hd9 hn9 he9 hxm9 hdm9
          have hM9 : MenuA K G7 E9 mm f (entsE l) (toldE o) := hM8.kp fun b v _ h => he9.at h
          obtain ⟨dm9, _, _, _, _, _, _, hm9, -⟩ := id hM9.ex
          refine ⟨mm, _, _, rfl, hm9, ?_⟩
          refine s_Menu_contains (k := 56) rfl hM9 hTG hxm9 hdm9 fun E10 he10 => ⟨_, rfl, ?_⟩
          have x10 := he9.trans he10
          have hL10 := x10.at hL8
          have hA10 := hA8.mono fun g v z => DctA.ex x10 z
          have hp10 := x10.at hp
          clear hm9 hxm9 hdm9 hL8 hA8 hp
          walk_at "go"
          let e : V → Bool := fun y => match y with
            | .ref q => decide (q = p) || (match E10 q with
              | some (.dK ls) => eqD ls (bk g)
              | _ => false)
            | _ => false
          have hany : vs.any e = inMenu (toldE o) f (entsE l) g := by
            rw [← inMenu_any (toldE o) f g hTG.nd hTG.sub]
            refine any_all hA10 fun h v hR => ?_
            obtain ⟨q, rfl, hq⟩ := hR
            show (decide (q = p) || (match E10 q with
              | some (.dK ls) => eqD ls (bk g)
              | _ => false)) = _
            rw [hq]
            by_cases z : q = p
            · subst z
              rw [hp10] at hq
              have : bk g = bk h := by injection (Option.some.inj hq)
              rw [decide_eq_true rfl, Bool.true_or, ← this]
              exact eqD_same.symm
            · rw [decide_eq_false z, Bool.false_or]
          refine ⟨p, L, bk g, vs, e, rfl, rfl, ⟨hp10, bk_flat⟩, sqL_of hL10, fun y hy => ?_, ?_⟩
          · obtain ⟨i, hi⟩ := List.getElem?_of_mem hy
            obtain ⟨h, _, q, rfl, hq⟩ := hA10.at hi
            refine ⟨q, _, rfl, ⟨hq, bk_flat⟩, ?_⟩
            show (decide (q = p) || (match E10 q with
              | some (.dK ls) => eqD ls (bk g)
              | _ => false)) = _
            rw [hq]
          rw [hany]
          clear hany
          walk_at "go"
          exact ⟨_, _, rfl, hxx.trans x10⟩
        · rintro σ H'' ⟨u12, u13, rfl, hxx⟩
          have x8 := he8.trans hxx
          have hbk8 := x8.at hbk7
          have hdb8 := x8.at hdb7
          have hS8 := x8.sqL hS7
          clear hm8
          walk_at "go"
          have wk : ∀ {e1 : Str} {c1 : List Str} {H1 : Hp} {d1 : Addr} {kv1 : List (Key × V)}, H1 d1 = some (.dK kv1) → OptK H1 kv1 [e1] (oset (fun _ => []) e1 c1) → c1.length ≤ 1000 → okOpt [e1] (oset (fun _ => []) e1 c1) = false → WrA H1 (.ref d1) := fun {e1 c1 H1 d1 kv1} h1 h2 h3 h4 => ⟨d1, kv1, _, _, rfl, h1, h2, fun e he => by
            rw [List.mem_singleton.mp he]
            show (oset (fun _ => []) e1 c1 e1).length ≤ 1000
            unfold oset
            rw [if_pos rfl]
            exact h3, h4⟩
          refine k_disp1 (c1 := ["stop"]) (fun H1 Q1 hx q => by walk_at "go"; rename_i hp he hm; exact q _ _ he hm) fun d1 F1 kv1 hd1 y1 hf1 o1 => ?_
          have w1 := wk hf1 o1 (by decide) (by decide +kernel)
          walk_at "go"
          refine k_disp1 (c1 := []) (fun H1 Q1 hx q => by walk_at "go"; rename_i hp he hm; exact q _ _ he hm) fun d2 F2 kv2 hd2 y2 hf2' o2 => ?_
          have w2 := wk hf2' o2 (by decide) (by decide +kernel)
          walk_at "go"
          refine k_disp1 (c1 := ["drop"]) (fun H1 Q1 hx q => by walk_at "go"; rename_i hp he hm; exact q _ _ he hm) fun d3 F3 kv3 hd3 y3 hf3 o3 => ?_
          have w3 := wk hf3 o3 (by decide) (by decide +kernel)
          walk_at "go"
          refine k_disp1 (c1 := ["raise", "raise"]) (fun H1 Q1 hx q => by walk_at "go"; rename_i hp he hm; exact q _ _ he hm) fun d4 F4 kv4 hd4 y4 hf4 o4 => ?_
          have w4 := wk hf4 o4 (by decide) (by decide +kernel)
          walk_at "go"
          rename_i W1 F5 hW1 y5 hW1m
          refine k_disp1 (c1 := ["show", "Stop"]) (fun H1 Q1 hx q => by walk_at "go"; rename_i hp he hm; exact q _ _ he hm) fun d5 F6 kv5 hd5 y6 hf5 o5 => ?_
          have w5 := wk hf5 o5 (by decide) (by decide +kernel)
          walk_at "go"
          rename_i W5 F7 hW5 y7 hW5m W2 F8 hW2 y8 hW2m
          refine k_disp3 (c1 := chs ("work" : Str)) (c2 := chs ("write" : Str)) (c3 := ["raise", "stop"]) (by decide +kernel) (by decide +kernel) (by decide +kernel) (fun H1 Q1 hx q => by walk_at "go"; rename_i hp he hm; exact q _ _ hp he hm) (fun H1 Q1 hx q => by walk_at "go"; rename_i hp he hm; exact q _ _ hp he hm)
            (fun H1 Q1 hx q => by walk_at "go"; rename_i hp he hm; exact q _ _ hp he hm) fun d6 F9 kv6 hd6 y9 hf6 o6 => ?_
          have hW29 := y9.at hW2m
          have y27 := (((((y2.trans y3).trans y4).trans y5).trans y6)).trans y7
          have y37 := ((((y3.trans y4).trans y5).trans y6)).trans y7
          have y47 := (((y4.trans y5).trans y6)).trans y7
          have y57 := ((y5.trans y6)).trans y7
          have y17 := y1.trans y27
          have w17 := w1.ex y27
          have w27 := w2.ex y37
          have w37 := w3.ex y47
          have w47 := w4.ex y57
          have w57 := w5.ex y7
          have w69 : WrA (upd F9 W2 (.lst ([V.ref d1, V.ref d2, V.ref d3, V.ref d4, V.ref d5] ++ [V.ref d6]))) (.ref d6) := by
            refine ⟨d6, kv6, _, _, rfl, (upd_ne fun z => by rw [z, hW2m] at hd6; cases hd6).trans hf6, o6.ex fun b v z => ?_, ?_, ?_⟩
            · unfold nw at z
              by_cases y : F8 b = none
              · rw [if_pos y] at z
                exact (upd_ne fun z' => by rw [z', hW2m] at y; cases y).trans z
              · rw [if_neg y] at z; cases z
            · decide +kernel
            · decide +kernel
          have xA : Ex F7 (upd F9 W2 (.lst ([V.ref d1, V.ref d2, V.ref d3, V.ref d4, V.ref d5] ++ [V.ref d6]))) := (y8.trans y9).new' hW2
          have hWA : (upd F9 W2 (.lst ([V.ref d1, V.ref d2, V.ref d3, V.ref d4, V.ref d5] ++ [V.ref d6]))) W2 = some (.lst ([V.ref d1, V.ref d2, V.ref d3, V.ref d4, V.ref d5] ++ [V.ref d6])) := upd_same
          refine k_nil ?_
          refine o_append hW29 (by show 5 ≤ 90000; decide) ?_
          generalize upd F9 W2 (.lst ([V.ref d1, V.ref d2, V.ref d3, V.ref d4, V.ref d5] ++ [V.ref d6])) = FA at xA hWA w69 ⊢
          have wall : ∀ v ∈ ([V.ref d1, V.ref d2, V.ref d3, V.ref d4, V.ref d5] ++ [V.ref d6]), WrA FA v := fun v hv => by
            simp only [List.cons_append, List.nil_append, List.mem_cons, List.not_mem_nil, or_false] at hv
            rcases hv with rfl | rfl | rfl | rfl | rfl | rfl
            · exact w17.ex xA
            · exact w27.ex xA
            · exact w37.ex xA
            · exact w47.ex xA
            · exact w57.ex xA
            · exact w69
          have x1A := y17.trans xA
          have hbkA := x1A.at hbk8
          have hdbA := x1A.at hdb8
          have hSA := x1A.sqL hS8
          clear hW29 hW2m hf6 hf5 hf4 hf3 hf2' hf1 hW5m hW1m hbk8 hdb8 hS8 o1 o2 o3 o4 o5 o6 w1 w2 w3 w4 w5 w17 w27 w37 w47 w57 w69 y1 y2 y3 y4 y5 y6 y7 y8 y9 y17 y27 y37 y47 y57 xA x1A x8
          walk_at "go"
          refine o_ixM (sqL_of hWA) (by omega) (by show _ < (6 : Int); omega) fun v hv => ?_
          obtain ⟨d0, kv0, l0, o0, rfl, hh1, hh2, hh3, hh4⟩ := wall v hv
          walk_at "go"
          refine s_law_refused (k := 54) rfl hbkA hdbA hf2 hh1 hh2 hh3 hh4 fun FB yB => ?_
          have hbkB := yB.at hbkA
          have hdbB := yB.at hdbA
          clear hbkA hdbA hSA hWA wall hh1 hh2 hh3 hh4 yB
          walk_at "go"
          refine k_disp3 (c1 := chs ("work" : Str)) (c2 := chs ("loop" : Str)) (c3 := chs ("meet" : Str)) (by decide +kernel) (by decide +kernel) (by decide +kernel) (fun H1 Q1 hx q => by walk_at "go"; rename_i hp he hm; exact q _ _ hp he hm) (fun H1 Q1 hx q => by walk_at "go"; rename_i hp he hm; exact q _ _ hp he hm)
            (fun H1 Q1 hx q => by walk_at "go"; rename_i hp he hm; exact q _ _ hp he hm) fun d7 FC kv7 hd7 yC hf7 o7 => ?_
          have hbkC := yC.at hbkB
          have hdbC := yC.at hdbB
          have o7' := OptK.ex o7 (H' := FC) fun b v z => nw_ex b _ z
          clear hbkB hdbB
          walk_at "go"
          refine L2.MR.k_lcRm ?_
          walk_at "go"
          refine s_mkMenu (k := 55) rfl hbkC hdbC hf2 hf7 o7' (by decide +kernel) (fun _ mF FD hmF yD hMF => ?_) (fun z => absurd z (by decide +kernel))
          refine k_count (k := 53) hMF (tg_of (by decide +kernel)) hf2 (by decide +kernel) (by show 10 < 16; decide) fun D F1 ws yE hD hwl => ?_
          have hw24 : ws.length = 24 := by rw [hwl]; decide +kernel
          have hbkE := yE.at (yD.at hbkC)
          have hdbE := yE.at (yD.at hdbC)
          clear hbkC hdbC hf7 o7 o7' yD yE hMF
          walk_at "go"
          refine L2.MR.k_lcRm ?_
          walk_at "go"
          rename_i ed F2 hed yF hedm
          refine s_mkMenu (k := 55) (kvs := []) (l := []) (o := fun _ => []) rfl (yF.at hbkE) (yF.at hdbE) hf2 hedm OptK.nil (fun e z => absurd z List.not_mem_nil) (fun _ mG F3 hmG yG hMG => ?_) (fun z => absurd z (by decide +kernel))
          refine k_count (k := 53) hMG (tg_of (by decide +kernel)) hf2 (by decide +kernel) (by show 10 < 16; decide) fun D2 F4 ws2 yH hD2 hwl2 => ?_
          have hw1 : ws2.length = 1 := by rw [hwl2]; decide +kernel
          walk_at "go"
          rw [hw1]
          rfl
end

set_option Elab.async false
set_option linter.all false
set_option maxRecDepth 100000
set_option maxHeartbeats 4000000
section
open PySem PySem.Spec PyProof.Rows
end
end L2.MP
open PySem PySem.W PySem.Calls PyProof.Rows
set_option maxHeartbeats 0 in
theorem PySem.Challenge.cw_stickymarks_k38_menu_books_holds : PySem.Challenge.rw_stickymarks_k38_menu_books.Holds := by
    refine L2.MP.head_done (L2.walk_ofE (l := PySem.Challenge.rw_stickymarks_k38_menu_books) (n := 63) (k := L2.MP.lev 60) (x := "_law_script") (CX := L2.CX0) rfl (by decide) L2.MP.top_dflt ⟨rfl, by decide, by decide⟩ ?F (fun _ _ _ _ z => z))
    intro w mg fa h Y G hmg0
    obtain ⟨K, KX, c⟩ := Y
    have T := L2.MP.txt_of KX G c
    haveI := T.k
    have hmg : mg ("law" : PySem.Str) = some (.ref fa) := L2.MP.law_name ▸ hmg0
    have e := hmg.symm.trans T.g_law
    cases e
    exact ⟨K, L2.MP.fdAt K (He.ga K "law"), fun vs H Q _ => L2.MP.Gam K w 60 .law vs H Q L2.E0, KX, fun s u => L2.FunD.bindsA (ps := ["_law_script"]) T.k.f_law (fun _ _ _ _ _ _ us hl => match us, hl with | [_], _ => rfl) s [u] rfl,
      fun H a ns hl hO hS => L2.MP.law_ok T H a ns hl hS, fun base _ _ => L2.MP.fn_close (L2.MP.ok_all T 60 .law)⟩
#print axioms PySem.Challenge.cw_stickymarks_k38_menu_books_holds


