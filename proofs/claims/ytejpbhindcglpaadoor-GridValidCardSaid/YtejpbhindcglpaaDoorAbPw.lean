/- Partial environments: running abstract code on what is known of the temporaries. -/
import Derived.Test.YtejpbhindcglpaaDoorAbRo
namespace Go.Ab

abbrev Env := List (Nat × V)
def look : Env → Nat → Option V
  | [], _ => none
  | (k, v) :: E, n => match Nat.beq k n with
    | true => some v
    | false => look E n
def Sub (E : Env) (F : T V) : Prop := ∀ n v, look E n = some v → F.get n = some v
def SubE (E E' : Env) : Prop := ∀ n v, look E n = some v → look E' n = some v
theorem SubE.nil (E : Env) : SubE [] E := fun _ _ h => by cases h
theorem look_cons (k : Nat) (v : V) (E : Env) (n : Nat) : look ((k, v) :: E) n = if k = n then some v else look E n := by
  simp only [look]
  by_cases h : k = n
  · subst h; simp
  · rw [if_neg h]
    have : Nat.beq k n = false := by cases hb : Nat.beq k n with
      | true => exact absurd (Nat.eq_of_beq_eq_true hb) h
      | false => rfl
    rw [this]
theorem SubE.cons {E E' : Env} {k : Nat} {v : V} (h : look E' k = some v) (hr : SubE E E') : SubE ((k, v) :: E) E' := fun n x hx => by
  rw [look_cons] at hx
  split at hx
  · rename_i e; subst e; rw [h]; exact hx
  · exact hr n x hx
theorem Sub.of {E E' : Env} {F : T V} (h : Sub E' F) (hs : SubE E E') : Sub E F := fun n v hv => h n v (hs n v hv)

def setE (E : Env) : Option Nat → V → Env
  | some d, v => (d, v) :: E
  | none, _ => E
theorem Sub.set {E : Env} {F : T V} (h : Sub E F) (d : Option Nat) (v : V) : Sub (setE E d v) (setO F d v) := by
  cases d with
  | none => exact h
  | some d =>
    intro n x hx
    simp only [setE, look_cons] at hx
    simp only [setO, T.get_set]
    split at hx
    · rename_i e; subst e; rw [if_pos rfl]; exact hx
    · rename_i e; rw [if_neg (fun h => e h.symm)]; exact h n x hx

def res (E : Env) : Opd → Opd
  | .t n => match look E n with
    | some v => .c v
    | none => .t n
  | .c v => .c v
def okO (E : Env) : Opd → Bool
  | .t n => (look E n).isSome
  | .c _ => true
theorem res_ev {E : Env} {F : T V} (h : Sub E F) {o : Opd} (ho : okO E o = true) : (res E o).ev .lf = o.ev F := by
  cases o with
  | c v => rfl
  | t n =>
    simp only [okO, Option.isSome_iff_exists] at ho
    obtain ⟨v, hv⟩ := ho
    simp [res, hv, Opd.ev, h n v hv]

def mapPs (f : Opd → Opd) : List (Nat × Nat × Opd) → List (Nat × Nat × Opd)
  | [] => []
  | (a, b, x) :: r => (a, b, f x) :: mapPs f r
def psOpds : List (Nat × Nat × Opd) → List Opd
  | [] => []
  | (_, _, x) :: r => x :: psOpds r
def mapO (f : Opd → Opd) : Option Opd → Option Opd
  | none => none
  | some x => some (f x)
def oOpds : Option Opd → List Opd
  | none => []
  | some x => [x]

def PureOp.mp (f : Opd → Opd) : PureOp → PureOp
  | .mv x => .mv (f x)
  | .pick c a b => .pick (f c) (f a) (f b)
  | .build z ps => .build z (mapPs f ps)
  | .nilck x => .nilck (f x)
  | .bin op x y => .bin op (f x) (f y)
  | .beq n x y => .beq n (f x) (f y)
  | .eqs n ks x y => .eqs n ks (f x) (f y)
  | .neg x => .neg (f x)
  | .not x => .not (f x)
  | .conv k x => .conv k (f x)
  | .mkfn g caps => .mkfn g (caps.map f)
  | .slice e x lo hi mx => .slice e (f x) (mapO f lo) (mapO f hi) (mapO f mx)
  | .faddr o x => .faddr o (f x)
  | .field a o n x => .field a o n (f x)
  | .iaddr e x i => .iaddr e (f x) (f i)
  | .aaddr l e x i => .aaddr l e (f x) (f i)
  | .aindex l e a x i => .aindex l e a (f x) (f i)
  | .extract x i => .extract (f x) i
  | .len x => .len (f x)
  | .mm b x y => .mm b (f x) (f y)
  | .nileq n x => .nileq n (f x)
  | .cint n => .cint n
  | .sindex x i => .sindex (f x) (f i)
  | .slen x => .slen (f x)
def PureOp.opds : PureOp → List Opd
  | .mv x => [x]
  | .pick c a b => [c, a, b]
  | .build _ ps => psOpds ps
  | .nilck x => [x]
  | .bin _ x y => [x, y]
  | .beq _ x y => [x, y]
  | .eqs _ _ x y => [x, y]
  | .neg x => [x]
  | .not x => [x]
  | .conv _ x => [x]
  | .mkfn _ caps => caps
  | .slice _ x lo hi mx => x :: (oOpds lo ++ (oOpds hi ++ oOpds mx))
  | .faddr _ x => [x]
  | .field _ _ _ x => [x]
  | .iaddr _ x i => [x, i]
  | .aaddr _ _ x i => [x, i]
  | .aindex _ _ _ x i => [x, i]
  | .extract x _ => [x]
  | .len x => [x]
  | .mm _ x y => [x, y]
  | .nileq _ x => [x]
  | .cint _ => []
  | .sindex x i => [x, i]
  | .slen x => [x]

section
variable {f : Opd → Opd} {F F' : T V}
theorem fill_mp : ∀ {ps : List (Nat × Nat × Opd)} {z : List C}, (∀ o ∈ psOpds ps, (f o).ev F' = o.ev F) → fillL F' z (mapPs f ps) = fillL F z ps
  | [], _, _ => rfl
  | (a, b, x) :: r, z, h => by
    simp only [mapPs, fillL, h x (by simp [psOpds])]
    split
    · rfl
    · split
      · exact fill_mp fun o ho => h o (by simp [psOpds, ho])
      · rfl
theorem caps_mp : ∀ {l : List Opd}, (∀ o ∈ l, (f o).ev F' = o.ev F) → capsL F' (l.map f) = capsL F l
  | [], _ => rfl
  | x :: l, h => by
    simp only [List.map_cons, capsL, h x (by simp), caps_mp (l := l) fun o ho => h o (by simp [ho])]
theorem bound_mp {d y : Nat} {x : Option Opd} (h : ∀ o ∈ oOpds x, (f o).ev F' = o.ev F) : aBound F' d y (mapO f x) = aBound F d y x := by
  cases x with
  | none => rfl
  | some x => simp only [mapO, aBound, h x (by simp [oOpds])]
theorem slice_mp {e : Nat} {v : V} {lo hi mx : Option Opd} (h : ∀ o ∈ oOpds lo ++ (oOpds hi ++ oOpds mx), (f o).ev F' = o.ev F) : aSlice F' e v (mapO f lo) (mapO f hi) (mapO f mx) = aSlice F e v lo hi mx := by
  have h1 : ∀ d y, aBound F' d y (mapO f lo) = aBound F d y lo := fun _ _ => bound_mp fun o ho => h o (by simp [ho])
  have h2 : ∀ d y, aBound F' d y (mapO f hi) = aBound F d y hi := fun _ _ => bound_mp fun o ho => h o (by simp [ho])
  have h3 : ∀ d y, aBound F' d y (mapO f mx) = aBound F d y mx := fun _ _ => bound_mp fun o ho => h o (by simp [ho])
  have h4 : (mapO f mx).isSome = mx.isSome := by cases mx <;> rfl
  simp only [aSlice, h1, h2, h3, h4]
theorem pure_mp {op : PureOp} (h : ∀ o ∈ op.opds, (f o).ev F' = o.ev F) : aPure F' (op.mp f) = aPure F op := by
  cases op with
  | build z ps => simp only [PureOp.mp, aPure, fill_mp h]
  | mkfn g caps =>
    have h' : ∀ o ∈ caps, (f o).ev F' = o.ev F := h
    simp only [PureOp.mp, aPure, caps_mp h']
  | slice e x lo hi mx =>
    simp only [PureOp.mp, aPure]
    rw [h x (by simp [PureOp.opds]), slice_mp fun o ho => h o (by simp only [PureOp.opds, List.mem_cons]; exact .inr ho)]
  | _ => simp only [PureOp.opds, List.mem_cons, List.not_mem_nil, or_false, forall_eq_or_imp, forall_eq] at h <;> simp only [PureOp.mp, aPure, h]

def LoadOp.mp (f : Opd → Opd) : LoadOp → LoadOp
  | .load a n x => .load a n (f x)
  | .lookup z ok m k => .lookup z ok (f m) (f k)
  | .mlen m => .mlen (f m)
def LoadOp.opds : LoadOp → List Opd
  | .load _ _ x => [x]
  | .lookup _ _ m k => [m, k]
  | .mlen m => [m]
theorem load_mp {H : Hp} {op : LoadOp} (h : ∀ o ∈ op.opds, (f o).ev F' = o.ev F) : aLoad F' H (op.mp f) = aLoad F H op := by
  cases op <;> simp only [LoadOp.opds, List.mem_cons, List.not_mem_nil, or_false, forall_eq_or_imp, forall_eq] at h <;> simp only [LoadOp.mp, aLoad, h]

def AllocOp.mp (f : Opd → Opd) : AllocOp → AllocOp
  | .alloc z => .alloc z
  | .box x => .box (f x)
  | .bslice e l z ps => .bslice e l z (mapPs f ps)
  | .mkslice e b z l c => .mkslice e b z (f l) (f c)
  | .mkmap => .mkmap
def AllocOp.opds : AllocOp → List Opd
  | .alloc _ => []
  | .box x => [x]
  | .bslice _ _ _ ps => psOpds ps
  | .mkslice _ _ _ l c => [l, c]
  | .mkmap => []
theorem alloc_mp {op : AllocOp} (h : ∀ o ∈ op.opds, (f o).ev F' = o.ev F) : aAlloc F' (op.mp f) = aAlloc F op := by
  cases op with
  | bslice e l z ps => simp only [AllocOp.mp, aAlloc, fill_mp h]
  | _ => simp only [AllocOp.opds, List.mem_cons, List.not_mem_nil, or_false, forall_eq_or_imp, forall_eq] at h <;> simp only [AllocOp.mp, aAlloc, h]

def EffOp.mp (f : Opd → Opd) : EffOp → EffOp
  | .store n a x => .store n (f a) (f x)
  | .append e b s x => .append e b (f s) (f x)
  | .copy e d s => .copy e (f d) (f s)
  | .mapupd m k x => .mapupd (f m) (f k) (f x)
  | .clear e z x => .clear e z (f x)
def EffOp.opds : EffOp → List Opd
  | .store _ a x => [a, x]
  | .append _ _ s x => [s, x]
  | .copy _ d s => [d, s]
  | .mapupd m k x => [m, k, x]
  | .clear _ _ x => [x]
theorem eff_mp {H : Hp} {op : EffOp} (h : ∀ o ∈ op.opds, (f o).ev F' = o.ev F) : aEff F' H (op.mp f) = aEff F H op := by
  cases op <;> simp only [EffOp.opds, List.mem_cons, List.not_mem_nil, or_false, forall_eq_or_imp, forall_eq] at h <;> simp only [EffOp.mp, aEff, h]
end

theorem all_ev {E : Env} {F : T V} (h : Sub E F) {l : List Opd} (hl : l.all (okO E) = true) : ∀ o ∈ l, (res E o).ev .lf = o.ev F := fun o ho => res_ev h (List.all_eq_true.1 hl o ho)

/-- what is watched -/
def CtxLe (c0 c : Ctx) : Prop := ∀ x ∈ c, ∃ y ∈ c0, y.1 = x.1 ∧ ∀ H, y.2 H → x.2 H
theorem CtxLe.watch {c0 c : Ctx} (h : CtxLe c0 c) {ws : List Nat} {H : Hp} (hw : watchOk ws c0 H) : watchOk ws c H := by
  cases ws with
  | nil => trivial
  | cons k r =>
    intro j hj p hp
    obtain ⟨y, hy, e, hh⟩ := h (j, p) hp
    obtain ⟨y1, y2⟩ := y
    simp only at e
    subst e
    exact hh H (hw _ hj y2 hy)
theorem CtxLe.cons {c0 c : Ctx} (h : CtxLe c0 c) (k : Nat) {p0 p : Hp → Prop} (hp : ∀ H, p0 H → p H) : CtxLe ((k, p0) :: c0) ((k, p) :: c) := fun x hx => by
  rcases List.mem_cons.1 hx with rfl | hx
  · exact ⟨(k, p0), by simp, rfl, hp⟩
  · obtain ⟨y, hy, r⟩ := h x hx
    exact ⟨y, by simp [hy], r⟩

section
variable {P : Program} {G base : Nat} {Q : Env → Hp → Prop} {r : List SOper} {ctx : Ctx} {E : Env} {H : Hp} {id : Nat} {dst : Option Nat} {aid : Option Nat} {ws : List Nat} {keep : Bool}

def PW (P : Program) (G base : Nat) (Q : Env → Hp → Prop) (l : List SOper) (ctx : Ctx) (E : Env) (H : Hp) : Prop :=
  ∀ F c, Sub E F → CtxLe ctx c → wOps P G base (fun F' H' => ∃ E', Sub E' F' ∧ Q E' H') l c F H

theorem pw_nil (h : Q E H) : PW P G base Q [] ctx E H := fun _ _ hs _ => ⟨E, hs, h⟩
theorem pw_sub {l : List SOper} {E' : Env} (hs : SubE E' E) (h : PW P G base Q l ctx E' H) : PW P G base Q l ctx E H := fun F c hF hc => h F c (hF.of hs) hc

theorem pw_p {op : PureOp} {v : V} (hk : op.opds.all (okO E) = true) (hv : aPure .lf (op.mp (res E)) = some v) (h : PW P G base Q r ctx (setE E dst v) H) : PW P G base Q (⟨id, dst, .p op, none, aid, ws, keep⟩ :: r) ctx E H := by
  intro F c hs hc
  rw [pure_mp (all_ev hs hk)] at hv
  simp only [wOps, wantedA, if_true, hv]
  exact h _ c (hs.set dst v) hc
theorem pw_mvt {n : Nat} {v : V} (hv : look E n = some v) (h : PW P G base Q r ctx (setE E dst v) H) : PW P G base Q (⟨id, dst, .p (.mv (.t n)), none, aid, ws, keep⟩ :: r) ctx E H :=
  pw_p (by simp [PureOp.opds, okO, hv]) (by simp [PureOp.mp, aPure, res, hv, Opd.ev]) h
theorem pw_mvc {v : V} (h : PW P G base Q r ctx (setE E dst v) H) : PW P G base Q (⟨id, dst, .p (.mv (.c v)), none, aid, ws, keep⟩ :: r) ctx E H :=
  pw_p rfl rfl h
theorem pw_l {op : LoadOp} {v : V} (hk : op.opds.all (okO E) = true) (hv : aLoad .lf H (op.mp (res E)) = some v) (h : PW P G base Q r ctx (setE E dst v) H) : PW P G base Q (⟨id, dst, .l op, none, aid, ws, false⟩ :: r) ctx E H := by
  intro F c hs hc
  rw [load_mp (all_ev hs hk)] at hv
  simp only [wOps, wantedA, if_true, hv, Bool.false_eq_true, if_false]
  exact h _ c (hs.set dst v) hc
theorem pw_lk {op : LoadOp} {v : V} (hk : op.opds.all (okO E) = true) (hv : aLoad .lf H (op.mp (res E)) = some v) (h : PW P G base Q r ((id, fun H' => aLoad .lf H' (op.mp (res E)) = some v) :: ctx) (setE E dst v) H) : PW P G base Q (⟨id, dst, .l op, none, aid, ws, true⟩ :: r) ctx E H := by
  intro F c hs hc
  have hv' := hv
  rw [load_mp (all_ev hs hk)] at hv'
  simp only [wOps, wantedA, if_true, hv']
  exact h _ _ (hs.set dst v) (hc.cons id fun H' hh => by rw [load_mp (all_ev hs hk)] at hh; exact hh)
theorem pw_l1 {n : Nat} {a : Opd} {b o : Nat} {c : C} (hk : okO E a = true) (ha : (res E a).ev .lf = .one (.ptr b o)) (hc : H.cell b o = some c) (h : PW P G base Q r ctx (setE E dst (.one c)) H) : PW P G base Q (⟨id, dst, .l (.load false n a), none, aid, ws, false⟩ :: r) ctx E H :=
  pw_l (by simp [LoadOp.opds, hk]) (by simp [LoadOp.mp, aLoad, ha, hc]) h
theorem pw_ln {n : Nat} {a : Opd} {b o : Nat} {l : List C} (hk : okO E a = true) (ha : (res E a).ev .lf = .one (.ptr b o)) (hc : H.loads b o n = some l) (h : PW P G base Q r ctx (setE E dst (.agg l)) H) : PW P G base Q (⟨id, dst, .l (.load true n a), none, aid, ws, false⟩ :: r) ctx E H :=
  pw_l (by simp [LoadOp.opds, hk]) (by simp [LoadOp.mp, aLoad, ha, hc]) h
theorem pw_a {op : AllocOp} {bk : B} {g : Nat → V} (hk : op.opds.all (okO E) = true) (hv : aAlloc .lf (op.mp (res E)) = some (bk, g)) (h : PW P G base Q r ctx (setE E dst (g H.nx)) (H.push bk)) : PW P G base Q (⟨id, dst, .a op, none, none, ws, keep⟩ :: r) ctx E H := by
  intro F c hs hc
  rw [alloc_mp (all_ev hs hk)] at hv
  simp only [wOps, wantedA, if_true, hv]
  exact h _ c (hs.set dst _) hc
theorem pw_aid {op : AllocOp} {bk : B} {g : Nat → V} {k : Nat} (hk : op.opds.all (okO E) = true) (hv : aAlloc .lf (op.mp (res E)) = some (bk, g)) (h : PW P G base Q r ctx (setE E dst (g (base + k))) (H.add (base + k) bk)) : PW P G base Q (⟨id, dst, .a op, none, some k, ws, keep⟩ :: r) ctx E H := by
  intro F c hs hc
  rw [alloc_mp (all_ev hs hk)] at hv
  simp only [wOps, wantedA, if_true, hv]
  exact h _ c (hs.set dst _) hc
theorem pw_e {op : EffOp} {v : V} {H' : Hp} (hk : op.opds.all (okO E) = true) (hv : aEff .lf H (op.mp (res E)) = some (v, H')) (hw : watchOk ws ctx H') (h : PW P G base Q r ctx (setE E dst v) H') : PW P G base Q (⟨id, dst, .e op, none, aid, ws, keep⟩ :: r) ctx E H := by
  intro F c hs hc
  rw [eff_mp (all_ev hs hk)] at hv
  simp only [wOps, wantedA, if_true, hv]
  exact ⟨hc.watch hw, h _ c (hs.set dst _) hc⟩
theorem args_ev {F : T V} (hs : Sub E F) : ∀ {args : List Opd}, args.all (okO E) = true → args.map (·.ev F) = args.map (fun a => (res E a).ev .lf)
  | [], _ => rfl
  | a :: l, h => by
    simp only [List.all_cons, Bool.and_eq_true] at h
    simp only [List.map_cons, res_ev hs h.1, args_ev hs h.2]
theorem pw_cf {f : FuncId} {args : List Opd} {vs : List V} (hk : args.all (okO E) = true) (hvs : args.map (fun a => (res E a).ev .lf) = vs) (h : ACalls P G f vs H fun v H' => watchOk ws ctx H' ∧ PW P G base Q r ctx (setE E dst v) H') : PW P G base Q (⟨id, dst, .cf f args, none, aid, ws, keep⟩ :: r) ctx E H := by
  intro F c hs hc
  subst hvs
  simp only [wOps, wantedA, if_true]
  rw [args_ev hs hk]
  exact h.mono fun v H' hh => ⟨hc.watch hh.1, hh.2 _ c (hs.set dst v) hc⟩
theorem pw_cv {x : Opd} {f : FuncId} {caps : List (Nat × Nat)} {args : List Opd} {vs : List V} (hk : (x :: args).all (okO E) = true) (hx : (res E x).ev .lf = .one (.fn f caps)) (hf : isFn P f = true) (hvs : args.map (fun a => (res E a).ev .lf) ++ caps.map ptrV = vs) (h : ACalls P G f vs H fun v H' => watchOk ws ctx H' ∧ PW P G base Q r ctx (setE E dst v) H') : PW P G base Q (⟨id, dst, .cv x args, none, aid, ws, keep⟩ :: r) ctx E H := by
  intro F c hs hc
  subst hvs
  simp only [List.all_cons, Bool.and_eq_true] at hk
  rw [res_ev hs hk.1] at hx
  simp only [wOps, wantedA, if_true, hx]
  rw [args_ev hs hk.2]
  exact ⟨hf, h.mono fun v H' hh => ⟨hc.watch hh.1, hh.2 _ c (hs.set dst v) hc⟩⟩

/-- a guarded operation: it is wanted, or it is not -/
theorem pw_want {op : SOp} {g : Nat} {t want : Bool} (hg : look E g = some (.one (.bool t))) (ht : t = want) (h : PW P G base Q (⟨id, dst, op, none, aid, ws, keep⟩ :: r) ctx E H) : PW P G base Q (⟨id, dst, op, some (g, want), aid, ws, keep⟩ :: r) ctx E H := by
  intro F c hs hc
  have := h F c hs hc
  have hw : wantedA (some (g, want)) F = true := by simp [wantedA, hs g _ hg, ht]
  rw [wOps] at this ⊢
  simp only [wantedA, if_true] at this
  simp only [hw, if_true]
  exact this
theorem pw_skip {op : SOp} {g : Nat} {t want : Bool} (hg : look E g = some (.one (.bool t))) (ht : t = !want) (h : PW P G base Q r ctx (setE E dst V.undef) H) : PW P G base Q (⟨id, dst, op, some (g, want), aid, ws, keep⟩ :: r) ctx E H := by
  intro F c hs hc
  have hw : wantedA (some (g, want)) F = false := by simp [wantedA, hs g _ hg, ht]
  rw [wOps]
  simp only [hw, Bool.false_eq_true, if_false]
  exact h _ c (hs.set dst _) hc
/-- a guarded operation that only reads, without parting the ways -/
theorem pw_pg {op : PureOp} {v : V} {g : Nat} {t want : Bool} (hg : look E g = some (.one (.bool t))) (hk : op.opds.all (okO E) = true) (hv : t = want → aPure .lf (op.mp (res E)) = some v) (h : PW P G base Q r ctx (setE E dst (if t = want then v else V.undef)) H) : PW P G base Q (⟨id, dst, .p op, some (g, want), aid, ws, keep⟩ :: r) ctx E H := by
  by_cases ht : t = want
  · exact pw_want hg ht (pw_p hk (hv ht) (by rw [if_pos ht] at h; exact h))
  · exact pw_skip hg (by cases t <;> cases want <;> simp_all) (by rw [if_neg ht] at h; exact h)
theorem pw_lg {op : LoadOp} {v : V} {g : Nat} {t want : Bool} (hg : look E g = some (.one (.bool t))) (hk : op.opds.all (okO E) = true) (hv : t = want → aLoad .lf H (op.mp (res E)) = some v) (h : PW P G base Q r ctx (setE E dst (if t = want then v else V.undef)) H) : PW P G base Q (⟨id, dst, .l op, some (g, want), aid, ws, false⟩ :: r) ctx E H := by
  by_cases ht : t = want
  · exact pw_want hg ht (pw_l hk (hv ht) (by rw [if_pos ht] at h; exact h))
  · exact pw_skip hg (by cases t <;> cases want <;> simp_all) (by rw [if_neg ht] at h; exact h)
theorem pw_lg1 {n : Nat} {a : Opd} {b o : Nat} {c : C} {g : Nat} {t want : Bool} (hg : look E g = some (.one (.bool t))) (hk : okO E a = true) (ha : t = want → (res E a).ev .lf = .one (.ptr b o)) (hc : H.cell b o = some c) (h : PW P G base Q r ctx (setE E dst (if t = want then .one c else V.undef)) H) : PW P G base Q (⟨id, dst, .l (.load false n a), some (g, want), aid, ws, false⟩ :: r) ctx E H :=
  pw_lg hg (by simp [LoadOp.opds, hk]) (fun ht => by simp [LoadOp.mp, aLoad, ha ht, hc]) h
/-- the choice behind a guarded operation -/
theorem pw_pick {c a b : Opd} {t x y : Bool} (hk : [c, a, b].all (okO E) = true) (hc : (res E c).ev .lf = .one (.bool t)) (ha : t = true → (res E a).ev .lf = .one (.bool x)) (hb : t = false → (res E b).ev .lf = .one (.bool y)) (h : PW P G base Q r ctx (setE E dst (.one (.bool (if t = true then x else y)))) H) : PW P G base Q (⟨id, dst, .p (.pick c a b), none, aid, ws, keep⟩ :: r) ctx E H := by
  refine pw_p (v := .one (.bool (if t = true then x else y))) hk ?_ h
  simp only [PureOp.mp, aPure, hc]
  cases t with
  | true => simp [ha rfl]
  | false => simp [hb rfl]
end

/-- code on what is known -/
def PS (P : Program) (G n : Nat) (s : SC) (Q : Exit → Env → Hp → Prop) (E : Env) (H : Hp) : Prop := ∀ F, Sub E F → SWP P G n s (fun e F' H' => ∃ E', Sub E' F' ∧ Q e E' H') F H

def thenE (next : Env → Hp → Prop) (Q : Exit → Env → Hp → Prop) : Exit → Env → Hp → Prop
  | .normal, E, H => next E H
  | e, E, H => Q e E H
def blockE (id : Nat) (Q : Exit → Env → Hp → Prop) : Exit → Env → Hp → Prop
  | .exit id', E, H => if id' = id then Q .normal E H else Q (.exit id') E H
  | e, E, H => Q e E H

section
variable {P : Program} {G n : Nat} {Q : Exit → Env → Hp → Prop} {E : Env} {H : Hp}
theorem ps_sub {s : SC} {E' : Env} (hs : SubE E' E) (h : PS P G n s Q E' H) : PS P G n s Q E H := fun F hF => h F (hF.of hs)
theorem ps_mono {s : SC} {Q' : Exit → Env → Hp → Prop} (h : PS P G n s Q E H) (hq : ∀ e E H, Q e E H → Q' e E H) : PS P G n s Q' E H := fun F hF => swp_mono (h F hF) fun e _ _ ⟨E', h1, h2⟩ => ⟨E', h1, hq e _ _ h2⟩
theorem ps_wf {s : SC} (h : WF H → PS P G n s Q E H) : PS P G n s Q E H := fun F hF => swp_wf fun hw => h hw F hF
theorem ps_skip (h : Q .normal E H) : PS P G n .skip Q E H := fun _ hF => swp_skip ⟨E, hF, h⟩
theorem ps_exit {id : Nat} (h : Q (.exit id) E H) : PS P G n (.exit id) Q E H := fun _ hF => swp_exit ⟨E, hF, h⟩
theorem ps_ret (h : Q .ret E H) : PS P G n .ret Q E H := fun _ hF => swp_ret ⟨E, hF, h⟩
theorem ps_ops (hm : P.follows .mixedOrders = true) {l : List SOper} {rs : Nat} (h : PW P G H.nx (Q .normal) l [] E (H.skip rs)) : PS P G n (.ops l rs) Q E H := fun F hF => swp_ops hm (h F [] hF fun _ hx => by cases hx)
theorem ps_ops0 (hm : P.follows .mixedOrders = true) {l : List SOper} (h : PW P G H.nx (Q .normal) l [] E H) : PS P G n (.ops l 0) Q E H := ps_ops hm h
theorem ps_seq {a b : SC} (h : PS P G n a (thenE (PS P G n b Q) Q) E H) : PS P G n (.seq a b) Q E H := fun F hF => swp_seq (swp_mono (h F hF) fun e F' H' ⟨E', h1, h2⟩ => by
  cases e with
  | normal => exact h2 F' h1
  | _ => exact ⟨E', h1, h2⟩)
theorem ps_cond {d : Opd} {a b : SC} {t : Bool} (hk : okO E d = true) (ht : (res E d).ev .lf = .one (.bool t)) (h : PS P G n (if t then a else b) Q E H) : PS P G n (.cond d a b) Q E H := fun F hF => swp_cond (t := t) (by rw [← res_ev hF hk]; exact ht) (h F hF)
theorem ps_if {d : Opd} {a b : SC} {t : Bool} (hk : okO E d = true) (ht : (res E d).ev .lf = .one (.bool t)) (h1 : t = true → PS P G n a Q E H) (h2 : t = false → PS P G n b Q E H) : PS P G n (.cond d a b) Q E H := ps_cond hk ht (by
  cases t with
  | true => exact h1 rfl
  | false => exact h2 rfl)
theorem ps_block {id : Nat} {a : SC} (h : PS P G n a (blockE id Q) E H) : PS P G n (.block id a) Q E H := fun F hF => swp_block (swp_mono (h F hF) fun e F' H' ⟨E', h1, h2⟩ => by
  cases e with
  | exit id' =>
    simp only [blockE] at h2
    simp only [blockQ]
    split
    · rename_i e; rw [if_pos e] at h2; exact ⟨E', h1, h2⟩
    · rename_i e; rw [if_neg e] at h2; exact ⟨E', h1, h2⟩
  | _ => exact ⟨E', h1, h2⟩)
theorem ps_loop {a : SC} (I : Nat → Env → Hp → Prop) {m : Nat} (h0 : ∃ E0, SubE E0 E ∧ I m E0 H) (round : ∀ m E H, WF H → I m E H → PS P G n a (thenE (fun E' H' => ∃ m', m' < m ∧ ∃ E0, SubE E0 E' ∧ I m' E0 H') Q) E H) : PS P G n (.loop a) Q E H := fun F hF => by
  obtain ⟨E0, hs, hI⟩ := h0
  refine swp_loop (fun m F H => ∃ E, Sub E F ∧ I m E H) ⟨E0, hF.of hs, hI⟩ ?_
  rintro m F H ⟨E, hF, hI⟩
  refine swp_wf fun hw => swp_mono (round m E H hw hI F hF) fun e F' H' ⟨E', h1, h2⟩ => ?_
  cases e with
  | normal =>
    obtain ⟨m', hm', E0, hs, hI'⟩ := h2
    exact ⟨m', hm', E0, h1.of hs, hI'⟩
  | _ => exact ⟨E', h1, h2⟩

def argsE : List V → Nat → Env
  | [], _ => []
  | v :: l, i => (i, v) :: argsE l (i + 1)
theorem argsE_sub : ∀ (args : List V) (i : Nat), Sub (argsE args i) (initF args i)
  | [], _ => fun _ _ h => by cases h
  | v :: l, i => fun n x h => by
    simp only [argsE, look_cons] at h
    simp only [initF, T.get_set]
    split at h
    · rename_i e; subst e; rw [if_pos rfl]; exact h
    · rename_i e; rw [if_neg (fun h => e h.symm)]; exact argsE_sub l (i + 1) n x h

def resE (E : Env) (H : Hp) : SRes → Option V
  | .t n => look E n
  | .cell agg k n => match look E n with
    | some v => aLoad .lf H (.load agg k (.c v))
    | none => none
def resEL (E : Env) (H : Hp) : List SRes → Option (List V)
  | [] => some []
  | r :: l => match resE E H r, resEL E H l with
    | some v, some vs => if isOne v then some (v :: vs) else none
    | _, _ => none
def resultE (E : Env) (H : Hp) (rs : List SRes) : Option V :=
  match resEL E H rs with
  | some [v] => some v
  | some vs => some (.tup vs)
  | none => none
theorem resE_ok {F : T V} (hs : Sub E F) {r : SRes} {v : V} (h : resE E H r = some v) : aRes F H r = some v := by
  cases r with
  | t n => simp only [resE] at h; simp [aRes, hs n v h]
  | cell agg k n =>
    simp only [resE] at h
    split at h
    · rename_i x hx
      simp only [aRes, aLoad, Opd.ev, hs n x hx, Option.getD_some] at h ⊢
      exact h
    · cases h
theorem resEL_ok {F : T V} (hs : Sub E F) : ∀ {l : List SRes} {vs : List V}, resEL E H l = some vs → aResL F H l = some vs
  | [], vs, h => h
  | r :: l, vs, h => by
    simp only [resEL] at h
    cases h1 : resE E H r with
    | none => simp [h1] at h
    | some v =>
      cases h2 : resEL E H l with
      | none => simp [h1, h2] at h
      | some vs' =>
        simp only [h1, h2] at h
        simp only [aResL, resE_ok hs h1, resEL_ok hs h2]
        exact h
theorem resultE_ok {F : T V} (hs : Sub E F) {rs : List SRes} {v : V} (h : resultE E H rs = some v) : aResult F H rs = some v := by
  unfold resultE at h
  unfold aResult
  cases h1 : resEL E H rs with
  | none => simp [h1] at h
  | some vs => rw [resEL_ok hs h1]; rw [h1] at h; exact h

def retE (rs : List SRes) (R : V → Hp → Prop) : Exit → Env → Hp → Prop
  | .normal, E, H => ∃ v, resultE E H rs = some v ∧ R v H
  | .ret, E, H => ∃ v, resultE E H rs = some v ∧ R v H
  | _, _, _ => False

theorem pfn_ok {f : FuncId} {sf : SFn} (hf : cpFn P G f = some sf) {args : List V} {R : V → Hp → Prop} (hn : args.length ≤ sf.n) (h : WF H → PS P G sf.n sf.code (retE sf.res R) (argsE args 0) H) : ACalls P G f args H R := by
  refine acalls_wf fun hw => fn_ok hf hn (swp_mono (h hw _ (argsE_sub args 0)) fun e F' H' ⟨E', h1, h2⟩ => ?_)
  cases e with
  | normal => obtain ⟨v, hv, hR⟩ := h2; simp only [retQ, resultE_ok h1 hv]; exact hR
  | ret => obtain ⟨v, hv, hR⟩ := h2; simp only [retQ, resultE_ok h1 hv]; exact hR
  | _ => exact h2.elim
end
end Go.Ab
namespace Go.Ab
section
variable {P : Program} {G base : Nat} {Q : Env → Hp → Prop} {r : List SOper} {ctx : Ctx} {E : Env} {H H' : Hp} {id : Nat} {dst : Option Nat} {aid : Option Nat} {ws : List Nat} {keep : Bool}
theorem pw_st1 {a x : Opd} {b o : Nat} {c : C} (hk : [a, x].all (okO E) = true) (ha : (res E a).ev .lf = .one (.ptr b o)) (hx : (res E x).ev .lf = .one c) (hs : H.store b o c = some H') (hw : watchOk ws ctx H') (h : PW P G base Q r ctx (setE E dst V.undef) H') : PW P G base Q (⟨id, dst, .e (.store 1 a x), none, aid, ws, keep⟩ :: r) ctx E H :=
  pw_e hk (by simp [EffOp.mp, aEff, ha, hx, cells1, Hp.stores, hs]) hw h
theorem pw_stn {n : Nat} {a x : Opd} {b o : Nat} {l : List C} (hk : [a, x].all (okO E) = true) (ha : (res E a).ev .lf = .one (.ptr b o)) (hx : (res E x).ev .lf = .agg l) (hn : l.length = n) (hs : H.stores b o l = some H') (hw : watchOk ws ctx H') (h : PW P G base Q r ctx (setE E dst V.undef) H') : PW P G base Q (⟨id, dst, .e (.store n a x), none, aid, ws, keep⟩ :: r) ctx E H :=
  pw_e hk (by simp [EffOp.mp, aEff, ha, hx, cells1, hn, hs]) hw h
theorem pw_app {esz bytes m : Nat} {s x : Opd} {sv xv v' : V} {news : List C} (hk : [s, x].all (okO E) = true) (hs : (res E s).ev .lf = sv) (hx : (res E x).ev .lf = xv) (hc : srcCells H esz xv = some (m, news)) (ha : aAppend H esz bytes sv m news = some (v', H')) (hw : watchOk ws ctx H') (h : PW P G base Q r ctx (setE E dst v') H') : PW P G base Q (⟨id, dst, .e (.append esz bytes s x), none, aid, ws, keep⟩ :: r) ctx E H :=
  pw_e hk (by simp [EffOp.mp, aEff, hs, hx, hc, ha]) hw h
end
end Go.Ab
namespace Go.Ab
section
variable {P : Program} {G base : Nat} {Q : Env → Hp → Prop} {r : List SOper} {ctx : Ctx} {E : Env} {H H' : Hp} {id : Nat} {dst : Option Nat} {aid : Option Nat} {ws : List Nat} {keep : Bool}
theorem pw_max {x y : Opd} {k : IntKind} {a b : Int} (hk : [x, y].all (okO E) = true) (hx : (res E x).ev .lf = .one (.int k a)) (hy : (res E y).ev .lf = .one (.int k b)) (h : PW P G base Q r ctx (setE E dst (.one (.int k (max a b)))) H) : PW P G base Q (⟨id, dst, .p (.mm true x y), none, aid, ws, keep⟩ :: r) ctx E H := by
  refine pw_p (v := .one (.int k (max a b))) hk ?_ h
  simp only [PureOp.mp, aPure, hx, hy, if_true]
  congr 3
  split <;> omega
theorem pw_min {x y : Opd} {k : IntKind} {a b : Int} (hk : [x, y].all (okO E) = true) (hx : (res E x).ev .lf = .one (.int k a)) (hy : (res E y).ev .lf = .one (.int k b)) (h : PW P G base Q r ctx (setE E dst (.one (.int k (min a b)))) H) : PW P G base Q (⟨id, dst, .p (.mm false x y), none, aid, ws, keep⟩ :: r) ctx E H := by
  refine pw_p (v := .one (.int k (min a b))) hk ?_ h
  simp only [PureOp.mp, aPure, hx, hy, if_true]
  simp only [Bool.false_eq_true, if_false]
  congr 3
  split <;> omega
end
end Go.Ab
namespace Go.Ab
section
variable {P : Program} {G base : Nat} {Q : Env → Hp → Prop} {r : List SOper} {ctx : Ctx} {E : Env} {H H' : Hp} {id : Nat} {dst : Option Nat} {aid : Option Nat} {ws : List Nat} {keep : Bool}
theorem mk_ev {esz bytes n : Nat} {z : List C} {l c : Opd} {k k' : IntKind} (hl : (res E l).ev .lf = .one (.int k n)) (hc : (res E c).ev .lf = .one (.int k' n)) (hb : bytes * n ≤ 281474976710656) (hn : n < 4611686018427387904) :
    aAlloc .lf (AllocOp.mp (res E) (.mkslice esz bytes z l c)) = some (.row (n * esz) z .lf true, fun b => .one (.slc b 0 n n esz true)) := by
  simp only [AllocOp.mp, aAlloc, hl, hc]
  rw [if_pos ⟨by omega, by omega, by omega, by omega⟩]
  simp
/-- make([]T, n) -/
theorem pw_mk {esz bytes n : Nat} {z : List C} {l c : Opd} {k k' : IntKind} (hk : [l, c].all (okO E) = true) (hl : (res E l).ev .lf = .one (.int k n)) (hc : (res E c).ev .lf = .one (.int k' n)) (hb : bytes * n ≤ 281474976710656) (hn : n < 4611686018427387904)
    (h : PW P G base Q r ctx (setE E dst (.one (.slc H.nx 0 n n esz true))) (H.push (.row (n * esz) z .lf true))) : PW P G base Q (⟨id, dst, .a (.mkslice esz bytes z l c), none, none, ws, keep⟩ :: r) ctx E H := pw_a hk (mk_ev hl hc hb hn) h
theorem pw_mki {esz bytes n : Nat} {z : List C} {l c : Opd} {k k' : IntKind} {j : Nat} (hk : [l, c].all (okO E) = true) (hl : (res E l).ev .lf = .one (.int k n)) (hc : (res E c).ev .lf = .one (.int k' n)) (hb : bytes * n ≤ 281474976710656) (hn : n < 4611686018427387904)
    (h : PW P G base Q r ctx (setE E dst (.one (.slc (base + j) 0 n n esz true))) (H.add (base + j) (.row (n * esz) z .lf true))) : PW P G base Q (⟨id, dst, .a (.mkslice esz bytes z l c), none, some j, ws, keep⟩ :: r) ctx E H := pw_aid hk (mk_ev hl hc hb hn) h
theorem b1_ev {esz : Nat} {z : List C} {x : Opd} {cs : List C} (hx : cells1 ((res E x).ev .lf) = some cs) (hn : cs.length = esz) : aAlloc .lf (AllocOp.mp (res E) (.bslice esz 1 z [(0, esz, x)])) = some (.row cs.length cs .lf true, fun b => .one (.slc b 0 1 1 esz true)) := by
  simp only [AllocOp.mp, aAlloc, mapPs, fillL, hx, hn]
  have hp : (patt z (1 * esz)).length = esz := by simp [patt]
  rw [if_pos ⟨trivial, by rw [hp]; omega⟩]
  simp only [List.take_zero, List.nil_append, Nat.zero_add]
  rw [List.drop_of_length_le (by rw [hp]; omega), List.append_nil, hn]
/-- the slice of one element behind an append -/
theorem pw_b1 {esz : Nat} {z : List C} {x : Opd} {cs : List C} (hk : okO E x = true) (hx : cells1 ((res E x).ev .lf) = some cs) (hn : cs.length = esz)
    (h : PW P G base Q r ctx (setE E dst (.one (.slc H.nx 0 1 1 esz true))) (H.push (.row cs.length cs .lf true))) : PW P G base Q (⟨id, dst, .a (.bslice esz 1 z [(0, esz, x)]), none, none, ws, keep⟩ :: r) ctx E H :=
  pw_a (by simp [AllocOp.opds, psOpds, hk]) (b1_ev hx hn) h
theorem pw_b1i {esz : Nat} {z : List C} {x : Opd} {cs : List C} {j : Nat} (hk : okO E x = true) (hx : cells1 ((res E x).ev .lf) = some cs) (hn : cs.length = esz)
    (h : PW P G base Q r ctx (setE E dst (.one (.slc (base + j) 0 1 1 esz true))) (H.add (base + j) (.row cs.length cs .lf true))) : PW P G base Q (⟨id, dst, .a (.bslice esz 1 z [(0, esz, x)]), none, some j, ws, keep⟩ :: r) ctx E H :=
  pw_aid (by simp [AllocOp.opds, psOpds, hk]) (b1_ev hx hn) h
theorem src_row {b n esz cap : Nat} {cs : List C} {ex : Bool} (h : H.loads b 0 (n * esz) = some cs) : srcCells H esz (.one (.slc b 0 n cap esz ex)) = some (n, cs) := by simp [srcCells, h]
theorem src_sl {n esz : Nat} {cs : List C} {v : V} (h : Sl H esz n cs v) : srcCells H esz v = some (n, cs) := by
  obtain ⟨hl, h⟩ := h
  rcases h with ⟨rfl, rfl⟩ | ⟨b, o, cap, ex, rfl, h⟩
  · have : cs = [] := List.eq_nil_of_length_eq_zero (by simpa using hl)
    subst this; rfl
  · simp [srcCells, h]
end
/-- a new row of equal cells -/
theorem loads_fill {H : Hp} {b n : Nat} {x : C} {rw : Bool} (h : H.get b = some (.row n [x] .lf rw)) : H.loads b 0 n = some (List.replicate n x) := by
  have key : ∀ (m o : Nat), o + m = n → H.loads b o m = some (List.replicate m x) := by
    intro m
    induction m with
    | zero => intro o _; rfl
    | succ m ih =>
      intro o ho
      have hc : H.cell b o = some x := by simp [Hp.cell, h, B.cell, show o < n by omega, Nat.mod_one]
      simp only [Hp.loads, hc, ih (o + 1) (by omega)]
      rfl
  exact key n 0 (by omega)
theorem Row.fill {H : Hp} {b n : Nat} {x : C} (h : H.get b = some (.row n [x] .lf true)) : Row H b (List.replicate n x) := ⟨⟨[x], .lf, by simpa using h⟩, by simpa using loads_fill h⟩
end Go.Ab
namespace Go.Ab
theorem watch_all {ws : List Nat} {ctx : Ctx} {H : Hp} (h : ∀ x ∈ ctx, x.2 H) : watchOk ws ctx H := by
  cases ws with
  | nil => trivial
  | cons k r => exact fun j _ p hp => h (j, p) hp
theorem watch_one {ws : List Nat} {k : Nat} {p : Hp → Prop} {H : Hp} (h : p H) : watchOk ws [(k, p)] H := watch_all fun x hx => by
  simp at hx
  subst hx
  exact h
section
variable {P : Program} {G base : Nat} {Q : Env → Hp → Prop} {r : List SOper} {ctx : Ctx} {E : Env} {H H' : Hp} {id : Nat} {dst : Option Nat} {aid : Option Nat} {ws : List Nat} {keep : Bool}
theorem pw_ctx {l : List SOper} {c0 : Ctx} (hc : CtxLe c0 ctx) (h : PW P G base Q l c0 E H) : PW P G base Q l ctx E H := fun F c hF hc' => h F c hF fun x hx => by
  obtain ⟨y, hy, e, hh⟩ := hc' x hx
  obtain ⟨y0, hy0, e0, hh0⟩ := hc y hy
  exact ⟨y0, hy0, e0.trans e, fun H h => hh H (hh0 H h)⟩
theorem pw_lk1 {n : Nat} {a : Opd} {b o : Nat} {c : C} (hk : okO E a = true) (ha : (res E a).ev .lf = .one (.ptr b o)) (hc : H.cell b o = some c) (h : PW P G base Q r ((id, fun H' => H'.cell b o = some c) :: ctx) (setE E dst (.one c)) H) : PW P G base Q (⟨id, dst, .l (.load false n a), none, aid, ws, true⟩ :: r) ctx E H :=
  pw_lk (by simp [LoadOp.opds, hk]) (by simp [LoadOp.mp, aLoad, ha, hc]) (pw_ctx (CtxLe.cons (fun x hx => ⟨x, hx, rfl, fun _ h => h⟩) id fun H' hh => by simp [LoadOp.mp, aLoad, ha, hh]) h)
theorem pw_lkn {n : Nat} {a : Opd} {b o : Nat} {l : List C} (hk : okO E a = true) (ha : (res E a).ev .lf = .one (.ptr b o)) (hc : H.loads b o n = some l) (h : PW P G base Q r ((id, fun H' => H'.loads b o n = some l) :: ctx) (setE E dst (.agg l)) H) : PW P G base Q (⟨id, dst, .l (.load true n a), none, aid, ws, true⟩ :: r) ctx E H :=
  pw_lk (by simp [LoadOp.opds, hk]) (by simp [LoadOp.mp, aLoad, ha, hc]) (pw_ctx (CtxLe.cons (fun x hx => ⟨x, hx, rfl, fun _ h => h⟩) id fun H' hh => by simp [LoadOp.mp, aLoad, ha, hh]) h)
theorem pw_rem {x y : Opd} {k : IntKind} {a b : Int} (hk : [x, y].all (okO E) = true) (hx : (res E x).ev .lf = .one (.int k a)) (hy : (res E y).ev .lf = .one (.int k b)) (hb : b ≠ 0) (h : PW P G base Q r ctx (setE E dst (.one (.int k (a.tmod b)))) H) : PW P G base Q (⟨id, dst, .p (.bin .rem x y), none, aid, ws, keep⟩ :: r) ctx E H :=
  pw_p (v := .one (.int k (a.tmod b))) hk (by simp [PureOp.mp, aPure, hx, hy, aBin, hb]) h
theorem pw_quo {x y : Opd} {k : IntKind} {a b : Int} (hk : [x, y].all (okO E) = true) (hx : (res E x).ev .lf = .one (.int k a)) (hy : (res E y).ev .lf = .one (.int k b)) (hb : b ≠ 0) (h : PW P G base Q r ctx (setE E dst (.one (.int k (k.wrap (a.tdiv b))))) H) : PW P G base Q (⟨id, dst, .p (.bin .quo x y), none, aid, ws, keep⟩ :: r) ctx E H :=
  pw_p (v := .one (.int k (k.wrap (a.tdiv b)))) hk (by simp [PureOp.mp, aPure, hx, hy, aBin, hb]) h
end
end Go.Ab
