/- Contracts of functions of the program over the abstract semantics. -/
import Derived.Test.YtandgamnamkkhaaGreatDoorAb10
import Derived.RecoverIn
set_option linter.unusedVariables false
set_option linter.unusedSimpArgs false
namespace Go.Ab
structure SDef where
 n : Nat
 r : Nat
 p : PureOp
 d : Option Nat
 c : Opd
 l : List SOper
def recC : Bool -> C
 | true => .ifa
 | false => .nili
def cpDef (P : Program) (G : Nat) (f : FuncId) : Option SDef :=
 match P.funcs[f]? with
 | some fn => match fn.body with
  | some (.seq (.region _ ops0 false) (.cond c (.region _ ops1 false) .skip)) => match ops0.toList with
   | [o0, o1] => match o0.op, o0.guard, o0.dst with
    | .call { callee := .builtin .recover, args := as, argTypes := _ }, none, some r => match o1.guard, cpPure P G fn.ntmps o1, cO G fn.ntmps c, cpAll P G fn.ntmps ops1 noExtra (List.range ops1.size) with
     | none, some p, some d, some l => if as.isEmpty && decide (r < fn.ntmps) && cDst fn.ntmps o1.dst && fn.results.isEmpty then some ⟨fn.ntmps, r, p, o1.dst, d, l⟩ else none
     | _, _, _, _ => none
    | _, _, _ => none
   | _ => none
  | _ => none
 | none => none
section
variable {P : Program} {G : Nat}
theorem adef_ok {f : FuncId} {sd : SDef} (hf : cpDef P G f = some sd) {args : List V} {pan : Bool} {H : Hp} {R : Bool -> Hp -> Prop} (hn : args.length <= sd.n)
  (h : ∃ v t, aPure ((initF args 0).set sd.r (some (.one (recC pan)))) sd.p = some v /\ sd.c.ev (setO ((initF args 0).set sd.r (some (.one (recC pan)))) sd.d v) = .one (.bool t) /\
   if t then wOps P G H.nx (fun _ => False) (fun _ H' => R false H') sd.l [] (setO ((initF args 0).set sd.r (some (.one (recC pan)))) sd.d v) H else R false H) : ADef P G f args pan H R := by
 unfold cpDef at hf
 split at hf <;> try cases hf
 rename_i fn hfn
 split at hf <;> try cases hf
 rename_i id0 ops0 c id1 ops1 hb
 split at hf <;> try cases hf
 rename_i o0 o1 hops
 split at hf <;> try cases hf
 rename_i as ts r hop0 hg0 hd0
 split at hf <;> try cases hf
 rename_i p d l hg1 hp1 hc hl
 split at hf <;> try cases hf
 rename_i hcond
 simp only [Bool.and_eq_true, decide_eq_true_eq] at hcond
 obtain ⟨⟨⟨has, hr⟩, hd1⟩, hres⟩ := hcond
 obtain rfl : as = #[] := by simpa using has
 obtain ⟨v, t, hv, ht, h⟩ := h
 intro μ K w xs u hR ha hm
 refine callsDIn_of_wpSIn hfn hb trivial fun c₀ cs hu => ?_
 have hlen := ha.len
 have hF0 : FRel μ K fn.ntmps (initF args 0) (xs.toArray ++ Array.replicate (fn.ntmps - xs.toArray.size) Go.undef) := initF_ok hn ha
 have hsz : ops0.size = 2 := by rw [<- Array.length_toList, hops]; rfl
 have e0 : ops0[0]? = some o0 := by rw [<- Array.getElem?_toList, hops]; rfl
 have e1 : ops0[1]? = some o1 := by rw [<- Array.getElem?_toList, hops]; rfl
 refine wpSIn_seq (wpSIn_region ?_)
 rw [hsz]
 show wpOpsSIn Fence.wide 0 P ops0 _ [0, 1] _ _ _
 have hrun0 : ∀ a : Act, (execOp a.eval o0).run P w = .ok .recover w := fun a => by
  simp [execOp, hop0, resolve]
  rfl
 have hrec : ∃ u', (settle u' = .returning) /\ ∀ (Q : Exit -> Act -> List Frame -> World -> Prop) (a : Act), (∀ x, RC μ K (recC pan) x -> wpOpsSIn Fence.wide 0 P ops0 Q [1] (a.put (some r) x) ({ c₀ with mode := u' } :: cs) w) -> wpOpsSIn Fence.wide 0 P ops0 Q [0, 1] a (c₀ :: cs) w := by
  cases pan with
  | false =>
   have hu' : c₀.mode = .returning := hu.trans hm
   refine ⟨.returning, rfl, fun Q a hh => ?_⟩
   have := hh .nilIface rfl
   rw [wpOpsSIn]
   simp only [e0]
   refine ⟨fun _ _ => trivial, ?_⟩
   simp only [Region.wanted, hg0, if_true, hrun0, recoverD, hu', hd0]
   rw [show ({ c₀ with mode := FrameMode.returning } : Frame) = c₀ by rw [<- hu']] at this
   exact this
  | true =>
   obtain ⟨ch, hch, ty, vv, rfl⟩ := hm
   have hu' : c₀.mode = .panicking [{ v := .iface ty vv, recovered := false }] := hu.trans hch
   refine ⟨.panicking [{ v := .iface ty vv, recovered := true }], rfl, fun Q a hh => ?_⟩
   have := hh (.iface ty vv) ⟨ty, vv, rfl⟩
   rw [wpOpsSIn]
   simp only [e0]
   refine ⟨fun _ _ => trivial, ?_⟩
   simp only [Region.wanted, hg0, if_true, hrun0, recoverD, hu', hd0]
   exact this
 obtain ⟨u', hset, hrec⟩ := hrec
 refine hrec _ _ fun x hx => ?_
 have hF1 : FRel μ K fn.ntmps ((initF args 0).set r (some (.one (recC pan)))) (({ tmps := xs.toArray ++ Array.replicate (fn.ntmps - xs.toArray.size) Go.undef, defers := [] } : Act).put (some r) x).tmps :=
  FRel.put (a := ⟨_, []⟩) (d := some r) hF0 (by simpa [cDst] using hr) (v := .one (recC pan)) hx
 obtain ⟨y, hrun1, hy⟩ := pure_ok (a := (({ tmps := xs.toArray ++ Array.replicate (fn.ntmps - xs.toArray.size) Go.undef, defers := [] } : Act).put (some r) x)) hR hF1 hp1 hv
 rw [wpOpsSIn]
 simp only [e1]
 refine ⟨fun _ _ => trivial, ?_⟩
 simp only [Region.wanted, hg1, if_true, hrun1, wpOpsSIn]
 have hF2 := FRel.put hF1 hd1 hy
 have hcv := cO_ok hR hF2 hc
 rw [ht] at hcv
 have hdef : ((({ tmps := xs.toArray ++ Array.replicate (fn.ntmps - xs.toArray.size) Go.undef, defers := [] } : Act).put (some r) x).put o1.dst y).defers = [] := by cases o1.dst <;> rfl
 generalize hA : ((({ tmps := xs.toArray ++ Array.replicate (fn.ntmps - xs.toArray.size) Go.undef, defers := [] } : Act).put (some r) x).put o1.dst y) = A at *
 have hresl : fn.results = #[] := by simpa using hres
 have hresult : ∀ (tm : Array Value) (w1 : World), (results fn tm).run P w1 = .ok (.tuple #[]) w1 := fun tm w1 => by
  unfold results
  simp [hresl]
 show (Code.cond c (.region id1 ops1 false) .skip).wpSIn Fence.wide 0 P _ A _ w
 refine wpSIn_cond (t := t) hcv (wpSIn_of_wpIn rfl ?_)
 cases t with
 | false =>
  simp only [Bool.false_eq_true, if_false] at h ⊢
  exact wpIn_skip ⟨hdef, u', rfl, _, hresult _ _, _, rfl, false, H, μ, K, hset, h, hR, Fr.refl hR⟩
 | true =>
  simp only [if_true] at h ⊢
  obtain ⟨hal, hai⟩ := cpAll_aligned hl
  refine wpIn_region ?_
  rw [<- List.append_nil (List.range ops1.size)]
  refine ord_ok (ρ := none) (QP := fun _ => False) (Q := fun _ H' => R false H') (D := []) (F0 := setO ((initF args 0).set r (some (.one (recC pan)))) o1.dst v) (ds := dstsOf l) hR.lt' hal.dsts (fun μ' K' F' H' a' w' h1 h2 h3 h4 hag h5 => ?_) (fun _ _ _ _ _ _ _ h0 => h0.elim) hal (fun s hs => by obtain ⟨i, _, e⟩ := hai s hs; exact e) dstsOf_mem hR hF2 (Fr.refl hR) (fun _ _ => rfl) hdef h
  exact ⟨h5, u', rfl, _, hresult _ _, _, rfl, false, H', μ', K', hset, h1, h2, h4⟩
end
end Go.Ab

namespace Go.Ab
def Ceq : C -> C -> Bool
 | .bool a, .bool b => a == b
 | .int k a, .int k' b => decide (k = k') && decide (a = b)
 | .str a, .str b => decide (a.data = b.data)
 | .ptr b o, .ptr b' o' => decide (b = b') && decide (o = o')
 | .nilp, .nilp => true
 | .slc b o l c e x, .slc b' o' l' c' e' x' => decide (b = b') && decide (o = o') && decide (l = l') && decide (c = c') && decide (e = e') && (x == x')
 | .nils, .nils => true
 | .map b, .map b' => decide (b = b')
 | .nilm, .nilm => true
 | .fn f l, .fn f' l' => decide (f = f') && decide (l = l')
 | .nilf, .nilf => true
 | .ifa, .ifa => true
 | .nili, .nili => true
 | .bm f b o, .bm f' b' o' => decide (f = f') && decide (b = b') && decide (o = o')
 | _, _ => false
theorem Ceq_ok {a b : C} (h : Ceq a b = true) : a = b := by
 cases a <;> cases b <;> simp [Ceq] at h <;> simp_all
 rename_i s t
 cases s; cases t; simp_all
def Leq : List C -> List C -> Bool
 | [], [] => true
 | a :: l, b :: m => Ceq a b && Leq l m
 | _, _ => false
theorem Leq_ok : ∀ {l m : List C}, Leq l m = true -> l = m
 | [], [], _ => rfl
 | a :: l, b :: m, h => by
  simp only [Leq, Bool.and_eq_true] at h
  rw [Ceq_ok h.1, Leq_ok h.2]
 | [], _ :: _, h => by simp [Leq] at h
 | _ :: _, [], h => by simp [Leq] at h
def Veq : V -> V -> Bool
 | .one a, .one b => Ceq a b
 | .agg l, .agg m => Leq l m
 | _, _ => false
theorem Veq_ok {a b : V} (h : Veq a b = true) : a = b := by
 cases a <;> cases b <;> simp only [Veq] at h
 all_goals first
  | rw [Ceq_ok h]
  | rw [Leq_ok h]
  | cases h
abbrev ECtx := List (Nat × T V × LoadOp × V)
def watchE (ws : List Nat) (ctx : ECtx) (H : Hp) : Bool :=
 ws.all fun k => ctx.all fun e => e.1 != k || (match aLoad e.2.1 H e.2.2.1 with
  | some v => Veq v e.2.2.2
  | none => false)
inductive OR where
 | ok (F : T V) (H : Hp)
 | pn (H : Hp)
inductive EvR where
 | ok (v : V) (H : Hp)
 | pn (H : Hp)
def evOps (tb : Nat -> Option SFn) (call : FuncId -> List V -> Hp -> Option EvR) (base : Nat) : List SOper -> ECtx -> T V -> Hp -> Option OR
 | [], _, F, H => some (.ok F H)
 | o :: r, ctx, F, H =>
  match wantedA o.guard F with
  | true =>
   match o.op with
   | .p op => match aPure F op with
    | some v => evOps tb call base r ctx (setO F o.dst v) H
    | none => none
   | .l op => match aLoad F H op with
    | some v => evOps tb call base r (match o.keep with
     | true => (o.id, F, op, v) :: ctx
     | false => ctx) (setO F o.dst v) H
    | none => none
   | .a op => match aAlloc F op with
    | some (bk, g) => match o.aid with
     | none => evOps tb call base r ctx (setO F o.dst (g H.nx)) (H.push bk)
     | some k => evOps tb call base r ctx (setO F o.dst (g (base + k))) (H.add (base + k) bk)
    | none => none
   | .e op => match aEff F H op with
    | some (v, H') => match watchE o.watch ctx H' with
     | true => evOps tb call base r ctx (setO F o.dst v) H'
     | false => none
    | none => none
   | .cf f args => match call f (args.map (·.ev F)) H with
    | some (.ok v H') => match watchE o.watch ctx H' with
     | true => evOps tb call base r ctx (setO F o.dst v) H'
     | false => none
    | some (.pn H') => some (.pn H')
    | none => none
   | .cv x args => match x.ev F with
    | .one (.fn f caps) => match tb f with
     | some _ => match call f (args.map (·.ev F) ++ caps.map ptrV) H with
      | some (.ok v H') => match watchE o.watch ctx H' with
       | true => evOps tb call base r ctx (setO F o.dst v) H'
       | false => none
      | some (.pn H') => some (.pn H')
      | none => none
     | none => none
    | .one (.bm f b off) => match tb f with
     | some _ => match call f (.one (.ptr b off) :: args.map (·.ev F)) H with
      | some (.ok v H') => match watchE o.watch ctx H' with
       | true => evOps tb call base r ctx (setO F o.dst v) H'
       | false => none
      | some (.pn H') => some (.pn H')
      | none => none
     | none => none
    | _ => none
   | .nx _ => none
   | .no => none
  | false => evOps tb call base r ctx (setO F o.dst V.undef) H
inductive EE where
 | normal
 | exit (id : Nat)
 | ret
 /-- a panic; what it has left of the temporaries ds is not known -/
 | pan (ds : List Nat)
def EE.Q (Q : Exit -> T V -> Hp -> Prop) (F : T V) (H : Hp) : EE -> Prop
 | .normal => Q .normal F H
 | .exit id => Q (.exit id) F H
 | .ret => Q .ret F H
 | .pan ds => ∀ F1 : T V, (∀ t, t ∉ ds -> F1.get t = F.get t) -> Q (.panic []) F1 H
def evDefs (td : Nat -> Option SDef) : List V -> Bool -> Hp -> Option (Bool × Hp)
 | [], pan, H => some (pan, H)
 | .one (.fn f caps) :: L, pan, H => match td f with
  | none => none
  | some sd => if caps.length <= sd.n then
    match aPure ((initF (caps.map ptrV) 0).set sd.r (some (.one (recC pan)))) sd.p with
    | none => none
    | some v => match sd.c.ev (setO ((initF (caps.map ptrV) 0).set sd.r (some (.one (recC pan)))) sd.d v) with
     | .one (.bool t) => match t with
      | false => evDefs td L false H
      | true => match evOps (fun _ => none) (fun _ _ _ => none) H.nx sd.l [] (setO ((initF (caps.map ptrV) 0).set sd.r (some (.one (recC pan)))) sd.d v) H with
       | some (.ok _ H') => evDefs td L false H'
       | _ => none
     | _ => none
   else none
 | _ :: _, _, _ => none
def resFree (ds : List Nat) : List SRes -> Bool
 | [] => true
 | .t n :: l => !ds.contains n && resFree ds l
 | .cell _ _ n :: l => !ds.contains n && resFree ds l
def evCall (tb : Nat -> Option SFn) (td : Nat -> Option SDef) (rec : SC -> T V -> Hp -> Option (EE × T V × Hp)) (f : FuncId) (args : List V) (H : Hp) : Option EvR :=
 match tb f with
 | none => none
 | some sf => if args.length <= sf.n /\ sf.n <= DEFI then
   match rec sf.code (initF args 0) H with
   | none => none
   | some (e, F', H') => match e with
    | .exit _ => none
    | .pan ds => if ds.contains DEFI then none else match evDefs td (defsOf F') true H' with
     | none => none
     | some (pan, H'') => match pan with
      | true => some (.pn H'')
      | false => match resFree ds sf.res with
       | true => match aResult F' H'' sf.res with
        | some v => some (.ok v H'')
        | none => none
       | false => none
    | _ => match evDefs td (defsOf F') false H' with
     | none => none
     | some (pan, H'') => match pan with
      | true => none
      | false => match aResult F' H'' sf.res with
       | some v => some (.ok v H'')
       | none => none
  else none
def evStep (tb : Nat -> Option SFn) (td : Nat -> Option SDef) (rec : SC -> T V -> Hp -> Option (EE × T V × Hp)) (s : SC) (F : T V) (H : Hp) : Option (EE × T V × Hp) :=
 match s with
 | .skip => some (.normal, F, H)
 | .ops l res st => match evOps tb (evCall tb td rec) H.nx l [] F (H.skip res) with
  | none => none
  | some (.ok F' H') => some (.normal, F', H')
  | some (.pn H') => match st with
   | true => some (.pan (dstsOf l), F, H')
   | false => none
 | .df l d => match evOps tb (evCall tb td rec) H.nx l [] F H with
  | none => none
  | some (.ok F' H') => match d.ev F' with
   | .one (.fn f caps) => some (.normal, F'.set DEFI (some (.tup (.one (.fn f caps) :: defsOf F'))), H')
   | _ => none
  | some (.pn H') => some (.pan (dstsOf l), F, H')
 | .pn l d => match evOps tb (evCall tb td rec) H.nx l [] F H with
  | none => none
  | some (.ok F' H') => match d.ev F' with
   | .one .ifa => some (.pan (dstsOf l), F, H')
   | _ => none
  | some (.pn H') => some (.pan (dstsOf l), F, H')
 | .seq a b => match rec a F H with
  | none => none
  | some (e, F', H') => match e with
   | .normal => rec b F' H'
   | e => some (e, F', H')
 | .cond d a b => match d.ev F with
  | .one (.bool t) => match t with
   | true => rec a F H
   | false => rec b F H
  | _ => none
 | .block id a => match rec a F H with
  | none => none
  | some (e, F', H') => match e with
   | .exit id' => if id' = id then some (.normal, F', H') else some (.exit id', F', H')
   | e => some (e, F', H')
 | .loop a => match rec a F H with
  | none => none
  | some (e, F', H') => match e with
   | .normal => rec (.loop a) F' H'
   | e => some (e, F', H')
 | .exit id => some (.exit id, F, H)
 | .ret => some (.ret, F, H)
 | .scope a => match rec a F H with
  | none => none
  | some (e, F', H') => some (e, F', H')
 | .rf .. => none
 | .no => none
def evC (tb : Nat -> Option SFn) (td : Nat -> Option SDef) : Nat -> SC -> T V -> Hp -> Option (EE × T V × Hp)
 | 0 => fun _ _ _ => none
 | fuel + 1 => evStep tb td (evC tb td fuel)
def evF (tb : Nat -> Option SFn) (td : Nat -> Option SDef) (fuel : Nat) (f : FuncId) (args : List V) (H : Hp) : Option EvR := evCall tb td (evC tb td fuel) f args H
def TabOk (P : Program) (G : Nat) (tb : Nat -> Option SFn) : Prop := ∀ f sf, tb f = some sf -> cpFn P G f = some sf /\ isFn P f = true
def DefOk (P : Program) (G : Nat) (td : Nat -> Option SDef) : Prop := ∀ f sd, td f = some sd -> cpDef P G f = some sd /\ isFn P f = true
section
variable {P : Program} {G : Nat} {tb : Nat -> Option SFn} {td : Nat -> Option SDef}
def ctxP (ctx : ECtx) : Ctx := ctx.map fun e => (e.1, fun H' => aLoad e.2.1 H' e.2.2.1 = some e.2.2.2)
theorem watchE_ok {ws : List Nat} {ctx : ECtx} {H : Hp} (h : watchE ws ctx H = true) : watchOk ws (ctxP ctx) H := by
 cases ws with
 | nil => trivial
 | cons w ws =>
  intro k hk p hp
  simp only [watchE, List.all_eq_true] at h
  have h1 := h k hk
  obtain ⟨e, he, hep⟩ := List.mem_map.1 hp
  have h2 := h1 e he
  injection hep with e1 e2
  subst e1 e2
  simp only [bne_self_eq_false, Bool.false_or] at h2
  cases hv : aLoad e.2.1 H e.2.2.1 with
  | none => simp [hv] at h2
  | some v => simp only [hv] at h2; show aLoad e.2.1 H e.2.2.1 = some e.2.2.2; rw [hv, Veq_ok h2]
theorem evOps_ok {call : FuncId -> List V -> Hp -> Option EvR} (hcall : ∀ f args H r, call f args H = some r -> ACallsP P G f args H (fun v H' => r = .ok v H') fun H' => r = .pn H') (htb : ∀ f sf, tb f = some sf -> isFn P f = true) {base : Nat} {QP : Hp -> Prop} {Q : T V -> Hp -> Prop} :
  ∀ {l : List SOper} {ctx : ECtx} {F : T V} {H : Hp} {x : OR}, evOps tb call base l ctx F H = some x -> (∀ F' H', x = .ok F' H' -> Q F' H') -> (∀ H', x = .pn H' -> QP H') -> wOps P G base QP Q l (ctxP ctx) F H
 | [], ctx, F, H, x, h, hq, hp => by
  simp only [evOps, Option.some.injEq] at h
  exact hq _ _ h.symm
 | o :: r, ctx, F, H, x, h, hq, hp => by
  rw [evOps] at h
  rw [wOps]
  cases hw : wantedA o.guard F with
  | false =>
   simp only [hw] at h
   simp only [Bool.false_eq_true, if_false]
   exact evOps_ok hcall htb h hq hp
  | true =>
   simp only [hw] at h
   simp only [if_true]
   have go : ∀ {f : FuncId} {args : List V}, (match call f args H with
     | some (.ok v H') => match watchE o.watch ctx H' with
      | true => evOps tb call base r ctx (setO F o.dst v) H'
      | false => none
     | some (.pn H') => some (.pn H')
     | none => none) = some x -> ACallsP P G f args H (fun v H' => watchOk o.watch (ctxP ctx) H' /\ wOps P G base QP Q r (ctxP ctx) (setO F o.dst v) H') QP := by
    intro f args h
    cases hv : call f args H with
    | none => simp [hv] at h
    | some y =>
     simp only [hv] at h
     refine (hcall f args H y hv).mono (fun v' H'' e => ?_) fun H'' e => ?_
     ·subst e
      simp only at h
      cases hwt : watchE o.watch ctx H'' with
      | false => simp [hwt] at h
      | true => simp only [hwt] at h; exact ⟨watchE_ok hwt, evOps_ok hcall htb h hq hp⟩
     ·subst e
      simp only [Option.some.injEq] at h
      exact hp _ h.symm
   cases hop : o.op with
   | p op =>
    simp only [hop] at h ⊢
    cases hv : aPure F op with
    | none => simp [hv] at h
    | some v => simp only [hv] at h ⊢; exact evOps_ok hcall htb h hq hp
   | l op =>
    simp only [hop] at h ⊢
    cases hv : aLoad F H op with
    | none => simp [hv] at h
    | some v =>
     simp only [hv] at h ⊢
     cases hk : o.keep with
     | false => simp only [hk] at h; simp only [Bool.false_eq_true, if_false]; exact evOps_ok hcall htb h hq hp
     | true => simp only [hk] at h; simp only [if_true]; exact evOps_ok (ctx := (o.id, F, op, v) :: ctx) hcall htb h hq hp
   | a op =>
    simp only [hop] at h ⊢
    cases hv : aAlloc F op with
    | none => simp [hv] at h
    | some bg =>
     simp only [hv] at h ⊢
     cases hai : o.aid with
     | none => simp only [hai] at h ⊢; exact evOps_ok hcall htb h hq hp
     | some k => simp only [hai] at h ⊢; exact evOps_ok hcall htb h hq hp
   | e op =>
    simp only [hop] at h ⊢
    cases hv : aEff F H op with
    | none => simp [hv] at h
    | some vH =>
     simp only [hv] at h ⊢
     cases hwt : watchE o.watch ctx vH.2 with
     | false => simp [hwt] at h
     | true => simp only [hwt] at h; exact ⟨watchE_ok hwt, evOps_ok hcall htb h hq hp⟩
   | cf f args =>
    simp only [hop] at h ⊢
    exact go h
   | cv x args =>
    simp only [hop] at h ⊢
    split at h
    ·rename_i f caps hx
     cases ht : tb f with
     | none => simp [ht] at h
     | some sf =>
      simp only [ht] at h
      try simp only [hx]
      exact ⟨htb f sf ht, go h⟩
    ·rename_i f b off hx
     cases ht : tb f with
     | none => simp [ht] at h
     | some sf =>
      simp only [ht] at h
      try simp only [hx]
      exact ⟨htb f sf ht, go h⟩
    ·cases h
   | nx x => simp [hop] at h
   | no => simp [hop] at h
theorem evDefs_ok (htd : DefOk P G td) {fin : Bool -> Hp -> Prop} : ∀ {L : List V} {pan : Bool} {H : Hp} {pan' : Bool} {H' : Hp}, evDefs td L pan H = some (pan', H') -> fin pan' H' -> leaveQ P G fin L pan H
 | [], pan, H, pan', H', h, hf => by
  simp only [evDefs, Option.some.injEq, Prod.mk.injEq] at h
  obtain ⟨rfl, rfl⟩ := h
  exact hf
 | v :: L, pan, H, pan', H', h, hf => by
  have hv : ∃ f caps, v = .one (.fn f caps) := by
   cases v with
   | one c => cases c with
    | fn f caps => exact ⟨f, caps, rfl⟩
    | _ => simp [evDefs] at h
   | agg l => simp [evDefs] at h
   | tup l => simp [evDefs] at h
  obtain ⟨f, caps, rfl⟩ := hv
  unfold evDefs at h
  split at h
  ·cases h
  ·rename_i sd hsd
   split at h
   ·rename_i hlen
    obtain ⟨h1, h2⟩ := htd f sd hsd
    refine ⟨h2, adef_ok h1 (by simpa using hlen) ?_⟩
    split at h
    ·cases h
    ·rename_i x hx
     split at h
     ·rename_i t ht
      refine ⟨x, t, hx, ht, ?_⟩
      cases t with
      | false =>
       simp only [Bool.false_eq_true, if_false]
       exact evDefs_ok htd h hf
      | true =>
       simp only at h
       simp only [if_true]
       split at h
       ·rename_i F2 H2 hev
        refine evOps_ok (tb := fun _ => none) (ctx := []) (fun _ _ _ _ h => by cases h) (fun _ _ h => by cases h) hev (fun F' H' e => ?_) fun H' e => by cases e
        injection e with e1 e2
        subst e1 e2
        exact evDefs_ok htd h hf
       ·cases h
     ·cases h
   ·cases h
theorem aResult_free {ds : List Nat} {F F1 : T V} {H : Hp} (hag : ∀ t, t ∉ ds -> F1.get t = F.get t) {rs : List SRes} (h : resFree ds rs = true) : aResult F1 H rs = aResult F H rs := by
 have one : ∀ {rs : List SRes}, resFree ds rs = true -> aResL F1 H rs = aResL F H rs := by
  intro rs
  induction rs with
  | nil => intro _; rfl
  | cons r l ih =>
   intro h
   have e : aRes F1 H r = aRes F H r /\ aResL F1 H l = aResL F H l := by
    cases r with
    | t n =>
     simp only [resFree, Bool.and_eq_true, Bool.not_eq_true', List.contains_eq_mem, decide_eq_false_iff_not] at h
     exact ⟨by simp only [aRes, hag n h.1], ih h.2⟩
    | cell g k n =>
     simp only [resFree, Bool.and_eq_true, Bool.not_eq_true', List.contains_eq_mem, decide_eq_false_iff_not] at h
     exact ⟨by simp only [aRes, aLoad, Opd.ev, hag n h.1], ih h.2⟩
   simp only [aResL, e.1, e.2]
 unfold aResult
 rw [one h]
theorem evCall_ok {rec : SC -> T V -> Hp -> Option (EE × T V × Hp)} (htb : TabOk P G tb) (htd : DefOk P G td) (hrec : ∀ {n : Nat} {s : SC} {F F' : T V} {H H' : Hp} {e : EE} {Q : Exit -> T V -> Hp -> Prop}, rec s F H = some (e, F', H') -> e.Q Q F' H' -> SWPr (some none) P G n s Q F H)
  {f : FuncId} {args : List V} {H : Hp} {r : EvR} (h : evCall tb td rec f args H = some r) : ACallsP P G f args H (fun v H' => r = .ok v H') fun H' => r = .pn H' := by
 unfold evCall at h
 split at h
 ·cases h
 ·rename_i sf hsf
  split at h
  ·rename_i hlen
   split at h
   ·cases h
   ·rename_i e2 F2 H4 hev2
    obtain ⟨hcp, _⟩ := htb f sf hsf
    refine fnG_ok (ρ := some none) hcp hlen.1 (.inr ⟨rfl, hlen.2⟩) (hrec hev2 ?_)
    have fin : (match evDefs td (defsOf F2) false H4 with
      | none => none
      | some (pan, H'') => match pan with
       | true => none
       | false => match aResult F2 H'' sf.res with
        | some v => some (EvR.ok v H'')
        | none => none) = some r -> leaveQ P G (finQ sf.res (fun v H' => r = .ok v H') (fun H' => r = .pn H') F2) (defsOf F2) false H4 := by
     intro h
     split at h
     ·cases h
     ·rename_i pan H5 hd
      refine evDefs_ok htd hd ?_
      cases pan with
      | true => cases h
      | false =>
       simp only at h
       split at h
       ·rename_i v hv
        simp only [finQ, hv]
        exact (Option.some.inj h).symm
       ·cases h
    cases e2 with
    | exit id => cases h
    | normal => exact fin h
    | ret => exact fin h
    | pan ds =>
     simp only at h
     split at h
     ·cases h
     ·rename_i hds
      simp only [List.contains_eq_mem, decide_eq_true_eq] at hds
      intro F1 hag
      have e1 : dL (some none) F1 = defsOf F2 := by
       simp only [dL, defsOf, hag DEFI hds]
      show leaveQ P G (finQ sf.res (fun v H' => r = .ok v H') (fun H' => r = .pn H') F1) (dL (some none) F1) true H4
      rw [e1]
      split at h
      ·cases h
      ·rename_i pan H5 hd
       refine evDefs_ok htd hd ?_
       cases pan with
       | true => exact (Option.some.inj h).symm
       | false =>
        simp only at h
        split at h
        ·rename_i hrf
         split at h
         ·rename_i v hv
          simp only [finQ, aResult_free hag hrf, hv]
          exact (Option.some.inj h).symm
         ·cases h
        ·cases h
  ·cases h
theorem evC_ok (hm : P.follows .mixedOrders = true) (htb : TabOk P G tb) (htd : DefOk P G td) : ∀ (fuel : Nat) {n : Nat} {s : SC} {F F' : T V} {H H' : Hp} {e : EE} {Q : Exit -> T V -> Hp -> Prop}, evC tb td fuel s F H = some (e, F', H') -> e.Q Q F' H' -> SWPr (some none) P G n s Q F H := by
 intro fuel
 induction fuel using Nat.strongRecOn with
 | _ fuel ih =>
  intro n s F F' H H' e Q h hq
  cases fuel with
  | zero => cases h
  | succ fuel =>
   have h : evStep tb td (evC tb td fuel) s F H = some (e, F', H') := h
   have hrec : ∀ {n : Nat} {s : SC} {F F' : T V} {H H' : Hp} {e : EE} {Q : Exit -> T V -> Hp -> Prop}, evC tb td fuel s F H = some (e, F', H') -> e.Q Q F' H' -> SWPr (some none) P G n s Q F H := fun h hq => ih fuel (by omega) h hq
   have hcall : ∀ f args H2 r, evCall tb td (evC tb td fuel) f args H2 = some r -> ACallsP P G f args H2 (fun v H' => r = .ok v H') fun H' => r = .pn H' := fun f args H2 r hc => evCall_ok htb htd hrec hc
   have htb' : ∀ f sf, tb f = some sf -> isFn P f = true := fun f sf h => (htb f sf h).2
   cases s with
   | skip =>
    simp only [evStep, Option.some.injEq, Prod.mk.injEq] at h
    obtain ⟨rfl, rfl, rfl⟩ := h
    exact swp_skip hq
   | ops l res st =>
    simp only [evStep] at h
    split at h
    ·cases h
    ·rename_i F1 H1 hev
     simp only [Option.some.injEq, Prod.mk.injEq] at h
     obtain ⟨rfl, rfl, rfl⟩ := h
     exact swp_ops hm (evOps_ok (ctx := []) hcall htb' hev (fun _ _ e => by injection e with e1 e2; subst e1 e2; exact hq) fun _ e => by cases e)
    ·rename_i H1 hev
     cases st with
     | false => cases h
     | true =>
      simp only [Option.some.injEq, Prod.mk.injEq] at h
      obtain ⟨rfl, rfl, rfl⟩ := h
      exact swp_ops hm (evOps_ok (ctx := []) hcall htb' hev (fun _ _ e => by cases e) fun _ e => by injection e with e1; subst e1; exact hq)
   | df l d =>
    simp only [evStep] at h
    split at h
    ·cases h
    ·rename_i F1 H1 hev
     split at h
     ·rename_i f caps hd
      simp only [Option.some.injEq, Prod.mk.injEq] at h
      obtain ⟨rfl, rfl, rfl⟩ := h
      exact swp_df (evOps_ok (ctx := []) hcall htb' hev (fun _ _ e => by injection e with e1 e2; subst e1 e2; exact ⟨f, caps, hd, hq⟩) fun _ e => by cases e)
     ·cases h
    ·rename_i H1 hev
     simp only [Option.some.injEq, Prod.mk.injEq] at h
     obtain ⟨rfl, rfl, rfl⟩ := h
     exact swp_df (evOps_ok (ctx := []) hcall htb' hev (fun _ _ e => by cases e) fun _ e => by injection e with e1; subst e1; exact hq)
   | pn l d =>
    simp only [evStep] at h
    split at h
    ·cases h
    ·rename_i F1 H1 hev
     split at h
     ·rename_i hd
      simp only [Option.some.injEq, Prod.mk.injEq] at h
      obtain ⟨rfl, rfl, rfl⟩ := h
      exact swp_pn (evOps_ok (ctx := []) hcall htb' hev (fun _ _ e => by injection e with e1 e2; subst e1 e2; exact ⟨hd, hq⟩) fun _ e => by cases e)
     ·cases h
    ·rename_i H1 hev
     simp only [Option.some.injEq, Prod.mk.injEq] at h
     obtain ⟨rfl, rfl, rfl⟩ := h
     exact swp_pn (evOps_ok (ctx := []) hcall htb' hev (fun _ _ e => by cases e) fun _ e => by injection e with e1; subst e1; exact hq)
   | seq a b =>
    simp only [evStep] at h
    split at h
    ·cases h
    ·rename_i e1 F1 H1 h1
     refine swp_seq ?_
     cases e1 with
     | normal => exact hrec h1 (hrec (Q := Q) h hq)
     | exit id =>
      simp only [Option.some.injEq, Prod.mk.injEq] at h
      obtain ⟨rfl, rfl, rfl⟩ := h
      exact hrec h1 hq
     | ret =>
      simp only [Option.some.injEq, Prod.mk.injEq] at h
      obtain ⟨rfl, rfl, rfl⟩ := h
      exact hrec h1 hq
     | pan ds =>
      simp only [Option.some.injEq, Prod.mk.injEq] at h
      obtain ⟨rfl, rfl, rfl⟩ := h
      exact hrec h1 hq
   | cond d a b =>
    simp only [evStep] at h
    split at h
    ·rename_i t ht
     cases t with
     | true => exact swp_cond (t := true) ht (hrec h hq)
     | false => exact swp_cond (t := false) ht (hrec h hq)
    ·cases h
   | block id a =>
    simp only [evStep] at h
    split at h
    ·cases h
    ·rename_i e1 F1 H1 h1
     refine swp_block ?_
     cases e1 with
     | normal =>
      simp only [Option.some.injEq, Prod.mk.injEq] at h
      obtain ⟨rfl, rfl, rfl⟩ := h
      exact hrec h1 hq
     | ret =>
      simp only [Option.some.injEq, Prod.mk.injEq] at h
      obtain ⟨rfl, rfl, rfl⟩ := h
      exact hrec h1 hq
     | pan ds =>
      simp only [Option.some.injEq, Prod.mk.injEq] at h
      obtain ⟨rfl, rfl, rfl⟩ := h
      exact hrec h1 hq
     | exit id' =>
      simp only at h
      refine hrec h1 ?_
      simp only [EE.Q, blockQ]
      split at h
      ·rename_i hid
       simp only [Option.some.injEq, Prod.mk.injEq] at h
       obtain ⟨rfl, rfl, rfl⟩ := h
       rw [if_pos hid]; exact hq
      ·rename_i hid
       simp only [Option.some.injEq, Prod.mk.injEq] at h
       obtain ⟨rfl, rfl, rfl⟩ := h
       rw [if_neg hid]; exact hq
   | loop a =>
    refine swp_loop (fun m F1 H1 => m <= fuel + 1 /\ evC tb td m (.loop a) F1 H1 = some (e, F', H')) (m := fuel + 1) ⟨Nat.le_refl _, h⟩ ?_
    rintro m F1 H1 ⟨hle, hev⟩
    cases m with
    | zero => cases hev
    | succ m =>
     have hev : evStep tb td (evC tb td m) (.loop a) F1 H1 = some (e, F', H') := hev
     simp only [evStep] at hev
     split at hev
     ·cases hev
     ·rename_i e1 F2 H2 h1
      cases e1 with
      | normal => exact ih m (by omega) h1 ⟨m, by omega, by omega, hev⟩
      | exit id =>
       simp only [Option.some.injEq, Prod.mk.injEq] at hev
       obtain ⟨rfl, rfl, rfl⟩ := hev
       exact ih m (by omega) h1 hq
      | ret =>
       simp only [Option.some.injEq, Prod.mk.injEq] at hev
       obtain ⟨rfl, rfl, rfl⟩ := hev
       exact ih m (by omega) h1 hq
      | pan ds =>
       simp only [Option.some.injEq, Prod.mk.injEq] at hev
       obtain ⟨rfl, rfl, rfl⟩ := hev
       exact ih m (by omega) h1 hq
   | exit id =>
    simp only [evStep, Option.some.injEq, Prod.mk.injEq] at h
    obtain ⟨rfl, rfl, rfl⟩ := h
    exact swp_exit hq
   | ret =>
    simp only [evStep, Option.some.injEq, Prod.mk.injEq] at h
    obtain ⟨rfl, rfl, rfl⟩ := h
    exact swp_ret hq
   | rf d ps a b => cases h
   | no => cases h
   | scope a =>
    simp only [evStep] at h
    split at h
    ·cases h
    ·rename_i e1 F1 H1 h1
     simp only [Option.some.injEq, Prod.mk.injEq] at h
     obtain ⟨rfl, rfl, rfl⟩ := h
     refine swp_scope (hrec h1 ?_)
     cases e1 <;> exact hq
theorem evF_ok (hm : P.follows .mixedOrders = true) (htb : TabOk P G tb) (htd : DefOk P G td) {fuel : Nat} {f : FuncId} {args : List V} {H H' : Hp} {v : V} (h : evF tb td fuel f args H = some (.ok v H')) : ACalls P G f args H fun v' H'' => v' = v /\ H'' = H' :=
 ACallsP.of ((evCall_ok htb htd (evC_ok hm htb htd fuel) h).mono (fun _ _ e => by injection e with e1 e2; exact ⟨e1.symm, e2.symm⟩) fun _ e => by cases e)
def evVal (tb : Nat -> Option SFn) (td : Nat -> Option SDef) (fuel : Nat) (f : FuncId) (args : List V) (H : Hp) : Option V := match evF tb td fuel f args H with
 | some (.ok v _) => some v
 | _ => none
theorem evVal_ok (hm : P.follows .mixedOrders = true) (htb : TabOk P G tb) (htd : DefOk P G td) {fuel : Nat} {f : FuncId} {args : List V} {H : Hp} {v : V} (h : evVal tb td fuel f args H = some v) : ACalls P G f args H fun v' _ => v' = v := by
 unfold evVal at h
 split at h
 ·rename_i v' H' hh
  obtain rfl := Option.some.inj h
  exact (evF_ok hm htb htd hh).mono fun _ _ h => h.1
 ·cases h
end
end Go.Ab

namespace Go.Ab
structure Ext (H H' : Hp) : Prop where
 get : ∀ b bk, H.get b = some bk -> H'.get b = some bk
 nx : H.nx <= H'.nx
theorem Ext.refl (H : Hp) : Ext H H := ⟨fun _ _ h => h, Nat.le_refl _⟩
theorem Ext.trans {H H' H'' : Hp} (h : Ext H H') (k : Ext H' H'') : Ext H H'' := ⟨fun b bk hb => k.get b bk (h.get b bk hb), Nat.le_trans h.nx k.nx⟩
theorem Ext.push {H H' : Hp} (hw : WF H') (h : Ext H H') (bk : B) : Ext H (H'.push bk) :=
 ⟨fun b k hb => by rw [Hp.get_push, if_neg (by have := hw b k (h.get b k hb); omega)]; exact h.get b k hb, by have := h.nx; simp; omega⟩
theorem Ext.skip {H H' : Hp} (h : Ext H H') (n : Nat) : Ext H (H'.skip n) := ⟨h.get, by have := h.nx; simp; omega⟩
theorem Ext.cell {H H' : Hp} (h : Ext H H') {b i : Nat} {c : C} (hc : H.cell b i = some c) : H'.cell b i = some c := by
 unfold Hp.cell at hc ⊢
 cases hb : H.get b with
 | none => simp [hb] at hc
 | some bk => rw [h.get b bk hb]; simpa [hb] using hc
theorem WF.push {H : Hp} (h : WF H) (bk : B) : WF (H.push bk) := fun b k hb => by
 rw [Hp.get_push] at hb
 split at hb
 ·rename_i e; simp; omega
 ·have := h b k hb; simp; omega
theorem WF.skip {H : Hp} (h : WF H) (n : Nat) : WF (H.skip n) := fun b k hb => by have := h b k hb; simp; omega
theorem WF.fresh {H : Hp} (h : WF H) {b : Nat} (hb : H.nx <= b) : H.get b = none := by
 cases hg : H.get b with
 | none => rfl
 | some k => have := h b k hg; omega
theorem loads_drop {H : Hp} {b : Nat} : ∀ {m o n : Nat} {l : List C}, H.loads b o n = some l -> m <= n -> H.loads b (o + m) (n - m) = some (l.drop m)
 | 0, o, n, l, h, _ => by simpa using h
 | m + 1, o, 0, l, h, hm => by omega
 | m + 1, o, n + 1, l, h, hm => by
  simp only [Hp.loads] at h
  split at h
  ·cases h
  ·split at h
   ·cases h
   ·rename_i c _ l' hl'
    obtain rfl := Option.some.inj h
    have := loads_drop (m := m) hl' (by omega)
    rw [show o + (m + 1) = o + 1 + m by omega, show n + 1 - (m + 1) = n - m by omega]
    simpa using this
theorem loads_take {H : Hp} {b : Nat} : ∀ {m o n : Nat} {l : List C}, H.loads b o n = some l -> m <= n -> H.loads b o m = some (l.take m)
 | 0, o, n, l, h, _ => by simp [Hp.loads]
 | m + 1, o, 0, l, h, hm => by omega
 | m + 1, o, n + 1, l, h, hm => by
  simp only [Hp.loads] at h ⊢
  split at h
  ·cases h
  ·rename_i c hc
   split at h
   ·cases h
   ·rename_i l' hl'
    obtain rfl := Option.some.inj h
    simp [loads_take (m := m) hl' (by omega)]
theorem loads_at {H : Hp} {b o n i k : Nat} {l : List C} (h : H.loads b o n = some l) (hk : i + k <= n) : H.loads b (o + i) k = some ((l.drop i).take k) :=
 loads_take (loads_drop h (by omega)) (by omega)
theorem loads_cell {H : Hp} {b o n i : Nat} {l : List C} (h : H.loads b o n = some l) (hi : i < n) : H.cell b (o + i) = l[i]? := by
 have := loads_at (i := i) (k := 1) h (by omega)
 simp only [Hp.loads] at this
 cases hc : H.cell b (o + i) with
 | none => simp [hc] at this
 | some c =>
  simp only [hc, Option.some.injEq] at this
  have hl : i < l.length := by rw [loads_len h]; exact hi
  have h2 : (List.take 1 (List.drop i l))[0]? = some l[i] := by rw [List.drop_eq_getElem_cons hl]; simp
  rw [<- this] at h2
  simp at h2
  rw [List.getElem?_eq_getElem hl, h2]
theorem loads_row {H : Hp} {b : Nat} {cs : List C} {rw : Bool} (h : H.get b = some (.row cs.length cs .lf rw)) : H.loads b 0 cs.length = some cs := by
 have key : ∀ (m o : Nat), o + m = cs.length -> H.loads b o m = some (cs.drop o) := by
  intro m
  induction m with
  | zero => intro o ho; simp only [Hp.loads]; rw [List.drop_of_length_le (by omega)]
  | succ m ih =>
   intro o ho
   have hlt : o < cs.length := by omega
   have hc : H.cell b o = some cs[o] := by
    simp only [Hp.cell, h, Option.bind_some, B.cell, hlt, if_true, T.get_lf, Option.getD_none, Nat.mod_eq_of_lt hlt]
    simp [List.getD_eq_getElem?_getD, hlt]
   simp only [Hp.loads, hc, ih (o + 1) (by omega)]
   rw [List.drop_eq_getElem_cons hlt]
 simpa using key cs.length 0 (by omega)
@[simp] theorem Hp.loads_skip (H : Hp) (k : Nat) : ∀ (n b o : Nat), (H.skip k).loads b o n = H.loads b o n
 | 0, _, _ => rfl
 | n + 1, b, o => by
  simp only [Hp.loads]
  rw [Hp.loads_skip H k n b (o + 1)]
  rfl
@[simp] theorem Hp.cell_skip (H : Hp) (k b i : Nat) : (H.skip k).cell b i = H.cell b i := rfl
def Row (H : Hp) (b : Nat) (l : List C) : Prop := (∃ z m, H.get b = some (.row l.length z m true)) /\ H.loads b 0 l.length = some l
theorem loads_congr {H H' : Hp} {b : Nat} (h : H'.get b = H.get b) : ∀ (n o : Nat), H'.loads b o n = H.loads b o n
 | 0, _ => rfl
 | n + 1, o => by
  have hc : H'.cell b o = H.cell b o := by unfold Hp.cell; rw [h]
  simp only [Hp.loads, hc, loads_congr h n (o + 1)]
theorem Row.same {H H' : Hp} {b : Nat} {l : List C} (h : Row H b l) (hg : H'.get b = H.get b) : Row H' b l := ⟨by rw [hg]; exact h.1, by rw [loads_congr hg]; exact h.2⟩
theorem Row.mut {H : Hp} {b : Nat} {l : List C} (h : Row H b l) : H.mutRow b = true := by obtain ⟨⟨z, m, hg⟩, _⟩ := h; simp [Hp.mutRow, hg]
theorem Row.new {H : Hp} (l : List C) : Row (H.push (.row l.length l .lf true)) H.nx l :=
 ⟨⟨l, .lf, by rw [Hp.get_push, if_pos rfl]⟩, loads_row (rw := true) (by rw [Hp.get_push, if_pos rfl])⟩
theorem loads_set {H : Hp} {b : Nat} {N : Nat} {z : List C} {m : T C} {i : Nat} {c : C} (hg : H.get b = some (.row N z m true)) (hi : i < N) : ∀ {n o : Nat} {l : List C}, H.loads b o n = some l ->
  (H.add b (.row N z (m.set i (some c)) true)).loads b o n = some (if o <= i then l.set (i - o) c else l)
 | 0, o, l, h => by
  simp only [Hp.loads, Option.some.injEq] at h ⊢
  subst h; simp
 | n + 1, o, l, h => by
  simp only [Hp.loads] at h ⊢
  split at h
  ·cases h
  ·rename_i c0 hc0
   split at h
   ·cases h
   ·rename_i l' hl'
    obtain rfl := Option.some.inj h
    have hcell : (H.add b (.row N z (m.set i (some c)) true)).cell b o = some (if o = i then c else c0) := by
     simp only [Hp.cell, Hp.get_add_self, Option.bind_some, row_set hi]
     split
     ·rfl
     ·simpa [Hp.cell, hg] using hc0
    rw [hcell]
    simp only
    rw [loads_set hg hi hl']
    by_cases e1 : o = i
    ·subst e1
     rw [if_neg (by omega)]
     simp
    ·by_cases e2 : o <= i
     ·rw [if_pos (by omega), if_neg e1, if_pos e2, show i - o = (i - (o + 1)) + 1 by omega]
      simp
     ·rw [if_neg (by omega), if_neg e1, if_neg e2]
theorem Row.store {H : Hp} {b : Nat} {l : List C} (h : Row H b l) {i : Nat} (hi : i < l.length) (c : C) :
  ∃ H', H.store b i c = some H' /\ Row H' b (l.set i c) /\ (∀ b', b' ≠ b -> H'.get b' = H.get b') /\ H'.nx = H.nx := by
 obtain ⟨⟨z, m, hg⟩, hl⟩ := h
 refine ⟨_, by simp only [Hp.store, hg, hi, if_true]; rfl, ⟨⟨z, m.set i (some c), by simp⟩, ?_⟩, fun b' hb' => Hp.get_add_ne _ _ hb', rfl⟩
 rw [List.length_set, loads_set hg hi hl]
 simp
def setL (l : List C) (i : Nat) : List C -> List C
 | [] => l
 | c :: cs => setL (l.set i c) (i + 1) cs
theorem setL_len : ∀ (cs l : List C) (i : Nat), (setL l i cs).length = l.length
 | [], _, _ => rfl
 | c :: cs, l, i => by rw [setL, setL_len]; simp
theorem Row.stores : ∀ {cs : List C} {H : Hp} {b : Nat} {l : List C}, Row H b l -> ∀ {i : Nat}, i + cs.length <= l.length ->
  ∃ H', H.stores b i cs = some H' /\ Row H' b (setL l i cs) /\ (∀ b', b' ≠ b -> H'.get b' = H.get b') /\ H'.nx = H.nx
 | [], H, b, l, h, i, _ => ⟨H, rfl, h, fun _ _ => rfl, rfl⟩
 | c :: cs, H, b, l, h, i, hi => by
  simp only [List.length_cons] at hi
  obtain ⟨H1, h1, h2, h3, h4⟩ := h.store (i := i) (by omega) c
  obtain ⟨H2, g1, g2, g3, g4⟩ := Row.stores (cs := cs) h2 (i := i + 1) (by simp; omega)
  exact ⟨H2, by simp only [Hp.stores, h1, g1], g2, fun b' hb' => (g3 b' hb').trans (h3 b' hb'), by rw [g4, h4]⟩
end Go.Ab

namespace Go.Ab
namespace T
variable {α β : Type}
def bindT (f : α -> Option β) : T α -> T β
 | lf => lf
 | nd v l r => nd (v.bind f) (bindT f l) (bindT f r)
theorem get_bindT (f : α -> Option β) : ∀ (t : T α) (n : Nat), (t.bindT f).get n = (t.get n).bind f
 | lf, _ => rfl
 | nd v l r, n => by
  simp only [bindT, get_nd]
  split
  ·rfl
  ·split
   ·exact get_bindT f l _
   ·exact get_bindT f r _
def over : T α -> T α -> T α
 | lf, t => t
 | nd v l r, lf => nd v l r
 | nd v l r, nd v' l' r' => nd (v.or v') (over l l') (over r r')
theorem get_over : ∀ (t t' : T α) (n : Nat), (t.over t').get n = (t.get n).or (t'.get n)
 | lf, _, _ => by simp [over]
 | nd v l r, lf, n => by simp [over]
 | nd v l r, nd v' l' r', n => by
  simp only [over, get_nd]
  split
  ·rfl
  ·split
   ·exact get_over l l' _
   ·exact get_over r r' _
end T
def B.ro : B -> Option B
 | .row n z m _ => some (.row n z m false)
 | .mp _ => none
 | .lp .. => none
 | .st .. => none
 | .it .. => none
 | .tr _ l => some (.row l.length l .lf false)
theorem B.row_cell (l : List C) (i : Nat) : (B.row l.length l .lf false).cell i = l[i]? := by
 simp only [B.cell, T.get_lf, Option.getD_none]
 split
 ·rename_i h
  rw [Nat.mod_eq_of_lt h, List.getElem?_eq_getElem h, List.getD_eq_getElem?_getD, List.getElem?_eq_getElem h]
  rfl
 ·rename_i h
  exact (List.getElem?_eq_none (by omega)).symm
def Hp.ro (H : Hp) : Hp := ⟨H.m.bindT B.ro, H.nx⟩
theorem Hp.get_ro (H : Hp) (b : Nat) : H.ro.get b = (H.get b).bind B.ro := T.get_bindT _ _ _
@[simp] theorem Hp.nx_ro (H : Hp) : H.ro.nx = H.nx := rfl
theorem B.ro_mut {x y : B} (h : x.ro = some y) : y.mut = false := by
 cases x with
 | row n z m rw => simp only [B.ro, Option.some.injEq] at h; subst h; rfl
 | tr t l => simp only [B.ro, Option.some.injEq] at h; subst h; rfl
 | mp es => cases h
 | lp => cases h
 | st => cases h
 | it => cases h
theorem B.ro_cell {x y : B} (h : x.ro = some y) (i : Nat) : y.cell i = x.cell i := by
 cases x with
 | row n z m rw => simp only [B.ro, Option.some.injEq] at h; subst h; rfl
 | tr t l => simp only [B.ro, Option.some.injEq] at h; subst h; exact B.row_cell l i
 | mp es => cases h
 | lp => cases h
 | st => cases h
 | it => cases h
theorem Hp.cell_ro (H : Hp) (b i : Nat) : H.ro.cell b i = H.cell b i := by
 unfold Hp.cell
 rw [Hp.get_ro]
 cases h : H.get b with
 | none => rfl
 | some x =>
  cases x with
  | row n z m rw => rfl
  | tr t l => exact B.row_cell l i
  | mp es => rfl
  | lp => rfl
  | st => rfl
  | it => rfl
theorem Hp.ro_mut {H : Hp} {b : Nat} {bk : B} (h : H.ro.get b = some bk) : bk.mut = false := by
 rw [Hp.get_ro, Option.bind_eq_some_iff] at h
 obtain ⟨x, _, hx⟩ := h
 exact B.ro_mut hx
def Le (H H' : Hp) : Prop := ∀ b i c, H.cell b i = some c -> H'.cell b i = some c
theorem Ext.le {H H' : Hp} (h : Ext H H') : Le H H' := fun _ _ _ hc => h.cell hc
theorem Le.ro (H : Hp) : Le H H.ro := fun b i c h => by rw [Hp.cell_ro]; exact h
theorem Le.loads {H H' : Hp} (h : Le H H') : ∀ {n b o : Nat} {l : List C}, H.loads b o n = some l -> H'.loads b o n = some l
 | 0, _, _, _, hl => hl
 | n + 1, b, o, l, hl => by
  simp only [Hp.loads] at hl ⊢
  cases hc : H.cell b o with
  | none => simp [hc] at hl
  | some c =>
   simp only [hc] at hl
   simp only [h _ _ _ hc]
   cases hr : H.loads b (o + 1) n with
   | none => simp [hr] at hl
   | some r => simp only [hr] at hl; simp only [h.loads hr]; exact hl
def C.closed : C -> Bool
 | .bool _ => true
 | .int _ _ => true
 | .str _ => true
 | .nilp => true
 | .nils => true
 | .nilm => true
 | .nilf => true
 | .fn _ caps => caps.isEmpty
 | .ifa => true
 | .nili => true
 | .anyi => true
 | _ => false
def V.closed1 : V -> Bool
 | .one c => c.closed
 | .agg l => l.all C.closed
 | .tup _ => false
def V.closed : V -> Bool
 | .one c => c.closed
 | .agg l => l.all C.closed
 | .tup l => l.all V.closed1
section
variable {μ μ' : Nat -> Pl} {K K' : Nat -> Prop}
theorem RC.closed {c : C} {x : Value} (hc : c.closed = true) (h : RC μ K c x) : RC μ' K' c x := by
 cases c with
 | ptr b o => cases hc
 | slc b o len cap esz ex => cases hc
 | map b => cases hc
 | yld b => cases hc
 | bm f b o => cases hc
 | fn f caps =>
  simp only [C.closed, List.isEmpty_iff] at hc
  subst hc
  exact ⟨fun p hp => (by cases hp), h.2⟩
 | _ => exact h
theorem RCs.closed : ∀ {l : List C} {xs : List Value}, l.all C.closed = true -> All2 (RC μ K) l xs -> All2 (RC μ' K') l xs
 | [], [], _, _ => trivial
 | _ :: _, _ :: _, hc, hh => by
  simp only [List.all_cons, Bool.and_eq_true] at hc
  exact ⟨RC.closed hc.1 hh.1, RCs.closed hc.2 hh.2⟩
 | [], _ :: _, _, hh => hh.elim
 | _ :: _, [], _, hh => hh.elim
theorem RV1.closed {v : V} {x : Value} (hc : v.closed1 = true) (h : RV1 μ K v x) : RV1 μ' K' v x := by
 cases v with
 | one c => exact RC.closed hc h
 | agg l => obtain ⟨xs, hx, ha⟩ := h; exact ⟨xs, hx, RCs.closed hc ha⟩
 | tup l => exact h.elim
theorem RV1s.closed : ∀ {l : List V} {xs : List Value}, l.all V.closed1 = true -> All2 (RV1 μ K) l xs -> All2 (RV1 μ' K') l xs
 | [], [], _, _ => trivial
 | _ :: _, _ :: _, hc, hh => by
  simp only [List.all_cons, Bool.and_eq_true] at hc
  exact ⟨RV1.closed hc.1 hh.1, RV1s.closed hc.2 hh.2⟩
 | [], _ :: _, _, hh => hh.elim
 | _ :: _, [], _, hh => hh.elim
theorem RV.closed {v : V} {x : Value} (hc : v.closed = true) (h : RV μ K v x) : RV μ' K' v x := by
 cases v with
 | one c => exact RC.closed hc h
 | agg l => obtain ⟨xs, hx, ha⟩ := h; exact ⟨xs, hx, RCs.closed hc ha⟩
 | tup l => obtain ⟨xs, hx, ha⟩ := h; exact ⟨xs, hx, RV1s.closed hc ha⟩
theorem RVs.closed : ∀ {l : List V} {xs : List Value}, l.all V.closed = true -> All2 (RV μ K) l xs -> All2 (RV μ' K') l xs
 | [], [], _, _ => trivial
 | _ :: _, _ :: _, hc, hh => by
  simp only [List.all_cons, Bool.and_eq_true] at hc
  exact ⟨RV.closed hc.1 hh.1, RVs.closed hc.2 hh.2⟩
 | [], _ :: _, _, hh => hh.elim
 | _ :: _, [], _, hh => hh.elim
end
section
variable {P : Program} {G : Nat}
theorem Rel.toRo {μ : Nat -> Pl} {K : Nat -> Prop} {H : Hp} {w : World} (hR : Rel G μ K H w) : Rel G μ K H.ro w := by
 refine ⟨fun b bk h => ?_, hR.lt, fun b bk h => ?_, fun b b' bk bk' h _ hm => ?_, hR.glob⟩
 ·rw [Hp.get_ro, Option.bind_eq_some_iff] at h
  obtain ⟨x, hx, _⟩ := h
  exact hR.dom b x hx
 ·rw [Hp.get_ro, Option.bind_eq_some_iff] at h
  obtain ⟨x, hx, h⟩ := h
  have hb := hR.blk b x hx
  cases x with
  | mp es => cases h
  | lp => cases h
  | st => cases h
  | it => cases h
  | row n z m rw =>
   simp only [B.ro, Option.some.injEq] at h
   subst h
   obtain ⟨cs, t, fz, h1, h2, h3, h4, h5⟩ := hb
   exact ⟨cs, t, fz, h1, h2, h3, fun h => (by cases h), fun i c hc => h5 i c hc⟩
  | tr t l =>
   simp only [B.ro, Option.some.injEq] at h
   subst h
   obtain ⟨cs, u, h1, h2, h3, h4, h5⟩ := hb
   exact ⟨cs, t, (0, 0), h1, h2, by omega, fun h => (by cases h), fun i c hc => by
    rw [B.row_cell] at hc
    obtain ⟨x, hx, hr⟩ := h5 i c hc
    exact ⟨x, by rw [h3, Nat.zero_add]; exact hx, hr⟩⟩
 ·rw [Hp.ro_mut h] at hm; cases hm
theorem ACalls.sub {f : FuncId} {args : List V} {H1 H : Hp} {R : V -> Hp -> Prop} (h : ACalls P G f args H1 R) (hargs : args.all V.closed = true) (hG : G <= H1.nx) (hw : WF H1)
  (hsub : ∀ b bk, H1.get b = some bk -> H.get b = some bk /\ bk.mut = false /\ ∀ i c, bk.cell i = some c -> c.closed = true) (hc : ∀ v H', R v H' -> v.closed = true) :
  ACalls P G f args H fun v H' => (∃ H1, R v H1) /\ H' = H := by
 intro μ K w xs hR ha
 have hR1 : Rel G μ (fun b => b < H1.nx /\ K b) H1 w := by
  refine ⟨fun b bk hb => ⟨hw b bk hb, hR.dom b bk (hsub b bk hb).1⟩, fun b hb => hb.1, fun b bk hb => ?_, fun b b' bk bk' hb _ hm => ?_, fun g hg => ⟨⟨Nat.lt_of_lt_of_le hg hG, (hR.glob g hg).1⟩, (hR.glob g hg).2⟩⟩
  ·obtain ⟨g1, g2, g3⟩ := hsub b bk hb
   have hb' := hR.blk b bk g1
   cases bk with
   | mp es => cases g2
   | lp => cases g2
   | st => cases g2
   | it => cases g2
   | tr => cases g2
   | row n z m rw =>
    obtain ⟨cs, t, fz, e1, e2, e3, e4, e5⟩ := hb'
    exact ⟨cs, t, fz, e1, e2, e3, e4, fun i c hcc => by
     obtain ⟨x, hx, hr⟩ := e5 i c hcc
     exact ⟨x, hx, hr.closed (g3 i c hcc)⟩⟩
  ·rw [(hsub b bk hb).2.1] at hm; cases hm
 refine (h μ _ w xs hR1 (RVs.closed hargs ha)).mono ?_
 rintro e w' ⟨x, rfl, v, H', μ', K', h1, h2, h3, h4⟩
 have hkeep : ∀ i, i < w.heap.size -> w'.heap[i]? = w.heap[i]? := fun i hi => h4.keep i hi fun b bk hb hm => by rw [(hsub b bk hb).2.1] at hm; cases hm
 refine ⟨x, rfl, v, H, μ, K, ⟨⟨H', h1⟩, rfl⟩, h2.closed (hc v H' h1), ⟨hR.dom, hR.lt, fun b bk hb => ?_, hR.inj, hR.glob⟩, ?_⟩
 ·rw [hkeep _ (hR.blk_lt hb)]; exact hR.blk b bk hb
 ·have r := Fr.refl hR
  exact ⟨h4.same, h4.size, fun i hi _ => hkeep i hi, r.img, r.newmut, r.mu, r.kk, r.knew, r.nx, r.none, r.stay, r.ro⟩
def Hp.over (H H1 : Hp) : Hp := ⟨H.m.over H1.m, H1.nx⟩
theorem Hp.get_over (H H1 : Hp) (b : Nat) : (H.over H1).get b = (H.get b).or (H1.get b) := T.get_over _ _ _
theorem ACalls.grow {f : FuncId} {args : List V} {H : Hp} {R : V -> Hp -> Prop} (h : ACalls P G f args H.ro R) :
  ACalls P G f args H fun v H' => ∃ H1, R v H1 /\ H' = H.over H1 /\ H.nx <= H1.nx /\ (∀ b bk, H.get b = some bk -> H'.get b = some bk) /\ (∀ b, H.nx <= b -> H'.get b = H1.get b) /\ Le H1 H' := by
 intro μ K w xs hR ha
 refine (h μ K w xs hR.toRo ha).mono ?_
 rintro e w' ⟨x, rfl, v, H1, μ', K', h1, h2, h3, h4⟩
 have hkeep : ∀ i, i < w.heap.size -> w'.heap[i]? = w.heap[i]? := fun i hi => h4.keep i hi fun b bk hb hm => by rw [Hp.ro_mut hb] at hm; cases hm
 have hold : ∀ b bk, H.get b = some bk -> (H.over H1).get b = some bk := fun b bk hb => by rw [Hp.get_over, hb]; rfl
 have hno : ∀ b, H.nx <= b -> H.get b = none := fun b hb => by
  cases hg : H.get b with
  | none => rfl
  | some k => have := hR.lt' b k hg; omega
 have hnew : ∀ b, H.nx <= b -> (H.over H1).get b = H1.get b := fun b hb => by rw [Hp.get_over, hno b hb]; rfl
 have hcase : ∀ b bk, (H.over H1).get b = some bk -> H.get b = some bk \/ (H.get b = none /\ H1.get b = some bk /\ H.nx <= b /\ (bk.mut = true \/ (K' b /\ w.heap.size <= (μ' b).blk)) /\ w.heap.size <= (μ' b).blk) := by
  intro b bk hb
  rw [Hp.get_over] at hb
  cases hg : H.get b with
  | some k => rw [hg] at hb; exact .inl hb
  | none =>
   rw [hg] at hb
   have hb : H1.get b = some bk := hb
   by_cases hlt : b < H.nx
   ·have := h4.none b hlt (by rw [Hp.get_ro, hg]; rfl)
    rw [this] at hb; cases hb
   ·have hm := h4.newmut b bk (by simpa using hlt) hb
    refine .inr ⟨rfl, hb, by omega, hm, ?_⟩
    rcases hm with hm|⟨_, hge⟩
    ·rcases h4.img b bk hb hm with ⟨b0, k0, g0, m0, _⟩|hge
     ·rw [Hp.ro_mut g0] at m0; cases m0
     ·exact hge
    ·exact hge
 have hmu : ∀ b bk, H.get b = some bk -> μ' b = μ b := fun b bk hb => h4.mu b (hR.dom b bk hb)
 refine ⟨x, rfl, v, H.over H1, μ', K', ⟨H1, h1, rfl, h4.nx, hold, hnew, fun b i c hc => ?_⟩, h2, ⟨fun b bk hb => ?_, h3.lt, fun b bk hb => ?_, fun b b' bk bk' hb hb' hm he => ?_, h3.glob⟩, ?_⟩
 ·unfold Hp.cell at hc ⊢
  rw [Hp.get_over]
  cases hg : H.get b with
  | none => exact hc
  | some k =>
   simp only [Option.some_or, Option.bind_some]
   cases hk : k.ro with
   | none =>
    have hrn : H.ro.get b = none := by rw [Hp.get_ro, hg]; exact hk
    rw [h4.none b (hR.lt' b k hg) hrn] at hc
    cases hc
   | some k' =>
    have hrn : H.ro.get b = some k' := by rw [Hp.get_ro, hg]; exact hk
    rw [h4.ro b k' hrn (B.ro_mut hk)] at hc
    simpa [B.ro_cell hk] using hc
 ·rcases hcase b bk hb with ho|⟨_, hn, _⟩
  ·exact h4.kk b (hR.dom b bk ho)
  ·exact h3.dom b bk hn
 ·rcases hcase b bk hb with ho|⟨_, hn, _⟩
  ·rw [hmu b bk ho, hkeep _ (hR.blk_lt ho)]
   exact (hR.blk b bk ho).mono h4.kk h4.mu
  ·exact h3.blk b bk hn
 ·rcases hcase b bk hb with ho|⟨_, hn, hge, hm1, hsz⟩
  ·rcases hcase b' bk' hb' with ho'|⟨_, hn', _, _, hsz'⟩
   ·rw [hmu b bk ho, hmu b' bk' ho'] at he
    exact hR.inj b b' bk bk' ho ho' hm he
   ·rw [hmu b bk ho] at he
    have := hR.blk_lt ho
    omega
  ·rcases hcase b' bk' hb' with ho'|⟨_, hn', _⟩
   ·rw [hmu b' bk' ho'] at he
    have := hR.blk_lt ho'
    omega
   ·exact h3.inj b b' bk bk' hn hn' hm he
 ·refine ⟨h4.same, h4.size, fun i hi _ => hkeep i hi, fun b bk hb hm => ?_, fun b bk hb hg => ?_, h4.mu, h4.kk, h4.knew, h4.nx, fun b hb hn => ?_, fun b bk bk' hb hb' => ?_, fun b bk hb _ => hold b bk hb⟩
  ·rcases hcase b bk hb with ho|⟨_, _, _, _, hsz⟩
   ·exact .inl ⟨b, bk, ho, hm, by rw [hmu b bk ho]⟩
   ·exact .inr hsz
  ·rcases hcase b bk hg with ho|⟨_, _, _, hm, _⟩
   ·have := hR.lt' b bk ho; omega
   ·exact hm
  ·cases hg : (H.over H1).get b with
   | none => rfl
   | some k =>
    rcases hcase b k hg with ho|⟨_, _, hge, _⟩
    ·rw [hn] at ho; cases ho
    ·omega
  ·rw [hold b bk hb] at hb'; rw [Option.some.inj hb']
end
end Go.Ab

namespace Go.Ab
abbrev Env := List (Nat × V)
def look : Env -> Nat -> Option V
 | [], _ => none
 | (k, v) :: E, n => match Nat.beq k n with
  | true => some v
  | false => look E n
def res (E : Env) : Opd -> Opd
 | .t n => match look E n with
  | some v => .c v
  | none => .t n
 | .c v => .c v
def mapPs (f : Opd -> Opd) : List (Nat × Nat × Opd) -> List (Nat × Nat × Opd)
 | [] => []
 | (a, b, x) :: r => (a, b, f x) :: mapPs f r
def psOpds : List (Nat × Nat × Opd) -> List Opd
 | [] => []
 | (_, _, x) :: r => x :: psOpds r
def mapO (f : Opd -> Opd) : Option Opd -> Option Opd
 | none => none
 | some x => some (f x)
def oOpds : Option Opd -> List Opd
 | none => []
 | some x => [x]
def PureOp.mp (f : Opd -> Opd) : PureOp -> PureOp
 | .mv x => .mv (f x)
 | .pick c a b => .pick (f c) (f a) (f b)
 | .build z ps => .build z (mapPs f ps)
 | .nilck x => .nilck (f x)
 | .bin op x y => .bin op (f x) (f y)
 | .beq n x y => .beq n (f x) (f y)
 | .eqs n ks x y => .eqs n ks (f x) (f y)
 | .neg x => .neg (f x)
 | .not x => .not (f x)
 | .conv k x => .conv k (f x)
 | .mkfn g caps => .mkfn g (caps.map f)
 | .slice e x lo hi mx => .slice e (f x) (mapO f lo) (mapO f hi) (mapO f mx)
 | .faddr o x => .faddr o (f x)
 | .field a o n x => .field a o n (f x)
 | .iaddr e x i => .iaddr e (f x) (f i)
 | .aaddr l e x i => .aaddr l e (f x) (f i)
 | .aindex l e a x i => .aindex l e a (f x) (f i)
 | .extract x i => .extract (f x) i
 | .len x => .len (f x)
 | .mm b x y => .mm b (f x) (f y)
 | .nileq n x => .nileq n (f x)
 | .cint n => .cint n
 | .sindex x i => .sindex (f x) (f i)
 | .slen x => .slen (f x)
 | .sslice x lo hi => .sslice (f x) (mapO f lo) (mapO f hi)
 | .cap x => .cap (f x)
 | .scat x y => .scat (f x) (f y)
 | .seq n x y => .seq n (f x) (f y)
 | .mkif x => .mkif (f x)
 | .ifeq n x => .ifeq n (f x)
 | .peq n x y => .peq n (f x) (f y)
 | .bm g x => .bm g (f x)
 | .sdata x => .sdata (f x)
 | .idxb x y => .idxb (f x) (f y)
 | .cnt x y => .cnt (f x) (f y)
def PureOp.opds : PureOp -> List Opd
 | .mv x => [x]
 | .pick c a b => [c, a, b]
 | .build _ ps => psOpds ps
 | .nilck x => [x]
 | .bin _ x y => [x, y]
 | .beq _ x y => [x, y]
 | .eqs _ _ x y => [x, y]
 | .neg x => [x]
 | .not x => [x]
 | .conv _ x => [x]
 | .mkfn _ caps => caps
 | .slice _ x lo hi mx => x :: (oOpds lo ++ (oOpds hi ++ oOpds mx))
 | .faddr _ x => [x]
 | .field _ _ _ x => [x]
 | .iaddr _ x i => [x, i]
 | .aaddr _ _ x i => [x, i]
 | .aindex _ _ _ x i => [x, i]
 | .extract x _ => [x]
 | .len x => [x]
 | .mm _ x y => [x, y]
 | .nileq _ x => [x]
 | .cint _ => []
 | .sindex x i => [x, i]
 | .slen x => [x]
 | .sslice x lo hi => x :: (oOpds lo ++ oOpds hi)
 | .cap x => [x]
 | .scat x y => [x, y]
 | .seq _ x y => [x, y]
 | .mkif x => [x]
 | .ifeq _ x => [x]
 | .peq _ x y => [x, y]
 | .bm _ x => [x]
 | .sdata x => [x]
 | .idxb x y => [x, y]
 | .cnt x y => [x, y]
section
variable {f : Opd -> Opd} {F F' : T V}
theorem fill_mp : ∀ {ps : List (Nat × Nat × Opd)} {z : List C}, (∀ o ∈ psOpds ps, (f o).ev F' = o.ev F) -> fillL F' z (mapPs f ps) = fillL F z ps
 | [], _, _ => rfl
 | (a, b, x) :: r, z, h => by
  simp only [mapPs, fillL, h x (by simp [psOpds])]
  split
  ·rfl
  ·split
   ·exact fill_mp fun o ho => h o (by simp [psOpds, ho])
   ·rfl
theorem caps_mp : ∀ {l : List Opd}, (∀ o ∈ l, (f o).ev F' = o.ev F) -> capsL F' (l.map f) = capsL F l
 | [], _ => rfl
 | x :: l, h => by
  simp only [List.map_cons, capsL, h x (by simp), caps_mp (l := l) fun o ho => h o (by simp [ho])]
theorem bound_mp {d y : Nat} {x : Option Opd} (h : ∀ o ∈ oOpds x, (f o).ev F' = o.ev F) : aBound F' d y (mapO f x) = aBound F d y x := by
 cases x with
 | none => rfl
 | some x => simp only [mapO, aBound, h x (by simp [oOpds])]
theorem sslice_mp {v : V} {lo hi : Option Opd} (h : ∀ o ∈ oOpds lo ++ oOpds hi, (f o).ev F' = o.ev F) : aSslice F' v (mapO f lo) (mapO f hi) = aSslice F v lo hi := by
 unfold aSslice
 have h1 : ∀ k y, aBound F' k y (mapO f lo) = aBound F k y lo := fun k y => by
  cases lo with
  | none => rfl
  | some x => simp only [mapO, aBound, h x (by simp [oOpds])]
 have h2 : ∀ k y, aBound F' k y (mapO f hi) = aBound F k y hi := fun k y => by
  cases hi with
  | none => rfl
  | some x => simp only [mapO, aBound, h x (by simp [oOpds])]
 simp only [h1, h2]
theorem slice_mp {e : Nat} {v : V} {lo hi mx : Option Opd} (h : ∀ o ∈ oOpds lo ++ (oOpds hi ++ oOpds mx), (f o).ev F' = o.ev F) : aSlice F' e v (mapO f lo) (mapO f hi) (mapO f mx) = aSlice F e v lo hi mx := by
 have h1 : ∀ d y, aBound F' d y (mapO f lo) = aBound F d y lo := fun _ _ => bound_mp fun o ho => h o (by simp [ho])
 have h2 : ∀ d y, aBound F' d y (mapO f hi) = aBound F d y hi := fun _ _ => bound_mp fun o ho => h o (by simp [ho])
 have h3 : ∀ d y, aBound F' d y (mapO f mx) = aBound F d y mx := fun _ _ => bound_mp fun o ho => h o (by simp [ho])
 have h4 : (mapO f mx).isSome = mx.isSome := by cases mx <;> rfl
 simp only [aSlice, h1, h2, h3, h4]
theorem pure_mp {op : PureOp} (h : ∀ o ∈ op.opds, (f o).ev F' = o.ev F) : aPure F' (op.mp f) = aPure F op := by
 cases op with
 | build z ps => simp only [PureOp.mp, aPure, fill_mp h]
 | mkfn g caps =>
  have h' : ∀ o ∈ caps, (f o).ev F' = o.ev F := h
  simp only [PureOp.mp, aPure, caps_mp h']
 | sslice x lo hi =>
  simp only [PureOp.mp, aPure]
  rw [h x (by simp [PureOp.opds]), sslice_mp fun o ho => h o (by simp only [PureOp.opds, List.mem_cons]; exact .inr ho)]
 | slice e x lo hi mx =>
  simp only [PureOp.mp, aPure]
  rw [h x (by simp [PureOp.opds]), slice_mp fun o ho => h o (by simp only [PureOp.opds, List.mem_cons]; exact .inr ho)]
 | _ => simp only [PureOp.opds, List.mem_cons, List.not_mem_nil, or_false, forall_eq_or_imp, forall_eq] at h <;> simp only [PureOp.mp, aPure, h]
end
section
variable {P : Program} {G base : Nat} {Q : Env -> Hp -> Prop} {r : List SOper} {ctx : Ctx} {E : Env} {H : Hp} {id : Nat} {dst : Option Nat} {aid : Option Nat} {ws : List Nat} {keep : Bool}
end
section
variable {P : Program} {G n : Nat} {Q : Exit -> Env -> Hp -> Prop} {E : Env} {H : Hp}
end
end Go.Ab
namespace Go.Ab
section
variable {P : Program} {G base : Nat} {Q : Env -> Hp -> Prop} {r : List SOper} {ctx : Ctx} {E : Env} {H H' : Hp} {id : Nat} {dst : Option Nat} {aid : Option Nat} {ws : List Nat} {keep : Bool}
end
end Go.Ab
namespace Go.Ab
section
variable {P : Program} {G base : Nat} {Q : Env -> Hp -> Prop} {r : List SOper} {ctx : Ctx} {E : Env} {H H' : Hp} {id : Nat} {dst : Option Nat} {aid : Option Nat} {ws : List Nat} {keep : Bool}
end
end Go.Ab
namespace Go.Ab
section
variable {P : Program} {G base : Nat} {Q : Env -> Hp -> Prop} {r : List SOper} {ctx : Ctx} {E : Env} {H H' : Hp} {id : Nat} {dst : Option Nat} {aid : Option Nat} {ws : List Nat} {keep : Bool}
end
end Go.Ab
namespace Go.Ab
theorem watch_all {ws : List Nat} {ctx : Ctx} {H : Hp} (h : ∀ x ∈ ctx, x.2 H) : watchOk ws ctx H := by
 cases ws with
 | nil => trivial
 | cons k r => exact fun j _ p hp => h (j, p) hp
section
variable {P : Program} {G base : Nat} {Q : Env -> Hp -> Prop} {r : List SOper} {ctx : Ctx} {E : Env} {H H' : Hp} {id : Nat} {dst : Option Nat} {aid : Option Nat} {ws : List Nat} {keep : Bool}
end
end Go.Ab
namespace Go.Ab
section
variable {P : Program} {G base : Nat} {Q : Env -> Hp -> Prop} {r : List SOper} {ctx : Ctx} {E : Env} {H H' : Hp} {id : Nat} {dst : Option Nat} {aid : Option Nat} {ws : List Nat} {keep : Bool}
end
end Go.Ab
namespace Go.Ab
section
variable {P : Program} {G base : Nat} {Q : Env -> Hp -> Prop} {r : List SOper} {ctx : Ctx} {E : Env} {H H' : Hp} {id : Nat} {dst : Option Nat} {aid : Option Nat} {ws : List Nat} {keep : Bool}
end
end Go.Ab

namespace Go.Ab
inductive FD where
 | c (x : C)
 | sl (esz n : Nat) (l : List FD)
inductive DC where
 | f (d : FD)
 | g (b o : Nat)
 | ptr (k o : Nat)
 | own (k o n esz : Nat)
 | fptr (l : List FD)
 | fn (f : FuncId) (caps : List (Nat × Nat))
 | any
 | trow (k i o n : Nat)
 | tptr (k i o : Nat)
 | om (k : Nat)
 | yl (k : Nat)
 /-- a function whose variables are no more written -/
 | fz (f : FuncId) (ls : List (List FD))
inductive DV where
 | one (c : DC)
 | agg (l : List DC)
 | tup (l : List DV)
abbrev DV.int (n : Int) : DV := .one (.f (.c (.int .i64 n)))
abbrev DV.bool (b : Bool) : DV := .one (.f (.c (.bool b)))
abbrev DV.undef : DV := .tup []
inductive ME where
 | row (r : List FD)
 | out (c : DC)
inductive Sh where
 | m (ks : Nat)
 | lp (st : LoopState) (j : Option Code) (f : FuncId) (n : Nat) (ts : List Nat) (ps : List Nat) (sg bd : Code)
 /-- a map with structures as keys, whole -/
 | st (es : List (V × V × Nat)) (clk : Nat)
 /-- an iteration over one; its one cell is the map -/
 | it (since : Nat) (seen : List Nat) (last : Nat)
 /-- a map with points as keys: these with their stamps; its cells are the values -/
 | sm (ks : List (Int × Int × Nat)) (clk : Nat)
inductive Bk where
 | cells (l : List DC)
 | data (l : List FD)
 | tree (rows : List (List FD))
 | mp (ks : Sh) (l : List DC)
 | mt (es : List (Int × ME))
inductive Slot where
 | nil
 | blk (b N : Nat)
inductive RF (Z : Nat -> Prop) (H : Hp) : FD -> C -> Prop where
 | c (x : C) : x.closed = true -> RF Z H (.c x) x
 | nil (esz : Nat) : RF Z H (.sl esz 0 []) .nils
 | sl {esz n b o cap : Nat} {ex : Bool} {l : List FD} {cs : List C} : (0 < n * esz -> Z b) -> l.length = n * esz -> n <= cap -> H.loads b o (n * esz) = some cs -> (∀ (i : Nat) d c, l[i]? = some d -> cs[i]? = some c -> RF Z H d c) -> RF Z H (.sl esz n l) (.slc b o n cap esz ex)
abbrev Key := Nat × Nat
abbrev Beta := Key -> Option Slot
def capsR (β : Beta) : List (Nat × Nat) -> List (Nat × Nat) -> Prop
 | [], [] => True
 | (k, o) :: r, (b, o') :: r' => o' = o /\ (∃ N, β (k, 0) = some (.blk b N)) /\ capsR β r r'
 | _, _ => False
def FzR (Z : Nat -> Prop) (H : Hp) : List (List FD) -> List (Nat × Nat) -> Prop
 | [], [] => True
 | l :: ls, p :: ps => (Z p.1 /\ ∃ cs, H.loads p.1 p.2 l.length = some cs /\ All2 (RF Z H) l cs) /\ FzR Z H ls ps
 | _, _ => False
def RD (Z : Nat -> Prop) (H : Hp) (β : Beta) : DC -> C -> Prop
 | .f d, c => RF Z H d c
 | .g b o, c => c = .ptr b o
 | .ptr k o, c => ∃ b N, β (k, 0) = some (.blk b N) /\ c = .ptr b o
 | .own k o n esz, c => (β (k, 0) = some .nil /\ n = 0 /\ o = 0 /\ c = .nils) \/ ∃ b N cap ex, β (k, 0) = some (.blk b N) /\ c = .slc b o n cap esz ex /\ n <= cap /\ o + cap * esz <= N
 | .fptr l, c => ∃ b o cs, c = .ptr b o /\ Z b /\ H.loads b o l.length = some cs /\ All2 (RF Z H) l cs
 | .fn f caps, c => ∃ caps', c = .fn f caps' /\ capsR β caps caps'
 | .any, _ => True
 | .tptr k i o, c => ∃ b N, β (k, i + 1) = some (.blk b N) /\ c = .ptr b o
 | .om k, c => ∃ b N, β (k, 0) = some (.blk b N) /\ c = .map b
 | .yl k, c => ∃ b N, β (k, 0) = some (.blk b N) /\ c = .yld b
 | .fz f ls, c => ∃ caps, c = .fn f caps /\ FzR Z H ls caps
 | .trow k i o n, c => (β (k, i + 1) = some .nil /\ n = 0 /\ o = 0 /\ c = .nils) \/ ∃ b N cap ex, β (k, i + 1) = some (.blk b N) /\ c = .slc b o n cap 1 ex /\ n <= cap /\ o + cap * 1 <= N
def RDV1 (Z : Nat -> Prop) (H : Hp) (β : Beta) : DV -> V -> Prop
 | .one d, v => ∃ c, v = .one c /\ RD Z H β d c
 | .agg l, v => ∃ cs, v = .agg cs /\ All2 (RD Z H β) l cs
 | .tup _, _ => False
def RDV (Z : Nat -> Prop) (H : Hp) (β : Beta) : DV -> V -> Prop
 | .tup l, v => ∃ vs, v = .tup vs /\ All2 (RDV1 Z H β) l vs
 | d, v => RDV1 Z H β d v
def Bk.rel (Z : Nat -> Prop) (H : Hp) (β : Beta) : Bk -> List C -> Prop
 | .cells l, cs => All2 (RD Z H β) l cs
 | .data l, cs => All2 (RF Z H) l cs
 | .tree _, _ => False
 | .mp _ l, cs => All2 (RD Z H β) l cs
 | .mt _, _ => False
def Bk.len : Bk -> Nat
 | .cells l => l.length
 | .data l => l.length
 | .tree rows => rows.length
 | .mp _ l => l.length
 | .mt es => es.length
def Bk.flat : Bk -> Bool
 | .tree _ => false
 | .mt _ => false
 | _ => true
def Bk.shape : Bk -> Option Sh
 | .mp ks _ => some ks
 | _ => none
def keyOk : Nat -> V -> Prop
 | 0, v => ∃ c, v = .one c
 | n + 1, v => ∃ l, v = .agg l /\ l.length = n + 1
def MF : List (V × V) -> List C
 | [] => []
 | (k, v) :: es => k.cells ++ v.cells ++ MF es
def TsR (F : T V) : List Nat -> List C -> Prop
 | [], [] => True
 | t :: ts, c :: cs => F.get t = some (.one c) /\ TsR F ts cs
 | _, _ => False
def SmR : List (Int × Int × Nat) -> List C -> List (V × V × Nat) -> Prop
 | [], [], [] => True
 | k :: ks, c :: cs, e :: es => e = (.agg [.int .i64 k.1, .int .i64 k.2.1], .one c, k.2.2) /\ SmR ks cs es
 | _, _, _ => False
def RowK : Option Sh -> Hp -> Nat -> List C -> Prop
 | none, H, b, cs => Row H b cs
 | some (.m ks), H, b, cs => ∃ es, H.get b = some (.mp es) /\ (∀ e ∈ es, keyOk ks e.1 /\ ∃ c, e.2 = .one c) /\ MF es = cs
 | some (.lp st j f n ts ps sg bd), H, b, cs => ∃ F, H.get b = some (.lp st j f n F ps.toArray sg bd) /\ TsR F ts cs
 | some (.st es clk), H, b, cs => ∃ _ : Unit, H.get b = some (.st es clk) /\ cs = []
 | some (.it since seen last), H, b, cs => ∃ mb, H.get b = some (.it mb since seen last) /\ cs = [.map mb]
 | some (.sm ks clk), H, b, cs => ∃ es, H.get b = some (.st es clk) /\ SmR ks cs es
def lenOk : Option Sh -> Nat -> Nat -> List C -> Prop
 | none, n, N, _ => n = N
 | some _, _, _, rest => rest = []
theorem lenOk.of {s : Option Sh} {n N : Nat} {rest : List C} (hs : s = none) (h : n = N) : lenOk s n N rest := by subst hs; exact h
theorem RowK.same {s : Option Sh} {H H' : Hp} {b : Nat} {cs : List C} (h : RowK s H b cs) (hg : H'.get b = H.get b) : RowK s H' b cs := by
 cases s with
 | none => exact Row.same h hg
 | some ks => cases ks <;> (obtain ⟨es, h1, h2⟩ := h; exact ⟨es, by rw [hg]; exact h1, h2⟩)
abbrev DEnv := List (Nat × DV)
abbrev Bx := List (Nat × Bk)
def lk {α : Type} : List (Nat × α) -> Nat -> Option α
 | [], _ => none
 | (k, v) :: E, n => match Nat.beq k n with
  | true => some v
  | false => lk E n
theorem beq_self (k : Nat) : Nat.beq k k = true := by simp
theorem beq_ne {k n : Nat} (h : k ≠ n) : Nat.beq k n = false := by
 cases hb : Nat.beq k n with
 | true => exact absurd (Nat.eq_of_beq_eq_true hb) h
 | false => rfl
theorem lk_cons {α : Type} (k : Nat) (v : α) (E : List (Nat × α)) (n : Nat) : lk ((k, v) :: E) n = if k = n then some v else lk E n := by
 simp only [lk]
 by_cases h : k = n
 ·subst h; simp
 ·rw [if_neg h, beq_ne h]
def era {α : Type} (k : Nat) : List (Nat × α) -> List (Nat × α)
 | [] => []
 | (j, v) :: E => match Nat.beq j k with
  | true => era k E
  | false => (j, v) :: era k E
theorem lk_era {α : Type} (k n : Nat) : ∀ E : List (Nat × α), lk (era k E) n = if n = k then none else lk E n
 | [] => by simp [era, lk]
 | (j, v) :: E => by
  simp only [era]
  by_cases h : j = k
  ·subst h
   rw [beq_self, lk_cons]
   simp only
   rw [lk_era j n E]
   by_cases h2 : n = j
   ·rw [if_pos h2, if_pos h2]
   ·rw [if_neg h2, if_neg h2, if_neg (fun h => h2 h.symm)]
  ·rw [beq_ne h]
   simp only
   rw [lk_cons, lk_cons, lk_era k n E]
   by_cases h2 : j = n
   ·rw [if_pos h2, if_neg (by omega), if_pos h2]
   ·rw [if_neg h2, if_neg h2]
def put {α : Type} (k : Nat) (v : α) : List (Nat × α) -> List (Nat × α)
 | [] => []
 | (j, u) :: E => match Nat.beq j k with
  | true => (j, v) :: E
  | false => (j, u) :: put k v E
theorem lk_put {α : Type} (k : Nat) (v : α) (n : Nat) : ∀ E : List (Nat × α), lk (put k v E) n = if n = k then (lk E n).map (fun _ => v) else lk E n
 | [] => by simp [put, lk]
 | (j, u) :: E => by
  simp only [put]
  by_cases h : j = k
  ·subst h
   rw [beq_self]
   simp only
   rw [lk_cons, lk_cons]
   by_cases h2 : n = j
   ·subst h2; simp
   ·rw [if_neg h2, if_neg (fun h => h2 h.symm), if_neg (fun h => h2 h.symm)]
  ·rw [beq_ne h]
   simp only
   rw [lk_cons, lk_cons, lk_put k v n E]
   by_cases h2 : j = n
   ·rw [if_pos h2, if_pos h2, if_neg (by omega)]
   ·rw [if_neg h2, if_neg h2]
def rowsV (k : Nat) : Nat -> List (List FD) -> List DC
 | _, [] => []
 | i, r :: rs => .trow k i 0 r.length :: rowsV k (i + 1) rs
def mtV (k : Nat) : Nat -> List (Int × ME) -> List DC
 | _, [] => []
 | i, (y, .row r) :: es => .f (.c (.int .i64 y)) :: .trow k i 0 r.length :: mtV k (i + 1) es
 | i, (y, .out c) :: es => .f (.c (.int .i64 y)) :: c :: mtV k (i + 1) es
def mtRow : Option (Int × ME) -> Option Bk
 | some (_, .row r) => some (.data r)
 | _ => none
def lk2 (S : Bx) : Key -> Option Bk
 | (k, 0) => match lk S k with
  | some (.tree rows) => some (.cells (rowsV k 0 rows))
  | some (.mt es) => some (.mp (.m 0) (mtV k 0 es))
  | o => o
 | (k, i + 1) => match lk S k with
  | some (.tree rows) => (rows[i]?).map .data
  | some (.mt es) => mtRow es[i]?
  | _ => none
theorem mtRow_at {o : Option (Int × ME)} {x : Bk} (h : mtRow o = some x) : ∃ y r, o = some (y, .row r) /\ x = .data r := by
 unfold mtRow at h
 split at h
 ·exact ⟨_, _, rfl, (Option.some.inj h).symm⟩
 ·cases h
def ME.map (f : DC -> DC) : ME -> ME
 | .row r => .row r
 | .out c => .out (f c)
def mtMap (f : DC -> DC) (es : List (Int × ME)) : List (Int × ME) := es.map fun e => (e.1, e.2.map f)
theorem mtRow_map (f : DC -> DC) (es : List (Int × ME)) (i : Nat) : mtRow (mtMap f es)[i]? = mtRow es[i]? := by
 unfold mtMap
 rw [List.getElem?_map]
 cases es[i]? with
 | none => rfl
 | some e => obtain ⟨y, e⟩ := e; cases e <;> rfl
theorem mtV_map (f : DC -> DC) (k k' : Nat) (hf : ∀ x, f (.f x) = .f x) (ht : ∀ i n, f (.trow k i 0 n) = .trow k' i 0 n) : ∀ (i : Nat) (es : List (Int × ME)), mtV k' i (mtMap f es) = (mtV k i es).map f
 | _, [] => rfl
 | i, (y, .row r) :: es => by
  have := mtV_map f k k' hf ht (i + 1) es
  simp only [mtMap, List.map_cons, ME.map, mtV, hf, ht] at this ⊢
  rw [this]
 | i, (y, .out c) :: es => by
  have := mtV_map f k k' hf ht (i + 1) es
  simp only [mtMap, List.map_cons, ME.map, mtV, hf] at this ⊢
  rw [this]
theorem rowsV_len (k : Nat) : ∀ (i : Nat) (rs : List (List FD)), (rowsV k i rs).length = rs.length
 | _, [] => rfl
 | i, _ :: rs => by simp [rowsV, rowsV_len k (i + 1) rs]
theorem rowsV_at (k : Nat) : ∀ (i : Nat) (rs : List (List FD)) (j : Nat), (rowsV k i rs)[j]? = (rs[j]?).map fun r => .trow k (i + j) 0 r.length
 | _, [], j => by simp [rowsV]
 | i, r :: rs, 0 => by simp [rowsV]
 | i, r :: rs, j + 1 => by
  simp only [rowsV, List.getElem?_cons_succ, rowsV_at k (i + 1) rs j]
  rw [show i + 1 + j = i + (j + 1) by omega]
theorem lk2_lk {S : Bx} {κ : Key} {x : Bk} (h : lk2 S κ = some x) : ∃ y, lk S κ.1 = some y := by
 obtain ⟨k, i⟩ := κ
 cases i with
 | zero =>
  simp only [lk2] at h
  cases hl : lk S k with
  | none => rw [hl] at h; cases h
  | some y => exact ⟨y, rfl⟩
 | succ i =>
  simp only [lk2] at h
  cases hl : lk S k with
  | none => rw [hl] at h; cases h
  | some y => exact ⟨y, rfl⟩
theorem lk2_of {S : Bx} {k : Nat} {x : Bk} (h : lk S k = some x) (hx : x.flat = true) : lk2 S (k, 0) = some x := by
 simp only [lk2, h]
 cases x with
 | tree rows => cases hx
 | cells l => rfl
 | data l => rfl
 | mp ks l => rfl
 | mt es => cases hx
theorem lk2_flat {S : Bx} {k i : Nat} {x y : Bk} (h : lk S k = some x) (hx : x.flat = true) (hy : lk2 S (k, i) = some y) : i = 0 /\ y = x := by
 cases i with
 | zero => rw [lk2_of h hx] at hy; exact ⟨rfl, (Option.some.inj hy).symm⟩
 | succ i =>
  simp only [lk2, h] at hy
  cases x with
  | tree rows => cases hx
  | cells l => cases hy
  | data l => cases hy
  | mp ks l => cases hy
  | mt es => cases hx
theorem lk2_congr {S S' : Bx} {κ : Key} (h : lk S κ.1 = lk S' κ.1) : lk2 S κ = lk2 S' κ := by
 obtain ⟨k, i⟩ := κ
 cases i with
 | zero => simp only [lk2]; rw [h]
 | succ i => simp only [lk2]; rw [h]
theorem lk2_none {S : Bx} {κ : Key} (h : lk S κ.1 = none) : lk2 S κ = none := by
 cases hl : lk2 S κ with
 | none => rfl
 | some x => obtain ⟨y, hy⟩ := lk2_lk hl; rw [h] at hy; cases hy
structure Par where
 P : Program
 G : Nat
 GH : Hp
 Z0 : Nat -> Prop
 lo : Nat
 anc : Nat
 β0 : Beta
 H1 : Hp
 /-- whose round it is -/
 ρ : Option Nat
abbrev Par.base (P : Program) (G : Nat) (GH : Hp) (Z0 : Nat -> Prop) (lo : Nat) : Par := ⟨P, G, GH, Z0, lo, 0, fun _ => none, ⟨.lf, 0⟩, none⟩
def Par.fix (p : Par) (b : Nat) (bk : B) : Prop := p.GH.get b = some bk \/ (p.Z0 b /\ p.H1.get b = some bk)
def BoxR (p : Par) (Z : Nat -> Prop) (H : Hp) (β : Beta) (x : Bk) : Slot -> Prop
 | .nil => x.len = 0
 | .blk b N => ¬ Z b /\ p.lo <= b /\ b < H.nx /\ ∃ cs rest, RowK x.shape H b (cs ++ rest) /\ lenOk x.shape (cs ++ rest).length N rest /\ x.rel Z H β cs
structure SR (p : Par) (Z : Nat -> Prop) (β : Beta) (H : Hp) (S : Bx) (nn : Nat) : Prop where
 wf : WF H
 lo : p.lo <= H.nx
 z : ∀ b, Z b -> b < H.nx
 zlo : ∀ b, Z b -> p.Z0 b \/ p.lo <= b
 zz : ∀ b, p.Z0 b -> Z b
 glob : ∀ b bk, p.fix b bk -> Z b /\ H.get b = some bk
 nk : ∀ κ : Key, nn <= κ.1 -> β κ = none
 bd : ∀ κ b N, β κ = some (.blk b N) -> b < H.nx
 box : ∀ κ x, lk2 S κ = some x -> ∃ s, β κ = some s /\ BoxR p Z H β x s
 inj : ∀ (κ κ' : Key) x x' b N N', lk S κ.1 = some x -> lk S κ'.1 = some x' -> β κ = some (.blk b N) -> β κ' = some (.blk b N') -> κ = κ'
 blo : ∀ κ b N, β κ = some (.blk b N) -> p.lo <= b
 anch : ∀ κ : Key, κ.1 < p.anc -> κ.2 = 0 -> β κ = p.β0 κ
 ancn : p.anc <= nn
def ER (Z : Nat -> Prop) (β : Beta) (H : Hp) (E : DEnv) (F : T V) : Prop := ∀ n d, lk E n = some d -> ∃ v, F.get n = some v /\ RDV Z H β d v
section
variable {Z Z' : Nat -> Prop} {H H' : Hp} {β β' : Beta}
def ZLe (Z : Nat -> Prop) (H : Hp) (Z' : Nat -> Prop) (H' : Hp) : Prop := ∀ b, Z b -> Z' b /\ ∀ i c, H.cell b i = some c -> H'.cell b i = some c
theorem ZLe.loads (h : ZLe Z H Z' H') {b : Nat} (hb : Z b) : ∀ {n o : Nat} {l : List C}, H.loads b o n = some l -> H'.loads b o n = some l
 | 0, _, _, hl => hl
 | n + 1, o, l, hl => by
  simp only [Hp.loads] at hl ⊢
  cases hc : H.cell b o with
  | none => simp [hc] at hl
  | some c =>
   simp only [hc] at hl
   simp only [(h b hb).2 _ _ hc]
   cases hr : H.loads b (o + 1) n with
   | none => simp [hr] at hl
   | some r => simp only [hr] at hl; simp only [h.loads hb hr]; exact hl
theorem RF.mono (h : ZLe Z H Z' H') {d : FD} {c : C} (hr : RF Z H d c) : RF Z' H' d c := by
 induction hr with
 | c x hx => exact .c x hx
 | nil e => exact .nil e
 | sl hz hl hn hld _ ih =>
  rename_i esz n _ _ _ _ _ _ _
  refine .sl (fun h0 => (h _ (hz h0)).1) hl hn ?_ ih
  by_cases h0 : 0 < n * esz
  ·exact h.loads (hz h0) hld
  ·have h1 : n * esz = 0 := by omega
   rw [h1] at hld ⊢
   exact hld
def BLe (β β' : Beta) : Prop := ∀ k s, β k = some s -> β' k = some s
theorem capsR.mono (hb : BLe β β') : ∀ {l l' : List (Nat × Nat)}, capsR β l l' -> capsR β' l l'
 | [], [], _ => trivial
 | (_, _) :: _, (_, _) :: _, ⟨h1, ⟨N, h2⟩, h3⟩ => ⟨h1, ⟨N, hb _ _ h2⟩, capsR.mono hb h3⟩
theorem FzR.mono (h : ZLe Z H Z' H') : ∀ {ls : List (List FD)} {ps : List (Nat × Nat)}, FzR Z H ls ps -> FzR Z' H' ls ps
 | [], [], _ => trivial
 | _ :: _, p :: _, ⟨⟨h1, cs, h2, h3⟩, h4⟩ => ⟨⟨(h p.1 h1).1, cs, h.loads h1 h2, h3.mono fun _ _ => RF.mono h⟩, FzR.mono h h4⟩
 | [], _ :: _, hh => hh.elim
 | _ :: _, [], hh => hh.elim
theorem RD.mono (h : ZLe Z H Z' H') (hb : BLe β β') {d : DC} {c : C} (hr : RD Z H β d c) : RD Z' H' β' d c := by
 cases d with
 | f d => exact RF.mono h hr
 | g b o => exact hr
 | ptr k o => obtain ⟨b, N, h1, h2⟩ := hr; exact ⟨b, N, hb _ _ h1, h2⟩
 | own k o n esz =>
  rcases hr with ⟨h1, h2⟩|⟨b, N, cap, ex, h1, h2⟩
  ·exact .inl ⟨hb _ _ h1, h2⟩
  ·exact .inr ⟨b, N, cap, ex, hb _ _ h1, h2⟩
 | fptr l => obtain ⟨b, o, cs, h1, h2, h3, h4⟩ := hr; exact ⟨b, o, cs, h1, (h b h2).1, h.loads h2 h3, h4.mono fun _ _ => RF.mono h⟩
 | fn f caps => obtain ⟨caps', h1, h2⟩ := hr; exact ⟨caps', h1, h2.mono hb⟩
 | any => trivial
 | om k => obtain ⟨b, N, h1, h2⟩ := hr; exact ⟨b, N, hb _ _ h1, h2⟩
 | yl k => obtain ⟨b, N, h1, h2⟩ := hr; exact ⟨b, N, hb _ _ h1, h2⟩
 | fz f ls => obtain ⟨caps, h1, h2⟩ := hr; exact ⟨caps, h1, h2.mono h⟩
 | tptr k i o => obtain ⟨b, N, h1, h2⟩ := hr; exact ⟨b, N, hb _ _ h1, h2⟩
 | trow k i o n =>
  rcases hr with ⟨h1, h2⟩|⟨b, N, cap, ex, h1, h2⟩
  ·exact .inl ⟨hb _ _ h1, h2⟩
  ·exact .inr ⟨b, N, cap, ex, hb _ _ h1, h2⟩
theorem RDV1.mono (h : ZLe Z H Z' H') (hb : BLe β β') {d : DV} {v : V} (hr : RDV1 Z H β d v) : RDV1 Z' H' β' d v := by
 cases d with
 | one d => obtain ⟨c, h1, h2⟩ := hr; exact ⟨c, h1, h2.mono h hb⟩
 | agg l => obtain ⟨c, h1, h2⟩ := hr; exact ⟨c, h1, h2.mono fun _ _ => RD.mono h hb⟩
 | tup l => exact hr.elim
theorem RDV.mono (h : ZLe Z H Z' H') (hb : BLe β β') {d : DV} {v : V} (hr : RDV Z H β d v) : RDV Z' H' β' d v := by
 cases d with
 | one d => exact RDV1.mono (d := .one d) h hb hr
 | agg l => exact RDV1.mono (d := .agg l) h hb hr
 | tup l => obtain ⟨vs, h1, h2⟩ := hr; exact ⟨vs, h1, h2.mono fun _ _ => RDV1.mono h hb⟩
theorem RDV.of1 {d : DV} {v : V} (h : RDV1 Z H β d v) : RDV Z H β d v := by
 cases d with
 | one c => exact h
 | agg l => exact h
 | tup l => exact h.elim
theorem Bk.rel_mono (h : ZLe Z H Z' H') (hb : BLe β β') {x : Bk} {cs : List C} (hr : x.rel Z H β cs) : x.rel Z' H' β' cs := by
 cases x with
 | cells l => exact All2.mono (fun _ _ => RD.mono h hb) hr
 | data l => exact All2.mono (fun _ _ => RF.mono h) hr
 | tree rows => exact hr.elim
 | mp ks l => exact All2.mono (fun _ _ => RD.mono h hb) hr
 | mt es => exact hr.elim
theorem Bk.rel_len {x : Bk} {cs : List C} (hr : x.rel Z H β cs) : x.len = cs.length := by
 cases x with
 | cells l => exact All2.len hr
 | data l => exact All2.len hr
 | tree rows => exact hr.elim
 | mp ks l => exact All2.len hr
 | mt es => exact hr.elim
theorem Bk.rel_flat {x : Bk} {cs : List C} (hr : x.rel Z H β cs) : x.flat = true := by
 cases x with
 | tree rows => exact hr.elim
 | mt es => exact hr.elim
 | _ => rfl
theorem ER.mono (h : ZLe Z H Z' H') (hb : BLe β β') {E : DEnv} {F : T V} (hr : ER Z β H E F) : ER Z' β' H' E F := fun n d hd => by
 obtain ⟨v, h1, h2⟩ := hr n d hd
 exact ⟨v, h1, h2.mono h hb⟩
theorem ZLe.refl (Z : Nat -> Prop) (H : Hp) : ZLe Z H Z H := fun _ h => ⟨h, fun _ _ h => h⟩
theorem ZLe.of_get (hz : ∀ b, Z b -> Z' b) (hg : ∀ b, Z b -> H'.get b = H.get b) : ZLe Z H Z' H' := fun b h => ⟨hz b h, fun i c hc => by unfold Hp.cell at hc ⊢; rw [hg b h]; exact hc⟩
theorem BLe.refl (β : Beta) : BLe β β := fun _ _ h => h
theorem ZLe.of_le (hz : ∀ b, Z b -> Z' b) (hl : Le H H') : ZLe Z H Z' H' := fun b h => ⟨hz b h, fun i c hc => hl b i c hc⟩
def setD (E : DEnv) : Option Nat -> DV -> DEnv
 | some d, v => (d, v) :: E
 | none, _ => E
theorem ER.set {E : DEnv} {F : T V} (h : ER Z β H E F) (d : Option Nat) {x : DV} {v : V} (hv : RDV Z H β x v) : ER Z β H (setD E d x) (setO F d v) := by
 cases d with
 | none => exact h
 | some d =>
  intro n y hy
  simp only [setD, lk_cons] at hy
  simp only [setO, T.get_set]
  split at hy
  ·rename_i e; subst e; rw [if_pos rfl]; obtain rfl := Option.some.inj hy; exact ⟨v, rfl, hv⟩
  ·rename_i e; rw [if_neg (fun h => e h.symm)]; exact h n y hy
def toC : C -> DC
 | .ptr b o => .g b o
 | .slc _ _ _ _ _ _ => .any
 | .map _ => .any
 | .yld _ => .any
 | .bm _ _ _ => .any
 | .fn f [] => .f (.c (.fn f []))
 | .fn _ _ => .any
 | c => .f (.c c)
def toD : V -> DV
 | .one c => .one (toC c)
 | .agg l => .agg (l.map toC)
 | .tup _ => .one .any
theorem toC_ok (c : C) : RD Z H β (toC c) c := by
 cases c with
 | fn f caps => cases caps with
  | nil => exact .c _ rfl
  | cons _ _ => trivial
 | ptr b o => rfl
 | slc => trivial
 | map => trivial
 | yld => trivial
 | bm => trivial
 | _ => exact .c _ rfl
theorem toCs_ok : ∀ l : List C, All2 (RD Z H β) (l.map toC) l
 | [] => trivial
 | c :: l => ⟨toC_ok c, toCs_ok l⟩
theorem toD_ok (v : V) (hv : isOne v = true) : RDV1 Z H β (toD v) v := by
 cases v with
 | one c => exact ⟨c, rfl, toC_ok c⟩
 | agg l => exact ⟨l, rfl, toCs_ok l⟩
 | tup l => cases hv
def ro (E : DEnv) : Opd -> Option DV
 | .t n => lk E n
 | .c (.one (.int k n)) => some (.one (.f (.c (.int k n))))
 | .c (.one (.bool b)) => some (.one (.f (.c (.bool b))))
 | .c (.one c) => some (.one (toC c))
 | .c (.agg l) => some (.agg (l.map toC))
 | .c (.tup _) => none
theorem ro_ok {E : DEnv} {F : T V} (h : ER Z β H E F) {o : Opd} {d : DV} (ho : ro E o = some d) : RDV Z H β d (o.ev F) := by
 cases o with
 | t n =>
  obtain ⟨v, h1, h2⟩ := h n d ho
  simp only [Opd.ev, h1, Option.getD_some]
  exact h2
 | c v =>
  cases v with
  | one c => cases c <;> (obtain rfl := Option.some.inj ho; exact RDV.of1 (toD_ok (.one _) rfl))
  | agg l => obtain rfl := Option.some.inj ho; exact RDV.of1 (toD_ok (.agg l) rfl)
  | tup l => cases ho
def exC : DC -> Option C
 | .f (.c x) => some x
 | _ => none
def exL : List DC -> Option (List C)
 | [] => some []
 | d :: l => match exC d, exL l with
  | some c, some r => some (c :: r)
  | _, _ => none
def exV : DV -> Option V
 | .one d => match exC d with
  | some c => some (.one c)
  | none => none
 | .agg l => match exL l with
  | some r => some (.agg r)
  | none => none
 | .tup _ => none
theorem exC_ok {d : DC} {x c : C} (h : exC d = some x) (hr : RD Z H β d c) : c = x := by
 cases d with
 | f d => cases d with
  | c y => obtain rfl := Option.some.inj h; cases hr; rfl
  | sl => cases h
 | _ => cases h
theorem exL_ok : ∀ {l : List DC} {xs cs : List C}, exL l = some xs -> All2 (RD Z H β) l cs -> cs = xs
 | [], xs, [], h, _ => by obtain rfl := Option.some.inj h; rfl
 | d :: l, xs, c :: cs, h, hr => by
  simp only [exL] at h
  split at h
  ·rename_i x r h1 h2
   obtain rfl := Option.some.inj h
   rw [exC_ok h1 hr.1, exL_ok h2 hr.2]
  ·cases h
 | [], _, _ :: _, _, hr => hr.elim
 | _ :: _, _, [], _, hr => hr.elim
theorem exV_ok {d : DV} {x v : V} (h : exV d = some x) (hr : RDV Z H β d v) : v = x := by
 cases d with
 | one d =>
  obtain ⟨c, rfl, hr⟩ := hr
  simp only [exV] at h
  split at h
  ·rename_i y hy; obtain rfl := Option.some.inj h; rw [exC_ok hy hr]
  ·cases h
 | agg l =>
  obtain ⟨c, rfl, hr⟩ := hr
  simp only [exV] at h
  split at h
  ·rename_i y hy; obtain rfl := Option.some.inj h; rw [exL_ok hy hr]
  ·cases h
 | tup l => cases h
end
end Go.Ab

namespace Go.Ab
def subL {α : Type} (l : List α) (o n : Nat) : Option (List α) := match Nat.ble (o + n) l.length with
 | true => some ((l.drop o).take n)
 | false => none
theorem subL_some {α : Type} {l r : List α} {o n : Nat} (h : subL l o n = some r) : o + n <= l.length /\ r = (l.drop o).take n := by
 unfold subL at h
 split at h
 ·rename_i e; exact ⟨Nat.le_of_ble_eq_true e, (Option.some.inj h).symm⟩
 ·cases h
theorem subL_of {α : Type} {l : List α} {o n : Nat} (h : o + n <= l.length) : subL l o n = some ((l.drop o).take n) := by
 unfold subL
 rw [Nat.ble_eq_true_of_le h]
def dPart (agg : Bool) (off n : Nat) (l : List DC) : Option DV :=
 match agg with
 | true => match subL l off n with
  | some r => some (.agg r)
  | none => none
 | false => match l[off]? with
  | some c => some (.one c)
  | none => none
def cellsD : DV -> Option (List DC)
 | .one c => some [c]
 | .agg l => some l
 | .tup _ => none
def fillD (E : DEnv) : List DC -> List (Nat × Nat × Opd) -> Option (List DC)
 | z, [] => some z
 | z, (off, size, x) :: r => match ro E x with
  | none => none
  | some d => match cellsD d with
   | none => none
   | some cs => match Nat.beq cs.length size, Nat.ble (off + size) z.length with
    | true, true => fillD E (z.take off ++ cs ++ z.drop (off + size)) r
    | _, _ => none
def exO (E : DEnv) (o : Opd) : Option V := match ro E o with
 | some d => exV d
 | none => none
def rx (E : DEnv) (o : Opd) : Opd := match exO E o with
 | some v => .c v
 | none => o
def isEx (E : DEnv) (o : Opd) : Bool := (exO E o).isSome
def allB {α : Type} (f : α -> Bool) : List α -> Bool
 | [] => true
 | x :: l => match f x with
  | true => allB f l
  | false => false
theorem allB_mem {α : Type} {f : α -> Bool} : ∀ {l : List α}, allB f l = true -> ∀ x ∈ l, f x = true
 | [], _, x, hx => by cases hx
 | y :: l, h, x, hx => by
  simp only [allB] at h
  split at h
  ·rename_i e
   rcases List.mem_cons.1 hx with rfl|hx
   ·exact e
   ·exact allB_mem h x hx
  ·cases h
def toD1 : Option V -> Option DV
 | some (.one (.int k n)) => some (.one (.f (.c (.int k n))))
 | some (.one (.bool b)) => some (.one (.f (.c (.bool b))))
 | some (.one c) => some (.one (toC c))
 | some (.agg l) => some (.agg (l.map toC))
 | _ => none
def dEx (E : DEnv) (op : PureOp) : Option DV := match allB (isEx E) op.opds with
 | true => toD1 (aPure .lf (op.mp (rx E)))
 | false => none
def capsD (E : DEnv) : List Opd -> Option (List (Nat × Nat))
 | [] => some []
 | x :: l => match ro E x, capsD E l with
  | some (.one (.ptr k o)), some r => some ((k, o) :: r)
  | _, _ => none
def idx (j : Int) (len : Nat) : Option Nat := match j with
 | .ofNat n => match Nat.blt n len with
  | true => some n
  | false => none
 | .negSucc _ => none
theorem idx_ok {j : Int} {len n : Nat} (h : idx j len = some n) : j = n /\ n < len := by
 unfold idx at h
 split at h
 ·split at h
  ·rename_i e
   obtain rfl := Option.some.inj h
   exact ⟨rfl, Nat.le_of_ble_eq_true e⟩
  ·cases h
 ·cases h
def lenD : DC -> Option DV
 | .own _ _ n _ => some (.int n)
 | .trow _ _ _ n => some (.int n)
 | .f (.sl _ n _) => some (.int n)
 | .f (.c .nils) => some (.int 0)
 | _ => none
def dPure (E : DEnv) : PureOp -> Option DV
 | .mv x => ro E x
 | .build z ps => match fillD E (z.map toC) ps with
  | some l => some (.agg l)
  | none => none
 | .nilck x => match ro E x with
  | some (.one (.ptr k o)) => some (.one (.ptr k o))
  | some (.one (.g b o)) => some (.one (.g b o))
  | some (.one (.fptr l)) => some (.one (.fptr l))
  | some (.one (.tptr k i o)) => some (.one (.tptr k i o))
  | some (.one (.fn f l)) => some (.one (.fn f l))
  | some (.one (.f (.c (.fn f l)))) => some (.one (.f (.c (.fn f l))))
  | _ => none
 | .mkfn f caps => match capsD E caps with
  | some [] => some (.one (.f (.c (.fn f []))))
  | some l => some (.one (.fn f l))
  | none => none
 | .faddr off x => match ro E x with
  | some (.one (.ptr k o)) => some (.one (.ptr k (o + off)))
  | some (.one (.g b o)) => some (.one (.g b (o + off)))
  | some (.one (.fptr l)) => some (.one (.fptr (l.drop off)))
  | _ => none
 | .field agg off n x => match ro E x with
  | some (.agg l) => dPart agg off n l
  | _ => none
 | .aaddr len esz x i => match ro E x, ro E i with
  | some (.one (.ptr k o)), some (.one (.f (.c (.int _ j)))) => match idx j len with
   | some n => some (.one (.ptr k (o + n * esz)))
   | none => none
  | some (.one (.fptr l)), some (.one (.f (.c (.int _ j)))) => match idx j len with
   | some n => some (.one (.fptr (l.drop (n * esz))))
   | none => none
  | some (.one (.g b o)), some (.one (.f (.c (.int _ j)))) => match idx j len with
   | some n => some (.one (.g b (o + n * esz)))
   | none => none
  | _, _ => none
 | .aindex len esz agg x i => match ro E x, ro E i with
  | some (.agg l), some (.one (.f (.c (.int _ j)))) => match idx j len with
   | some n => dPart agg (n * esz) esz l
   | none => none
  | _, _ => none
 | .extract x i => match ro E x with
  | some (.tup l) => l[i]?
  | _ => none
 | .len x => match ro E x with
  | some (.one d) => lenD d
  | _ => none
 | .nileq neg x => match ro E x with
  | some (.one (.f (.c .nils))) => some (.bool !neg)
  | some (.one (.f (.sl _ (_ + 1) _))) => some (.bool neg)
  | some (.one (.own _ _ (_ + 1) _)) => some (.bool neg)
  | _ => none
 | op => dEx E op
section
variable {Z : Nat -> Prop} {H : Hp} {β : Beta} {E : DEnv} {F : T V}
theorem rx_ok (h : ER Z β H E F) {o : Opd} (ho : isEx E o = true) : (rx E o).ev .lf = o.ev F := by
 unfold isEx at ho
 obtain ⟨v, hv⟩ := Option.isSome_iff_exists.1 ho
 simp only [rx, hv, Opd.ev]
 unfold exO at hv
 split at hv
 ·rename_i d hd
  exact (exV_ok hv (ro_ok h hd)).symm
 ·cases hv
theorem dEx_ok (h : ER Z β H E F) {op : PureOp} {d : DV} (hd : dEx E op = some d) : ∃ v, aPure F op = some v /\ RDV Z H β d v := by
 unfold dEx at hd
 split at hd
 ·rename_i hall
  rw [pure_mp (F := F) fun o ho => rx_ok h (allB_mem hall o ho)] at hd
  unfold toD1 at hd
  split at hd
  ·rename_i hc; obtain rfl := Option.some.inj hd; exact ⟨_, hc, _, rfl, .c _ rfl⟩
  ·rename_i hc; obtain rfl := Option.some.inj hd; exact ⟨_, hc, _, rfl, .c _ rfl⟩
  ·rename_i c _ _ hc; obtain rfl := Option.some.inj hd; exact ⟨_, hc, c, rfl, toC_ok c⟩
  ·rename_i l hc; obtain rfl := Option.some.inj hd; exact ⟨_, hc, l, rfl, toCs_ok l⟩
  ·cases hd
 ·cases hd
theorem dpart_ok {agg : Bool} {off n : Nat} {l : List DC} {cs : List C} (hr : All2 (RD Z H β) l cs) {d : DV} (hd : dPart agg off n l = some d) : ∃ v, aPart agg off n cs = some v /\ RDV Z H β d v := by
 unfold dPart at hd
 split at hd
 ·split at hd
  ·rename_i r hs
   obtain rfl := Option.some.inj hd
   obtain ⟨h1, rfl⟩ := subL_some hs
   refine ⟨.agg ((cs.drop off).take n), ?_, _, rfl, (hr.drop off).take n⟩
   simp only [aPart, if_true]
   rw [if_pos (by rw [<- hr.len]; exact h1)]
  ·cases hd
 ·split at hd
  ·rename_i c hc
   obtain rfl := Option.some.inj hd
   obtain ⟨x, hx, hrx⟩ := hr.at off c hc
   refine ⟨.one x, ?_, x, rfl, hrx⟩
   simp [aPart, hx]
  ·cases hd
theorem cellsD_ok {d : DV} {v : V} {l : List DC} (hr : RDV Z H β d v) (hl : cellsD d = some l) : ∃ cs, cells1 v = some cs /\ All2 (RD Z H β) l cs := by
 cases d with
 | one d => obtain ⟨c, rfl, hr⟩ := hr; obtain rfl := Option.some.inj hl; exact ⟨_, rfl, hr, trivial⟩
 | agg l' => obtain ⟨c, rfl, hr⟩ := hr; obtain rfl := Option.some.inj hl; exact ⟨_, rfl, hr⟩
 | tup l' => cases hl
theorem fillD_ok (h : ER Z β H E F) : ∀ {ps : List (Nat × Nat × Opd)} {z l : List DC} {zs : List C}, All2 (RD Z H β) z zs -> fillD E z ps = some l -> ∃ cs, fillL F zs ps = some cs /\ All2 (RD Z H β) l cs
 | [], z, l, zs, hz, hl => by obtain rfl := Option.some.inj hl; exact ⟨zs, rfl, hz⟩
 | (off, size, x) :: r, z, l, zs, hz, hl => by
  simp only [fillD] at hl
  split at hl
  ·cases hl
  ·rename_i d hd
   split at hl
   ·cases hl
   ·rename_i cs hcs
    split at hl
    ·rename_i e1 e2
     obtain ⟨ks, hk1, hk2⟩ := cellsD_ok (ro_ok h hd) hcs
     have e1' := Nat.eq_of_beq_eq_true e1
     have e2' := Nat.le_of_ble_eq_true e2
     obtain ⟨cs', g1, g2⟩ := fillD_ok h (((hz.take off).append hk2).append (hz.drop (off + size))) hl
     refine ⟨cs', ?_, g2⟩
     simp only [fillL, hk1]
     rw [if_pos ⟨by rw [<- hk2.len]; exact e1', by rw [<- hz.len]; exact e2'⟩]
     exact g1
    ·cases hl
theorem capsD_ok (h : ER Z β H E F) : ∀ {l : List Opd} {r : List (Nat × Nat)}, capsD E l = some r -> ∃ r', capsL F l = some r' /\ capsR β r r'
 | [], r, hr => by obtain rfl := Option.some.inj hr; exact ⟨[], rfl, trivial⟩
 | x :: l, r, hr => by
  simp only [capsD] at hr
  split at hr
  ·rename_i k o r0 h1 h2
   obtain rfl := Option.some.inj hr
   obtain ⟨r', g1, g2⟩ := capsD_ok h h2
   obtain ⟨c, hc, b, N, hb, rfl⟩ := ro_ok h h1
   exact ⟨(b, o) :: r', by simp only [capsL, hc, g1], rfl, ⟨N, hb⟩, g2⟩
  ·cases hr
theorem fdrop {l : List FD} {b o : Nat} {cs : List C} (h1 : H.loads b o l.length = some cs) (h2 : All2 (RF Z H) l cs) (off : Nat) : ∃ cs', H.loads b (o + off) (l.drop off).length = some cs' /\ All2 (RF Z H) (l.drop off) cs' := by
 by_cases ho : off <= l.length
 ·refine ⟨cs.drop off, ?_, h2.drop off⟩
  rw [List.length_drop]
  exact loads_drop h1 ho
 ·refine ⟨[], ?_, ?_⟩
  ·rw [List.length_drop, show l.length - off = 0 by omega]; rfl
  ·rw [List.drop_of_length_le (by omega)]; trivial
theorem dPure_ok (h : ER Z β H E F) {op : PureOp} {d : DV} (hd : dPure E op = some d) : ∃ v, aPure F op = some v /\ RDV Z H β d v := by
 cases op with
 | mv x => exact ⟨_, rfl, ro_ok h hd⟩
 | build z ps =>
  simp only [dPure] at hd
  split at hd
  ·rename_i l hl
   obtain rfl := Option.some.inj hd
   obtain ⟨cs, h1, h2⟩ := fillD_ok h (toCs_ok z) hl
   exact ⟨.agg cs, by simp [aPure, h1], cs, rfl, h2⟩
  ·cases hd
 | nilck x =>
  simp only [dPure] at hd
  split at hd
  all_goals try (cases hd; done)
  all_goals (rename_i hx; obtain rfl := Option.some.inj hd; have hr := ro_ok h hx)
  ·obtain ⟨c, hc, b, N, hb, rfl⟩ := hr
   exact ⟨_, by simp only [aPure, hc], _, rfl, b, N, hb, rfl⟩
  ·obtain ⟨c, hc, rfl⟩ := hr
   exact ⟨_, by simp only [aPure, hc], _, rfl, rfl⟩
  ·obtain ⟨c, hc, b, o, cs, rfl, h2⟩ := hr
   exact ⟨_, by simp only [aPure, hc], _, rfl, b, o, cs, rfl, h2⟩
  ·obtain ⟨c, hc, b, N, hb, rfl⟩ := hr
   exact ⟨_, by simp only [aPure, hc], _, rfl, b, N, hb, rfl⟩
  ·obtain ⟨c, hc, l', rfl, h2⟩ := hr
   exact ⟨_, by simp only [aPure, hc], _, rfl, l', rfl, h2⟩
  ·obtain ⟨c, hc, h2⟩ := hr
   cases h2
   rename_i h2
   exact ⟨_, by simp only [aPure, hc], _, rfl, .c _ h2⟩
 | mkfn f caps =>
  simp only [dPure] at hd
  split at hd
  ·rename_i hc
   obtain rfl := Option.some.inj hd
   obtain ⟨r', h1, h2⟩ := capsD_ok h hc
   cases r' with
   | nil => exact ⟨.one (.fn f []), by simp [aPure, h1], _, rfl, .c _ rfl⟩
   | cons _ _ => exact h2.elim
  ·rename_i l _ hc
   obtain rfl := Option.some.inj hd
   obtain ⟨r', h1, h2⟩ := capsD_ok h hc
   exact ⟨.one (.fn f r'), by simp [aPure, h1], _, rfl, r', rfl, h2⟩
  ·cases hd
 | faddr off x =>
  simp only [dPure] at hd
  split at hd
  all_goals try (cases hd; done)
  all_goals (rename_i hx; obtain rfl := Option.some.inj hd; have hr := ro_ok h hx)
  ·obtain ⟨c, hc, b, N, hb, rfl⟩ := hr
   exact ⟨_, by simp only [aPure, hc], _, rfl, b, N, hb, rfl⟩
  ·obtain ⟨c, hc, rfl⟩ := hr
   exact ⟨_, by simp only [aPure, hc], _, rfl, rfl⟩
  ·obtain ⟨c, hc, b, o, cs, rfl, h2, h3, h4⟩ := hr
   obtain ⟨cs', g1, g2⟩ := fdrop h3 h4 off
   exact ⟨_, by simp only [aPure, hc], _, rfl, b, _, cs', rfl, h2, g1, g2⟩
 | field agg off n x =>
  simp only [dPure] at hd
  split at hd
  ·rename_i l hx
   obtain ⟨cs, hc, hr⟩ := ro_ok h hx
   obtain ⟨v, h1, h2⟩ := dpart_ok hr hd
   exact ⟨v, by simp only [aPure, hc, h1], h2⟩
  ·cases hd
 | aaddr len esz x i =>
  simp only [dPure] at hd
  split at hd
  all_goals try (cases hd; done)
  all_goals
   split at hd
   all_goals try (cases hd; done)
   rename_i hx hi _ n hn
   obtain rfl := Option.some.inj hd
   obtain ⟨ci, hci, hri⟩ := ro_ok h hi
   cases hri
   obtain ⟨rfl, hlt⟩ := idx_ok hn
   have hr := ro_ok h hx
  ·obtain ⟨c, hc, b, N, hb, rfl⟩ := hr
   refine ⟨_, by simp only [aPure, hc, hci]; rw [if_pos ⟨by omega, by omega⟩, Int.toNat_natCast], _, rfl, b, N, hb, rfl⟩
  ·obtain ⟨c, hc, b, o, cs, rfl, h2, h3, h4⟩ := hr
   obtain ⟨cs', g1, g2⟩ := fdrop h3 h4 (n * esz)
   refine ⟨_, by simp only [aPure, hc, hci]; rw [if_pos ⟨by omega, by omega⟩, Int.toNat_natCast], _, rfl, b, _, cs', rfl, h2, g1, g2⟩
  ·obtain ⟨c, hc, rfl⟩ := hr
   exact ⟨_, by simp only [aPure, hc, hci]; rw [if_pos ⟨by omega, by omega⟩, Int.toNat_natCast], _, rfl, rfl⟩
 | aindex len esz agg x i =>
  simp only [dPure] at hd
  split at hd
  ·rename_i hx hi
   split at hd
   ·rename_i n hn
    obtain ⟨cs, hc, hr⟩ := ro_ok h hx
    obtain ⟨ci, hci, hri⟩ := ro_ok h hi
    cases hri
    obtain ⟨rfl, hlt⟩ := idx_ok hn
    obtain ⟨v, h1, h2⟩ := dpart_ok hr hd
    exact ⟨v, by simp only [aPure, hc, hci]; rw [if_pos ⟨by omega, by omega⟩, Int.toNat_natCast, h1], h2⟩
   ·cases hd
  ·cases hd
 | extract x i =>
  simp only [dPure] at hd
  split at hd
  ·rename_i l hx
   obtain ⟨vs, hc, hr⟩ := ro_ok h hx
   obtain ⟨v, h1, h2⟩ := hr.at i d hd
   exact ⟨v, by simp only [aPure, hc, h1], RDV.of1 h2⟩
  ·cases hd
 | len x =>
  simp only [dPure] at hd
  split at hd
  ·rename_i e hx
   obtain ⟨c, hc, hr⟩ := ro_ok h hx
   unfold lenD at hd
   split at hd
   ·obtain rfl := Option.some.inj hd
    rcases hr with ⟨_, rfl, _, rfl⟩|⟨b, N, cap, ex, _, rfl, _⟩
    ·exact ⟨_, by simp only [aPure, hc, lenV]; rfl, _, rfl, .c _ rfl⟩
    ·exact ⟨_, by simp only [aPure, hc, lenV], _, rfl, .c _ rfl⟩
   ·obtain rfl := Option.some.inj hd
    rcases hr with ⟨_, rfl, _, rfl⟩|⟨b, N, cap, ex, _, rfl, _⟩
    ·exact ⟨_, by simp only [aPure, hc, lenV]; rfl, _, rfl, .c _ rfl⟩
    ·exact ⟨_, by simp only [aPure, hc, lenV], _, rfl, .c _ rfl⟩
   ·obtain rfl := Option.some.inj hd
    cases hr with
    | nil => exact ⟨_, by simp only [aPure, hc, lenV]; rfl, _, rfl, .c _ rfl⟩
    | sl => exact ⟨_, by simp only [aPure, hc, lenV], _, rfl, .c _ rfl⟩
   ·obtain rfl := Option.some.inj hd
    cases hr
    exact ⟨_, by simp only [aPure, hc, lenV], _, rfl, .c _ rfl⟩
   ·cases hd
  ·cases hd
 | nileq neg x =>
  simp only [dPure] at hd
  split at hd
  all_goals try (cases hd; done)
  all_goals (rename_i hx; obtain rfl := Option.some.inj hd; obtain ⟨c, hc, hr⟩ := ro_ok h hx)
  ·cases hr
   exact ⟨_, by simp only [aPure, hc], _, rfl, .c _ rfl⟩
  ·cases hr with
   | sl => exact ⟨_, by simp only [aPure, hc], _, rfl, .c _ rfl⟩
  ·rcases hr with ⟨_, h0, _⟩|⟨b, N, cap, ex, _, rfl, _⟩
   ·cases h0
   ·exact ⟨_, by simp only [aPure, hc], _, rfl, .c _ rfl⟩
 | _ => exact dEx_ok h hd
end
end Go.Ab
