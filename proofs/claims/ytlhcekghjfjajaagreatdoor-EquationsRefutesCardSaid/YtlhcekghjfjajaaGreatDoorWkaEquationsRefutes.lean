/- What functions of the program compute, walked: each as a plain function, with the theorem that the code computes it wherever that answers. Printed by a program, part 1. -/
import Derived.Test.YtlhcekghjfjajaaGreatDoorFrcEquationsRefutes
import Derived.KernelRfl
import Derived.Test.YtlhcekghjfjajaaGreatDoorProg
set_option linter.unusedSimpArgs false
set_option linter.unusedVariables false
namespace Go.Proofs.YtlhcekghjfjajaaGreatDoor
open Go.RowKit Go.Ab Go.Sh
theorem cB {a b:Bool} (h:a=b):AV.bool a=AV.bool b:=congrArg AV.bool h
theorem cN {a b:Bool} (h:a=b):AV.bool (!a)=AV.bool (!b):=congrArg (fun x=>AV.bool (!x)) h
theorem aC {p:Prop} {ps:List Prop} (h:p) (h2:cI ps):cI (p::ps):=all_cons h h2
theorem aN:cI []:=all_nil
theorem aT {ps:List Prop} (h2:cI ps):cI (True::ps):=all_cons trivial h2
theorem aB {a b:Bool} {ps:List Prop} (h:a=b) (h2:cI ps):cI ((AV.bool a=AV.bool b)::ps):=all_cons (cB h) h2
theorem aM {a b:Bool} {ps:List Prop} (h:a=b) (h2:cI ps):cI ((AV.bool (!a)=AV.bool (!b))::ps):=all_cons (cN h) h2
theorem aF {P:Program} {f:FuncId} {args:List AV} {v:AV} {ps:List Prop} (h:bQ P f args v) (h2:cI ps):cI (bY P f args [] (fun r _=>r=v)::ps):=all_cons (bQ.is h) h2
theorem pI (n:Nat) (h:n<9223372036854775807):xi (((n:Nat):Int)+1):=by unfold xi;omega
theorem lF (i n:Nat) (h:¬ i<n):decide (((i:Nat):Int)<((n:Nat):Int))=false:=LG (by omega)
theorem lT (i n:Nat) (h:i<n):decide (((i:Nat):Int)<((n:Nat):Int))=true:=LH (by omega)
def nI (n:Nat):AV:=.int .i64 ((n:Nat):Int)
def iI (n:Int):AV:=.int .i64 n
def dS {α:Type} (c:α→List AV) (x:List α):AV:=.dslice (x.map c)
def r0 (d:List sA):Sg:=.rg 0 [] d
abbrev bT:AV:=.bool true
abbrev bF:AV:=.bool false
section
variable {c:Code} {fs:List Fr} {s:AS} {Q:Exit→AS→Prop}
theorem pR (n:Nat) (sg:List Sg) (cs:List Cd) (ks:List Nat) {rs:List ResultVar} {v:AV} {h1:List (Nat×AO)} {ps:List Prop} (hp:cI ps) (h:Je Tryz.prog rs cs ks (path Tryz.prog n sg c fs s)=some (ps,v,h1):=by kernel_rfl):eU Tryz.prog c (cC Tryz.prog fs (HM Tryz.prog rs v h1)) s:=KW Tryz.mo n sg cs ks hp h
theorem pB (n:Nat) (sg:List Sg) (cs:List Cd) (S:AS) {ps:List Prop} (hp:cI ps) (h:JJ cs (path Tryz.prog n sg c fs s)=some (ps,S,S):=by kernel_rfl):eU Tryz.prog c (cC Tryz.prog fs Q) s:=KV Tryz.mo n sg cs S hp h
theorem pA (n:Nat) (sg:List Sg) (cs:List Cd) (m:Nat) (bs:List Bool) (S:AS) {ps:List Prop} (hp:cI ps) (ht:eU Tryz.prog (oq m bs c fs).1 (cC Tryz.prog (oq m bs c fs).2 Q) S)
 (h:Kf cs (path Tryz.prog n sg c fs s)=some (ps,(oq m bs c fs).1,(oq m bs c fs).2,S):=by kernel_rfl):eU Tryz.prog c (cC Tryz.prog fs Q) s:=Ks Tryz.mo n sg cs m bs S hp h ht
def kS (x:Option (List Prop×Code×List Fr×AS)):AS:=match x with | some r=>r.2.2.2 | none=>⟨0,[],[]⟩
theorem pD (n:Nat) (sg:List Sg) (cs:List Cd) (m:Nat) (bs:List Bool) {ps:List Prop} (hp:cI ps) (ht:eU Tryz.prog (oq m bs c fs).1 (cC Tryz.prog (oq m bs c fs).2 Q) (kS (Kf cs (path Tryz.prog n sg c fs s))))
 (h:Kf cs (path Tryz.prog n sg c fs s)=some (ps,(oq m bs c fs).1,(oq m bs c fs).2,kS (Kf cs (path Tryz.prog n sg c fs s))):=by kernel_rfl):eU Tryz.prog c (cC Tryz.prog fs Q) s:=Ks Tryz.mo n sg cs m bs _ hp h ht
theorem aX {f:FuncId} {fn:Func} {args:List AV} {h h1:List (Nat×AO)} {v:AV} (hf:Tryz.prog.funcs[f]? = some fn) (n:Nat) (rs:List ResultVar) (ht:eU Tryz.prog (vd fn) (cC Tryz.prog [] (HM Tryz.prog rs v h1)) ⟨n,nf args 0,h⟩)
 (hok:(r5 fn&&Nat.beq fn.ntmps n&&Nat.ble args.length n)=true:=by kernel_rfl) (hrs:fn.results.toList=rs:=by kernel_rfl):bY Tryz.prog f args h (fun r h'=>r=v∧h'=h1):=JE hf n rs hok hrs ht
theorem pJ {ε ρ:Type} (k:Nat) (S:ε→AS) (R:Out ε ρ) (h1:eU Tryz.prog c (cC Tryz.prog (zF k (KD S R) fs) Q) s) (h2:∀ e,R = .brk e→eU Tryz.prog (wx k fs) (cC Tryz.prog (fs.drop (k+1)) Q) (S e)) (hk:rY k fs=true:=by kernel_rfl):eU Tryz.prog c (cC Tryz.prog fs Q) s:=Ix k S R hk h1 h2
theorem pC {σ ε ρ:Type} {body:Nat→σ→Option (gC σ ε ρ)} {fin:Nat→σ→ε} {N i0:Nat} {st0:σ} {R:Out ε ρ} (S:Nat→σ→AS) (H:eH body fin (N-i0) i0 st0=some R)
 (zero:∀ i st,N≤i→R = .brk (fin i st)→eU Tryz.prog (nW c) (cC Tryz.prog (.bar dead::fs) Q) (S i st))
 (succ:∀ i st,i<N→∀ q,body i st=some q→tP q R→eU Tryz.prog (nW c) (cC Tryz.prog (.bar (Lf (S (i+1)) q)::fs) Q) (S i st)) (hc:yp c=true:=by kernel_rfl):eU Tryz.prog c (cC Tryz.prog fs Q) (S i0 st0):=KH S hc H zero succ
end
theorem aO (n:Int) {ps:List Prop} (h2:cI ps) (h:xi n:=by unfold xi;omega):cI (xi n::ps):=all_cons h h2
theorem aI {α:Type} {f:α→List AV} {sz:Nat} (hf:∀ x,(f x).length=sz) (l:List α) (n:Nat) (d:α) {ps:List Prop} (h2:cI ps) (h:n<l.length:=by omega) (h0:0<sz:=by decide) :
 cI ((((0:Int)≤(n:Int)∧(n:Int)<((l.map f).length:Int))∧(((l.map f).getD (n:Int).toNat []).length=sz∧0<sz))::(AV.dptr ((l.map f).getD (n:Int).toNat []) = .dptr (f (l.getD n d)))::ps):=b9 (ix d hf h0 h) h2
theorem aH (n:Nat) {ps:List Prop} (h2:cI ps) (h:n<9223372036854775807:=by omega):cI (xi (((n:Nat):Int)+1)::ps):=all_cons (pI n h) h2
def V:Nat→List sA→List sA
 | 0,l=>l
 | n+1,l=>.v::V n l
def V1:Sg:=r0 [.v]
def V2:Sg:=r0 [.v,.v]
def V3:Sg:=r0 [.v,.v,.v]
def V4:Sg:=r0 (V 4 [])
def V5:Sg:=r0 (V 5 [])
def V6:Sg:=r0 (V 6 [])
theorem sI {α:Type} {x r:α} (h:some x=some r):x=r:=LM h
theorem mo:Tryz.prog.follows .mixedOrders=true:=Tryz.mo
structure aq where
 Var:au
 C:Int
 deriving DecidableEq
def ao (x:aq):List AV:=[.str x.Var,.int .i64 x.C]
theorem bf (x:aq):(ao x).length=2:=rfl
theorem gQ (x:aq):(ao x).length=2∧(ao x).all (fun v=>v.one&&v.fl)=true:=⟨rfl,rfl⟩
structure Linear where
 Const:Int
 Terms:(List aq)
 deriving DecidableEq
def ak (x:Linear):List AV:=[.int .i64 x.Const,.dslice (x.Terms.map ao)]
theorem bh (x:Linear):(ak x).length=2:=rfl
theorem Bx (x:Linear):(ak x).length=2∧(ak x).all (fun v=>v.one&&v.fl)=true:=⟨rfl,rfl⟩
structure ah where
 Mults:(List Int)
 Mod:Int
 deriving DecidableEq
def aj (x:Int):List AV:=[.int .i64 x]
theorem bZ (x:Int):(aj x).length=1:=rfl
theorem kg (x:Int):(aj x).length=1∧(aj x).all (fun v=>v.one&&v.fl)=true:=⟨rfl,rfl⟩
def da (x:ah):List AV:=[.dslice (x.Mults.map aj),.int .i64 x.Mod]
theorem tz (x:ah):(da x).length=2:=rfl
theorem tH (x:ah):(da x).length=2∧(da x).all (fun v=>v.one&&v.fl)=true:=⟨rfl,rfl⟩
structure Value where
 Var:au
 N:Int
 deriving DecidableEq
def ff (x:Value):List AV:=[.str x.Var,.int .i64 x.N]
theorem rh (x:Value):(ff x).length=2:=rfl
theorem Kl (x:Value):(ff x).length=2∧(ff x).all (fun v=>v.one&&v.fl)=true:=⟨rfl,rfl⟩
abbrev ay:aq:=⟨[],0⟩
structure Shape where
 Row:au
 Dims:(List Linear)
 deriving DecidableEq
def Ck (x:Shape):List AV:=[.str x.Row,.dslice (x.Dims.map ak)]
theorem JD (x:Shape):(Ck x).length=2:=rfl
theorem Kh (x:Shape):(Ck x).length=2∧(Ck x).all (fun v=>v.one&&v.fl)=true:=⟨rfl,rfl⟩
structure Bind where
 Kind:Int
 Var:au
 Dim:Linear
 Row:Shape
 Elem:au
 deriving DecidableEq
def aA (x:Bind):List AV:=[.int .i64 x.Kind,.str x.Var,.int .i64 x.Dim.Const,.dslice (x.Dim.Terms.map ao),.str x.Row.Row,.dslice (x.Row.Dims.map ak),.str x.Elem]
theorem bg (x:Bind):(aA x).length=7:=rfl
theorem zZ (x:Bind):(aA x).length=7∧(aA x).all (fun v=>v.one&&v.fl)=true:=⟨rfl,rfl⟩
abbrev az:Linear:=⟨0,[]⟩
def ya (x:UInt8):List AV:=[.int .u8 ((x).toNat:Int)]
theorem EX (x:UInt8):(ya x).length=1:=rfl
theorem KA (x:UInt8):(ya x).length=1∧(ya x).all (fun v=>v.one&&v.fl)=true:=⟨rfl,rfl⟩
def mI (x:Bool):List AV:=[.bool x]
theorem Kd (x:Bool):(mI x).length=1:=rfl
theorem Ge (x:Bool):(mI x).length=1∧(mI x).all (fun v=>v.one&&v.fl)=true:=⟨rfl,rfl⟩
def bt (x:au):List AV:=[.str x]
theorem pZ (x:au):(bt x).length=1:=rfl
theorem rQ (x:au):(bt x).length=1∧(bt x).all (fun v=>v.one&&v.fl)=true:=⟨rfl,rfl⟩
structure ae where
 q:Linear
 mults:(List (Int×Int))
 scale:Int
 lost:Bool
 deriving DecidableEq
def ab (x:ae):List AV:=[.int .i64 x.q.Const,.dslice (x.q.Terms.map ao),.dmap (x.mults.map (dL aj)),.int .i64 x.scale,.bool x.lost]
theorem BP (x:ae):(ab x).length=5:=rfl
theorem rW (x:ae):(ab x).length=5∧(ab x).all (fun v=>v.one&&v.fl)=true:=⟨rfl,rfl⟩
abbrev aa:ae:=⟨az,[],0,false⟩
abbrev JM:Shape:=⟨[],[]⟩
abbrev aw:Bind:=⟨0,[],az,JM,[]⟩
def cF (x:Bind):List AV:=[.int .i64 x.Kind,.str x.Var,.int .i64 x.Dim.Const,JV ao x.Dim.Terms,.str x.Row.Row,JV ak x.Row.Dims,.str x.Elem]
theorem Jq (x:Bind):(cF x).length=7:=rfl
theorem Km (x:Bind):(cF x).length=7∧(cF x).all (fun v=>v.one&&v.fl)=true:=⟨rfl,by unfold cF;simp only [List.all_cons,List.all_nil,IA];rfl⟩
theorem ED (x:Bind):(cF x).map AV.ez=aA x:=by unfold cF aA;simp only [List.map_cons,List.map_nil,Jc];rfl
abbrev kl:Value:=⟨[],0⟩
def vH (x0:Int):Option Linear :=
 some (Linear.mk x0 [])
theorem BX (x0:Int) (r:Linear) (H:vH x0=some r):bQ Tryz.prog 49 [iI x0] (.agg [iI r.Const,dS ao r.Terms]):=by unfold vH at H;refine aX Tryz.func49 5 [.cell 2 34] ?_;obtain rfl:=sI H;exact pR 5 [r0 [.m],r0 [.v,.b,.m]] [.wkH 2 1 []] [] aN
def jL (x0:Linear) (x1:au) (x2:Int):Option Linear :=
 (eH (σ:=(Bool×(List aq))) (ε:=(Bool×(List aq))) (ρ:=Empty) (fun i0 s0 =>
  ((
   bif s0.1 then (
    some (true,false)
   ) else (
    some (false,!(Op.bytesLess ((x0.Terms.getD i0 ay).Var) x1||((x0.Terms.getD i0 ay).Var)==x1))
   )
  ):Option (Bool×Bool)).bind fun v0 =>
  ((
   bif v0.2 then (
    bM ((s0.2.length+1)*24≤140737488355328) <|
    some (true,(s0.2++[(aq.mk x1 x2)]))
   ) else (
    some (v0.1,s0.2)
   )
  ):Option (Bool×(List aq))).bind fun v1 =>
  ((
   bif (((x0.Terms.getD i0 ay).Var)==x1) then (
    some (true,(aL (((x0.Terms.getD i0 ay).C)+x2)))
   ) else (
    some (v1.1,((x0.Terms.getD i0 ay).C))
   )
  ):Option (Bool×Int)).bind fun v2 =>
  bM ((v1.2.length+1)*24≤140737488355328) <|
  some (.go (v2.1,(v1.2++[(aq.mk ((x0.Terms.getD i0 ay).Var) v2.2)])))
 ) (fun i0 s0=>(s0.1,s0.2)) (x0.Terms.length-0) 0 (false,[])).bind <| dI fun u0 =>
 ((
  bif u0.1 then (
   some u0.2
  ) else (
   bM ((u0.2.length+1)*24≤140737488355328) <|
   some (u0.2++[(aq.mk x1 x2)])
  )
 ):Option (List aq)).bind fun v3 =>
 (kz (σ:=(Int×Int×(List aq))) (ε:=(Int×(List aq))) (ρ:=Empty) (fun s1 =>
  bif decide (s1.2.1<((s1.2.2.length:Nat):Int)) then (
   bM (0≤s1.2.1∧s1.2.1<(s1.2.2.length:Int)) <|
   bM (s1.2.1.toNat<s1.2.2.length) <|
   ((
    bif (((s1.2.2.getD s1.2.1.toNat ay).C)==0) then (
     some (s1.1,s1.2.2)
    ) else (
     bM (0≤s1.1∧s1.1<(s1.2.2.length:Int)) <|
     bM (s1.1.toNat<s1.2.2.length) <|
     some ((aL (s1.1+1)),(s1.2.2.set s1.1.toNat (aq.mk ((s1.2.2.getD s1.2.1.toNat ay).Var) ((s1.2.2.getD s1.2.1.toNat ay).C))))
    )
   ):Option (Int×(List aq))).bind fun v4 =>
   some (.go (v4.1,(aL (s1.2.1+1)),v4.2))
  ) else (
   some (.brk (s1.1,s1.2.2))
  )
 ) 4294967296 (0,0,v3)).bind <| dI fun u1 =>
 bM (0≤u1.1∧u1.1≤(u1.2.length:Int)) <|
 some (Linear.mk x0.Const (u1.2.take u1.1.toNat))
def nC (x0:Linear) (x1:au) (x2:Int) (i0:Nat) (s0:Bool×(List aq)):AS:=⟨100,[(1,.str x1),(2,iI x2),(3,.hptr 3 0),(6,.hptr 6 0),(7,.hptr 7 0),(8,.bool s0.1),(9,nI i0)],[(3,.cells 34 [iI x0.Const,dS ao x0.Terms]),(6,.cells 34 [iI 0,.eslice]),(7,.cells 34 [iI x0.Const,.rslice 57]),(57,.row 88 2 (s0.2.map ao))]⟩
def qX (x0:Linear) (x1:au) (x2:Int) (u2:Bool×(List aq)):AS:=⟨100,[(1,.str x1),(2,iI x2),(6,.hptr 6 0),(7,.hptr 7 0),(8,.bool u2.1)],[(6,.cells 34 [iI 0,.eslice]),(7,.cells 34 [iI x0.Const,.rslice 57]),(57,.row 88 2 (u2.2.map ao))]⟩
def nB (x0:Linear) (x1:au) (x2:Int) (i0:Nat) (s0:Bool×(List aq)) (v0:Bool×Bool):AS:=⟨100,[(1,.str x1),(2,iI x2),(3,.hptr 3 0),(6,.hptr 6 0),(7,.hptr 7 0),(8,.bool v0.1),(9,nI i0),(10,.hptr 10 0),(35,.bool v0.2)],[(3,.cells 34 [iI x0.Const,dS ao x0.Terms]),(6,.cells 34 [iI 0,.eslice]),(7,.cells 34 [iI x0.Const,.rslice 57]),(10,.cells 88 [.str ((x0.Terms.getD i0 ay).Var),iI ((x0.Terms.getD i0 ay).C)]),(57,.row 88 2 (s0.2.map ao))]⟩
def mV (x0:Linear) (x1:au) (x2:Int) (i0:Nat) (v1:Bool×(List aq)):AS:=⟨100,[(1,.str x1),(2,iI x2),(3,.hptr 3 0),(6,.hptr 6 0),(7,.hptr 7 0),(8,.bool v1.1),(9,nI i0),(10,.hptr 10 0)],[(3,.cells 34 [iI x0.Const,dS ao x0.Terms]),(6,.cells 34 [iI 0,.eslice]),(7,.cells 34 [iI x0.Const,.rslice 57]),(10,.cells 88 [.str ((x0.Terms.getD i0 ay).Var),iI ((x0.Terms.getD i0 ay).C)]),(57,.row 88 2 (v1.2.map ao))]⟩
def mX (x0:Linear) (x1:au) (x2:Int) (i0:Nat) (v1:Bool×(List aq)) (v2:Bool×Int):AS:=⟨100,[(1,.str x1),(2,iI x2),(3,.hptr 3 0),(6,.hptr 6 0),(7,.hptr 7 0),(8,.bool v2.1),(9,nI i0),(10,.hptr 10 0)],[(3,.cells 34 [iI x0.Const,dS ao x0.Terms]),(6,.cells 34 [iI 0,.eslice]),(7,.cells 34 [iI x0.Const,.rslice 57]),(10,.cells 88 [.str ((x0.Terms.getD i0 ay).Var),iI v2.2]),(57,.row 88 2 (v1.2.map ao))]⟩
def nl (x0:Linear) (v3:List aq):AS:=⟨100,[(6,.hptr 6 0),(7,.hptr 7 0)],[(6,.cells 34 [iI 0,.eslice]),(7,.cells 34 [iI x0.Const,.rslice 67]),(67,.row 88 2 (v3.map ao))]⟩
def nw (x0:Linear) (s1:Int×Int×(List aq)):AS:=⟨100,[(6,.hptr 6 0),(7,.hptr 7 0),(11,iI s1.1),(12,iI s1.2.1)],[(6,.cells 34 [iI 0,.eslice]),(7,.cells 34 [iI x0.Const,.rslice 67]),(67,.row 88 2 (s1.2.2.map ao))]⟩
def q8 (x0:Linear) (u3:Int×(List aq)):AS:=⟨100,[(6,.hptr 6 0),(7,.hptr 7 0),(11,iI u3.1)],[(6,.cells 34 [iI 0,.eslice]),(7,.cells 34 [iI x0.Const,.rslice 67]),(67,.row 88 2 (u3.2.map ao))]⟩
def nu (x0:Linear) (s1:Int×Int×(List aq)) (v4:Int×(List aq)):AS:=⟨100,[(6,.hptr 6 0),(7,.hptr 7 0),(11,iI v4.1),(12,iI s1.2.1)],[(6,.cells 34 [iI 0,.eslice]),(7,.cells 34 [iI x0.Const,.rslice 67]),(67,.row 88 2 (v4.2.map ao))]⟩
theorem kE (x0:Linear) (x1:au) (x2:Int) (r:Linear) (H:jL x0 x1 x2=some r):bQ Tryz.prog 17 [.agg [iI x0.Const,dS ao x0.Terms],.str x1,iI x2] (.agg [iI r.Const,dS ao r.Terms]):=by
 unfold jL at H;refine aX Tryz.func17 100 [.cell 6 34] ?_;refine pA 10 [r0 [.m,.m],r0 [.v,.v,.b,.m,.m],V1,V1] [.erH 7 1 57 88 2,.only [1,2,3,6,7,8,9] [3,6,7,57]] 10 [] (nC x0 x1 x2 0 (false,[])) aN ?_;refine aQ H fun R0 h0 H0 => ?_;refine pJ 1 (qX x0 x1 x2) R0 ?_ (fun u0 e0 => ?_)
 ·refine pC (nC x0 x1 x2) h0 (fun i0 s0 h1 e1 => ?_) (fun i0 s0 h2 q0 h3 h4 => ?_)
  ·have c0:=lF i0 x0.Terms.length (by omega);subst e1;exact pB 5 [r0 [.v,.v,.v,.e (nI x0.Terms.length),.e bF]] [.only [1,2,6,7,8] [6,7,57]] (qX x0 x1 x2 (s0.1,s0.2)) (aT (aC (aP ao x0.Terms) (aB c0 aN)))
  ·have c1:=lT i0 x0.Terms.length (by omega);refine pD 11 [r0 [.v,.v,.v,.e (nI x0.Terms.length),.e bT],r0 [.v,.v,.v,.e (.dptr (ao (x0.Terms.getD i0 ay))),.v,.m,.m]] [.only [1,2,3,6,7,8,9,10] [3,6,7,10,57]] 11 [true] (aT (aC (aP ao x0.Terms) (aB c1 (aI bf x0.Terms i0 ay aN)))) ?_;refine aQ h3 fun v0 h5 H1 => ?_;refine eR 0 (nB x0 x1 x2 i0 s0 v0) (by kernel_rfl) ?_ ?_
   ·refine aZ h5 (fun c2 H2 => ?_) (fun c3 H3 => ?_)
    ·obtain rfl:=sI H2;exact pB 2 [.eqT 8 bT,r0 [.v,.v,.v,.s,.s,.s,.s,.v]] [.only [1,2,3,6,7,8,9,10,35] [3,6,7,10,57]] (nB x0 x1 x2 i0 s0 (true,false)) (aB c2 (aT aN))
    ·obtain rfl:=sI H3;exact pB 2 [.eqT 8 bF,r0 (V 8 [])] [.only [1,2,3,6,7,8,9,10,35] [3,6,7,10,57]] (nB x0 x1 x2 i0 s0 (false,!(Op.bytesLess ((x0.Terms.getD i0 ay).Var) x1||((x0.Terms.getD i0 ay).Var)==x1))) (aB c3 (aT aN))
   ·refine aQ H1 fun v1 h6 H4 => ?_;refine eR 0 (mV x0 x1 x2 i0 v1) (by kernel_rfl) ?_ ?_
    ·refine aZ h6 (fun c4 H5 => ?_) (fun c5 H6 => ?_)
     ·refine aK H5 fun g0 H7 => ?_;obtain rfl:=sI H7;exact pB 5 [.eqT 35 bT,r0 (V 4 [.b,.b,.ap,.rwH 42 (.row 88 2 ((s0.2++[(aq.mk x1 x2)]).map ao)),.v,.m]),V1] [.ren [(3,3),(6,6),(7,7),(10,10),(42,57)],.only [1,2,3,6,7,8,9,10] [3,6,7,10,57]] (mV x0 x1 x2 i0 (true,(s0.2++[(aq.mk x1 x2)]))) (aB c4 (b9 (yf (c:=ao) gQ s0.2 [(aq.mk x1 x2)] 24 (by decide) (by first | (simp;done) | simpa using g0)) (aC (Bn 88 2 ao s0.2 [(aq.mk x1 x2)]) aN)))
     ·obtain rfl:=sI H6;exact pB 3 [.eqT 35 bF] [.only [1,2,3,6,7,8,9,10] [3,6,7,10,57]] (mV x0 x1 x2 i0 (v0.1,s0.2)) (aB c5 aN)
    ·refine pD 3 [.rg 0 [] (V 4 [])] [.only [1,2,3,6,7,8,9,10,47] [3,6,7,10,57]] 3 [] aN ?_;refine aQ H4 fun v2 h7 H8 => ?_;refine eR 0 (mX x0 x1 x2 i0 v1 v2) (by kernel_rfl) ?_ ?_
     ·refine aZ h7 (fun c6 H9 => ?_) (fun c7 H10 => ?_)
      ·obtain rfl:=sI H9;exact pB 5 [.eqT 47 bT,r0 [.v,.v,.v,.w,.v,.m],V1] [.only [1,2,3,6,7,8,9,10] [3,6,7,10,57]] (mX x0 x1 x2 i0 v1 (true,(aL (((x0.Terms.getD i0 ay).C)+x2)))) (aB c6 aN)
      ·obtain rfl:=sI H10;exact pB 3 [.eqT 47 bF] [.only [1,2,3,6,7,8,9,10] [3,6,7,10,57]] (mX x0 x1 x2 i0 v1 (v1.1,((x0.Terms.getD i0 ay).C))) (aB c7 aN)
     ·refine aK H8 fun g1 H11 => ?_;refine mJ 3 1 (ps:=[(x0.Terms.map ao).length≤9223372036854775807]) (by kernel_rfl) (fun l0 => ?_);have l1:x0.Terms.length≤9223372036854775807:=by simpa only [cI,LI] using l0
      clear l0;obtain rfl:=sI H11;exact pB 2 [r0 [.v,.v,.v,.b,.ap,.rwH 57 (.row 88 2 ((v1.2++[(aq.mk ((x0.Terms.getD i0 ay).Var) v2.2)]).map ao)),.v,.m],V3] [.only [1,2,3,6,7,8,9] [3,6,7,57]] (nC x0 x1 x2 (i0+1) (v2.1,(v1.2++[(aq.mk ((x0.Terms.getD i0 ay).Var) v2.2)]))) (b9 (yf (c:=ao) gQ v1.2 [(aq.mk ((x0.Terms.getD i0 ay).Var) v2.2)] 24 (by decide) (by first | (simp;done) | simpa using g1)) (aC (Bn 88 2 ao v1.2 [(aq.mk ((x0.Terms.getD i0 ay).Var) v2.2)]) (aH i0 aN)))
 ·subst e0;have H12:=bG H0;refine pD 3 [V2] [.only [1,2,6,7,60] [6,7,57]] 3 [] (aT aN) ?_;refine aQ H12 fun v3 h8 H13 => ?_;refine eR 0 (nl x0 v3) (by kernel_rfl) ?_ ?_
  ·refine aZ h8 (fun c8 H14 => ?_) (fun c9 H15 => ?_)
   ·obtain rfl:=sI H14;exact pB 3 [.eqT 60 bF] [.ren [(6,6),(7,7),(57,67)],.only [6,7] [6,7,67]] (nl x0 u0.2) (aM c8 aN)
   ·refine aK H15 fun g2 H16 => ?_;obtain rfl:=sI H16;exact pB 3 [.eqT 60 bT,r0 (V 4 [.b,.b,.ap,.rwH 67 (.row 88 2 ((u0.2++[(aq.mk x1 x2)]).map ao)),.v,.m])] [.only [6,7] [6,7,67]] (nl x0 (u0.2++[(aq.mk x1 x2)])) (aM c9 (b9 (yf (c:=ao) gQ u0.2 [(aq.mk x1 x2)] 24 (by decide) (by first | (simp;done) | simpa using g2)) (aC (Bn 88 2 ao u0.2 [(aq.mk x1 x2)]) aN)))
  ·refine pA 6 [.rg 0 [] [.v],.rg 0 [] [.v]] [.only [6,7,11,12] [6,7,67]] 6 [] (nw x0 (0,0,v3)) aN ?_;refine aQ H13 fun R1 h9 H17 => ?_;refine pJ 1 (q8 x0) R1 ?_ (fun u1 e2 => ?_)
   ·refine qU (nw x0) (by kernel_rfl) h9 (fun s1 q1 h10 h11 => ?_)
    ·refine aZ h10 (fun c10 H18 => ?_) (fun c11 H19 => ?_)
     ·have c10p:=LF c10;refine aK H18 fun g3 H20 => ?_;refine aK H20 fun g4 H21 => ?_;refine pD 10 [r0 [.v,.v,.v,.e (nI s1.2.2.length),.v],.eqT 73 bT,r0 (V 5 [.rl s1.2.1.toNat 1 (iI ((s1.2.2.getD s1.2.1.toNat ay).C)),.v])] [.only [6,7,11,12,82] [6,7,67]] 9 [true] (aT (aC (aP ao s1.2.2) (aB c10 (aC (show (0:Int)≤s1.2.1∧s1.2.1<((s1.2.2.map ao).length:Int) from by rw [LI];exact g3) (aC (iS (f:=ao) (l:=s1.2.2) (n:=s1.2.1.toNat) 2 1 1 (by omega) (by decide)) (aC (tJ (f:=ao) (l:=s1.2.2) (n:=s1.2.1.toNat) ay 1 (by omega)) aN)))))) ?_;refine aQ H21 fun v4 h12 H22 => ?_;refine eR 1 (nu x0 s1 v4) (by kernel_rfl) ?_ ?_
      ·refine aZ h12 (fun c12 H23 => ?_) (fun c13 H24 => ?_)
       ·obtain rfl:=sI H23;exact pB 3 [.eqT 82 bF] [.only [6,7,11,12] [6,7,67]] (nu x0 s1 (s1.1,s1.2.2)) (aM c12 aN)
       ·refine aK H24 fun g5 H25 => ?_;refine aK H25 fun g6 H26 => ?_;obtain rfl:=sI H26;exact pB 5 [.eqT 82 bT,.rg 8 (V 7 [.rl s1.2.1.toNat 0 (.agg (ao (s1.2.2.getD s1.2.1.toNat ay)))]) [.v,.rs s1.1.toNat 0,.rwH 67 (.row 88 2 ((s1.2.2.set s1.1.toNat (aq.mk ((s1.2.2.getD s1.2.1.toNat ay).Var) ((s1.2.2.getD s1.2.1.toNat ay).C))).map ao))],r0 [.v,.w,.v]] [.only [6,7,11,12] [6,7,67]] (nu x0 s1 ((aL (s1.1+1)),(s1.2.2.set s1.1.toNat (aq.mk ((s1.2.2.getD s1.2.1.toNat ay).Var) ((s1.2.2.getD s1.2.1.toNat ay).C))))) (aM c13 (aC (show (0:Int)≤s1.2.1∧s1.2.1<((s1.2.2.map ao).length:Int) from by rw [LI];exact g3) (aC (iS (f:=ao) (l:=s1.2.2) (n:=s1.2.1.toNat) 2 0 2 (by omega) (by decide)) (aC (E2 (f:=ao) (l:=s1.2.2) (n:=s1.2.1.toNat) ay 0 2 (by omega)) (aC (show (0:Int)≤s1.1∧s1.1<((s1.2.2.map ao).length:Int) from by rw [LI];exact g5) (aC (iS (f:=ao) (l:=s1.2.2) (n:=s1.1.toNat) 2 0 2 (by omega) (by decide)) (aC (uE (f:=ao) 88 2 s1.2.2 s1.1.toNat ay (aq.mk ((s1.2.2.getD s1.2.1.toNat ay).Var) ((s1.2.2.getD s1.2.1.toNat ay).C)) 0 (ao (s1.2.2.getD s1.2.1.toNat ay)) (by omega) rfl) aN)))))))
      ·obtain rfl:=sI H22;exact pB 1 [r0 [.v,.w,.v]] [.only [6,7,11,12] [6,7,67]] (nw x0 (v4.1,(aL (s1.2.1+1)),v4.2)) aN
     ·obtain rfl:=sI H19;obtain rfl:=iU h11;exact pB 6 [r0 [.v,.v,.v,.e (nI s1.2.2.length),.v],.eqT 73 bF] [.only [6,7,11] [6,7,67]] (q8 x0 (s1.1,s1.2.2)) (aT (aC (aP ao s1.2.2) (aB c11 aN)))
   ·subst e2;have H27:=bG H17;refine aK H27 fun g7 H28 => ?_;obtain rfl:=sI H28;exact pR 5 [r0 [.v,.v,.v,.fz 67,.e (.dslice ((u1.2.take u1.1.toNat).map ao)),.v,.m],r0 [.v,.m]] [] [] (aC (show ((0:Int)≤0∧0≤u1.1∧u1.1≤((u1.2.map ao).length:Int))∧UL 2 (u1.2.map ao) from ⟨by first | omega | (simp only [LI];omega),UL.map bf _⟩) (aC (GL ao u1.2 u1.1.toNat) aN))
def fN (x0 x1 x2:Int):Option Linear :=
 (vH x2).bind fun y0 =>
 (jL y0 [110] x0).bind fun y1 =>
 (jL y1 [109] x1).bind fun y2 =>
 some y2
theorem mK (x0 x1 x2:Int) (r:Linear) (H:fN x0 x1 x2=some r):bQ Tryz.prog 21 [iI x0,iI x1,iI x2] (.agg [iI r.Const,dS ao r.Terms]):=by unfold fN at H;refine aX Tryz.func21 13 [.cell 6 34] ?_;refine aQ H fun y0 h0 H0 => ?_;refine aQ H0 fun y1 h1 H1 => ?_;refine aQ H1 fun y2 h2 H2 => ?_;refine cR H2 fun e0 => ?_;subst e0;exact pR 5 [r0 [.m],r0 [.v,.c true (.agg [iI y0.Const,dS ao y0.Terms]),.v,.c true (.agg [iI y1.Const,dS ao y1.Terms]),.v,.c true (.agg [iI y2.Const,dS ao y2.Terms]),.m]] [] [] (aC Tryz.call49 (aF (BX _ _ h0) (aC Tryz.call17 (aF (kE _ _ _ _ h1) (aC Tryz.call17 (aF (kE _ _ _ _ h2) aN))))))
def cn (x0 x1:au):Option Bool :=
 bif decide (((x0.length:Nat):Int)≥((x1.length:Nat):Int)) then (
  bM (x1.length≤x0.length) <|
  some ((x0.take x1.length)==x1)
 ) else (
  some false
 )
theorem iX (x0 x1:au) (r:Bool) (H:cn x0 x1=some r):bQ Tryz.prog 123 [.str x0,.str x1] (.bool r):=by
 unfold cn at H;refine aX Tryz.func123 18 [.tmp 4] ?_;refine aZ H (fun c0 H0 => ?_) (fun c1 H1 => ?_)
 ·have c0p:=LF c0;refine aK H0 fun g0 H2 => ?_;obtain rfl:=sI H2;exact pR 5 [V1,r0 (V 4 [.e bT,.v,.v,.v,.v,.e (.str (x0.take x1.length)),.v,.v,.v,.v])] [] [] (aT (aT (aB c0 (aT (aC (show (0:Int)≤0∧0≤((x1.length:Nat):Int)∧((x1.length:Nat):Int)≤(x0.length:Int) from by omega) (aC (HN x0 x1.length) aN))))))
 ·obtain rfl:=sI H1;exact pR 5 [V1,r0 (V 4 [.e bF,.v,.s,.s,.s,.s,.s,.s,.v,.v])] [] [] (aT (aT (aB c1 aN)))
def dD (x0 x1:au):Option Bool :=
 (cn x0 x1).bind fun y0 =>
 some y0
theorem fi (x0 x1:au) (r:Bool) (H:dD x0 x1=some r):bQ Tryz.prog 88 [.str x0,.str x1] (.bool r):=by unfold dD at H;refine aX Tryz.func88 8 [.tmp 4] ?_;refine aQ H fun y0 h0 H0 => ?_;refine cR H0 fun e0 => ?_;subst e0;exact pR 5 [V1,r0 [.v,.v,.c true (.bool y0),.v]] [] [] (aC Tryz.call123 (aF (iX _ _ _ h0) aN))
def ka (x0:au):Option Bool :=
 (dD x0 [95]).bind fun y0 =>
 bif y0 then (
  bM (1≤x0.length) <|
  (lg (x0.drop 1)).bind fun y1 =>
  bif y1.2 then (
   bif decide (y1.1>0) then (
    bif decide (((x0.length:Nat):Int)≤10) then (
     (gS y1.1).bind fun y2 =>
     some (y2==(x0.drop 1))
    ) else (
     some false
    )
   ) else (
    some false
   )
  ) else (
   some false
  )
 ) else (
  (eH (σ:=Unit) (ε:=Unit) (ρ:=Bool) (fun i0 s0 =>
   ((
    bif decide ((((x0.getD i0 0)).toNat:Int)<97) then (
     bif (((i0:Nat):Int)==0) then (
      some (.ret (.ret false))
     ) else (
      bif decide ((((x0.getD i0 0)).toNat:Int)<48) then (
       some (.ret (.ret false))
      ) else (
       bif decide ((((x0.getD i0 0)).toNat:Int)>57) then (
        some (.ret (.ret false))
       ) else (
        some (.brk ())
       )
      )
     )
    ) else (
     bif decide ((((x0.getD i0 0)).toNat:Int)>122) then (
      bif (((i0:Nat):Int)==0) then (
       some (.ret (.ret false))
      ) else (
       bif decide ((((x0.getD i0 0)).toNat:Int)<48) then (
        some (.ret (.ret false))
       ) else (
        bif decide ((((x0.getD i0 0)).toNat:Int)>57) then (
         some (.ret (.ret false))
        ) else (
         some (.brk ())
        )
       )
      )
     ) else (
      some (.brk ())
     )
    )
   ):Option (Out Unit (gC Unit Unit Bool))).bind (aft fun u0 =>
    some (.go ())
   )
  ) (fun i0 s0=>()) (x0.length-0) 0 ()).bind <| aft fun u1 =>
  bif (x0==[]) then (
   some false
  ) else (
   some (decide (((x0.length:Nat):Int)≤30))
  )
 )
def la (x0:au) (i0:Nat) (s0:Unit):AS:=⟨67,[(0,.str x0),(2,.bool false),(34,dS ya x0),(35,nI x0.length),(36,nI i0)],[]⟩
def p7 (x0:au) (u2:Unit):AS:=⟨67,[(0,.str x0),(2,.bool false)],[]⟩
def jr (x0:au) (i0:Nat) (u0:Unit):AS:=⟨67,[(0,.str x0),(2,.bool false),(34,dS ya x0),(35,nI x0.length),(36,nI i0)],[]⟩
theorem gW (x0:au) (r:Bool) (H:ka x0=some r):bQ Tryz.prog 83 [.str x0] (.bool r):=by
 unfold ka at H;refine aX Tryz.func83 67 [.tmp 2] ?_;refine aQ H fun y0 h0 H0 => ?_;refine aZ H0 (fun c0 H1 => ?_) (fun c1 H2 => ?_)
 ·refine aK H1 fun g0 H3 => ?_;refine aQ H3 fun y1 h1 H4 => ?_;refine pD 10 [V1,r0 [.v,.c true (.bool y0)],.eqT 8 bT,r0 [.v,.e (.str (x0.drop 1)),.cf true (.tup [iI y1.1,xh 190 y1.2]),.v,.v,.v,.v,.v]] [.only [0,2,3,4] []] 9 [true] (aC Tryz.call88 (aF (fi _ _ _ h0) (aB c0 (aC (show (0:Int)≤1∧1≤(x0.length:Int)∧(x0.length:Int)≤(x0.length:Int) from by omega) (aC (ym x0 1) (aC Tryz.call89 (aF (v7 (x0.drop 1) y1 h1) (aC (show wD true (.tup [iI y1.1,xh 190 y1.2])=true from by cases h2:y1.2<;>rfl) aN)))))))) ?_;refine aZ H4 (fun c2 H5 => ?_) (fun c3 H6 => ?_)
  ·refine aZ H5 (fun c4 H7 => ?_) (fun c5 H8 => ?_)
   ·have c4p:=LF c4;refine aZ H7 (fun c6 H9 => ?_) (fun c7 H10 => ?_)
    ·have c6p:=LF c6;refine aQ H9 fun y2 h3 H11 => ?_;obtain rfl:=sI H11;exact pR 3 [.eqT 4 (.nilI),.rg 16 (V 4 [.e bT,.v,.v,.v,.v,.e bT,.v,.v,.v,.c true (.str y2),.v,.e (.str (x0.drop 1))]) [.v,.v,.v]] [] [] (aC (congrArg (xh 190) c2) (aB c4 (aT (aB c6 (aC Tryz.call94 (aF (vG y1.1 y2 h3) (aC (show (0:Int)≤1∧1≤(x0.length:Int)∧(x0.length:Int)≤(x0.length:Int) from by omega) (aC (ym x0 1) aN))))))))
    ·obtain rfl:=sI H10;exact pR 3 [.eqT 4 (.nilI),.rg 16 (V 4 [.e bT,.v,.v,.v,.v,.e bF,.v,.v,.s,.s,.s,.s]) [.s,.v,.v]] [] [] (aC (congrArg (xh 190) c2) (aB c4 (aT (aB c7 aN))))
   ·obtain rfl:=sI H8;exact pR 3 [.eqT 4 (.nilI),.rg 16 (V 4 [.e bF,.v,.v,.s,.s,.s,.v,.v,.s,.s,.s,.s]) [.s,.v,.v]] [] [] (aC (congrArg (xh 190) c2) (aB c5 aN))
  ·obtain rfl:=sI H6;exact pR 3 [.eqT 4 (.iface 190 (.any)),.rg 16 [.v,.v,.v,.s,.s,.v,.v,.s,.s,.s,.v,.v,.s,.s,.s,.s] [.s,.v,.v]] [] [] (aC (congrArg (xh 190) c3) aN)
 ·refine pA 12 [.rg 0 [] [.v],.rg 0 [] [.v,.c true (.bool y0)],.eqT 8 bF,.rg 0 [] [.v,.m,.e (.int .i64 ((x0.length:Nat):Int)),.v]] [.only [0,2,34,35,36] []] 11 [false] (la x0 0 ()) (aC Tryz.call88 (aF (fi _ _ _ h0) (aB c1 (aT (aC (aP ya x0) aN))))) ?_;refine aQ H2 fun R0 h4 H12 => ?_;refine pJ 1 (p7 x0) R0 ?_ (fun u1 e0 => ?_)
  ·refine pC (la x0) h4 (fun i0 s0 h5 e1 => ?_) (fun i0 s0 h6 q0 h7 h8 => ?_)
   ·have c8:=lF i0 x0.length (by omega);subst e1;exact pB 5 [r0 [.e bF]] [.only [0,2] []] (p7 x0 ()) (aB c8 aN)
   ·have c9:=lT i0 x0.length (by omega);refine pD 10 [r0 [.e bT],r0 [.v,.e (.dptr [.int .u8 (((x0.getD i0 0)).toNat:Int)]),.v,.v,.v]] [.only [0,2,5,6,34,35,36] []] 10 [true] (aB c9 (aI EX x0 i0 0 aN)) ?_;refine aQ h7 fun v0 h9 H13 => ?_;refine pJ 2 (jr x0 i0) v0 ?_ (fun u0 e2 => ?_)
    ·refine aZ h9 (fun c10 H14 => ?_) (fun c11 H15 => ?_)
     ·refine aZ H14 (fun c12 H16 => ?_) (fun c13 H17 => ?_)
      ·obtain rfl:=sI H16;obtain rfl:=sI (aJ H13);obtain rfl:=aS h8;obtain rfl:=sI (aJ H12);exact pR 5 [r0 [.v,.e bT,.v,.s,.s,.v,.v,.v,.e bT,.v,.s,.s,.v,.v,.s,.s,.v,.v],V1] [] [] (aB c10 (aB c12 aN))
      ·refine aZ H17 (fun c14 H18 => ?_) (fun c15 H19 => ?_)
       ·obtain rfl:=sI H18;obtain rfl:=sI (aJ H13);obtain rfl:=aS h8;obtain rfl:=sI (aJ H12);exact pR 5 [r0 [.v,.e bT,.v,.s,.s,.v,.v,.v,.e bF,.v,.v,.e bT,.v,.v,.s,.s,.v,.v],V1] [] [] (aB c10 (aB c13 (aB c14 aN)))
       ·refine aZ H19 (fun c16 H20 => ?_) (fun c17 H21 => ?_)
        ·obtain rfl:=sI H20;obtain rfl:=sI (aJ H13);obtain rfl:=aS h8;obtain rfl:=sI (aJ H12);exact pR 6 [r0 [.v,.e bT,.v,.s,.s,.v,.v,.v,.e bF,.v,.v,.e bF,.v,.v,.v,.v,.v,.v],.eqT 58 bT,V1] [] [] (aB c10 (aB c13 (aB c15 (aB c16 aN))))
        ·obtain rfl:=sI H21;exact pB 4 [r0 [.v,.e bT,.v,.s,.s,.v,.v,.v,.e bF,.v,.v,.e bF,.v,.v,.v,.v,.v,.v],.eqT 58 bF] [.only [0,2,34,35,36] []] (jr x0 i0 ()) (aB c10 (aB c13 (aB c15 (aB c17 aN))))
     ·refine aZ H15 (fun c18 H22 => ?_) (fun c19 H23 => ?_)
      ·refine aZ H22 (fun c20 H24 => ?_) (fun c21 H25 => ?_)
       ·obtain rfl:=sI H24;obtain rfl:=sI (aJ H13);obtain rfl:=aS h8;obtain rfl:=sI (aJ H12);exact pR 5 [r0 [.v,.e bF,.v,.v,.e bT,.v,.v,.v,.e bT,.v,.s,.s,.v,.v,.s,.s,.v,.v],V1] [] [] (aB c11 (aB c18 (aB c20 aN)))
       ·refine aZ H25 (fun c22 H26 => ?_) (fun c23 H27 => ?_)
        ·obtain rfl:=sI H26;obtain rfl:=sI (aJ H13);obtain rfl:=aS h8;obtain rfl:=sI (aJ H12);exact pR 5 [r0 [.v,.e bF,.v,.v,.e bT,.v,.v,.v,.e bF,.v,.v,.e bT,.v,.v,.s,.s,.v,.v],V1] [] [] (aB c11 (aB c18 (aB c21 (aB c22 aN))))
        ·refine aZ H27 (fun c24 H28 => ?_) (fun c25 H29 => ?_)
         ·obtain rfl:=sI H28;obtain rfl:=sI (aJ H13);obtain rfl:=aS h8;obtain rfl:=sI (aJ H12);exact pR 6 [r0 [.v,.e bF,.v,.v,.e bT,.v,.v,.v,.e bF,.v,.v,.e bF,.v,.v,.v,.v,.v,.v],.eqT 58 bT,V1] [] [] (aB c11 (aB c18 (aB c21 (aB c23 (aB c24 aN)))))
         ·obtain rfl:=sI H29;exact pB 4 [r0 [.v,.e bF,.v,.v,.e bT,.v,.v,.v,.e bF,.v,.v,.e bF,.v,.v,.v,.v,.v,.v],.eqT 58 bF] [.only [0,2,34,35,36] []] (jr x0 i0 ()) (aB c11 (aB c18 (aB c21 (aB c23 (aB c25 aN)))))
      ·obtain rfl:=sI H23;exact pB 3 [r0 [.v,.e bF,.v,.v,.e bF,.v,.v,.s,.s,.s,.s,.s,.s,.s,.s,.s,.s,.v]] [.only [0,2,34,35,36] []] (jr x0 i0 ()) (aB c11 (aB c19 aN))
    ·subst e2;have H30:=bq H13;refine bV 0 (ps:=[x0.length≤9223372036854775807]) (by kernel_rfl) (fun l0 => ?_);have l1:x0.length≤9223372036854775807:=by simpa only [cI,LI] using l0
     clear l0;obtain rfl:=sI H30;exact pB 1 [V2] [.only [0,2,34,35,36] []] (la x0 (i0+1) ()) (aH i0 aN)
  ·subst e0;have H31:=bq H12;refine aZ H31 (fun c26 H32 => ?_) (fun c27 H33 => ?_)
   ·obtain rfl:=sI H32;exact pR 3 [r0 [.v,.e bF,.v,.s,.s,.s,.v,.v]] [] [] (aM c26 aN)
   ·obtain rfl:=sI H33;exact pR 3 [r0 [.v,.e bT,.v,.v,.v,.v,.v,.v]] [] [] (aM c27 (aT aN))
def kR (x0:Int):Option Bool :=
 bif decide (x0≥(-1000000)) then (
  some (decide (x0≤1000000))
 ) else (
  some false
 )
theorem kj (x0:Int) (r:Bool) (H:kR x0=some r):bQ Tryz.prog 84 [iI x0] (.bool r):=by
 unfold kR at H;refine aX Tryz.func84 9 [.tmp 2] ?_;refine aZ H (fun c0 H0 => ?_) (fun c1 H1 => ?_)
 ·obtain rfl:=sI H0;exact pR 5 [V1,r0 [.v,.e bT,.v,.v,.v,.v,.v]] [] [] (aB c0 aN)
 ·obtain rfl:=sI H1;exact pR 5 [V1,r0 [.v,.e bF,.v,.s,.s,.v,.v]] [] [] (aB c1 aN)
def bR (x0:Linear):Option Bool :=
 (eH (σ:=Unit) (ε:=Unit) (ρ:=Bool) (fun i0 s0 =>
  (ka ((x0.Terms.getD i0 ay).Var)).bind fun y0 =>
  ((
   bif y0 then (
    bif (((x0.Terms.getD i0 ay).C)==0) then (
     some (.ret (.ret false))
    ) else (
     (kR ((x0.Terms.getD i0 ay).C)).bind fun y1 =>
     bif y1 then (
      bif decide (((i0:Nat):Int)>0) then (
       bM (0≤(aL (((i0:Nat):Int)-1))∧(aL (((i0:Nat):Int)-1))<(x0.Terms.length:Int)) <|
       bif (Op.bytesLess ((x0.Terms.getD (aL (((i0:Nat):Int)-1)).toNat ay).Var) ((x0.Terms.getD i0 ay).Var)) then (
        some (.brk ())
       ) else (
        some (.ret (.ret false))
       )
      ) else (
       some (.brk ())
      )
     ) else (
      some (.ret (.ret false))
     )
    )
   ) else (
    some (.ret (.ret false))
   )
  ):Option (Out Unit (gC Unit Unit Bool))).bind (aft fun u0 =>
   some (.go ())
  )
 ) (fun i0 s0=>()) (x0.Terms.length-0) 0 ()).bind <| aft fun u1 =>
 (kR x0.Const).bind fun y2 =>
 bif y2 then (
  some (decide (((x0.Terms.length:Nat):Int)≤12))
 ) else (
  some false
 )
def ko (x0:Linear) (i0:Nat) (s0:Unit):AS:=⟨54,[(1,.hptr 1 0),(2,.bool false),(6,dS ao x0.Terms),(7,nI x0.Terms.length),(8,nI i0)],[(1,.cells 34 [iI x0.Const,dS ao x0.Terms])]⟩
def oM (x0:Linear) (u2:Unit):AS:=⟨54,[(1,.hptr 1 0),(2,.bool false)],[(1,.cells 34 [iI x0.Const,dS ao x0.Terms])]⟩
def ku (x0:Linear) (i0:Nat) (u0:Unit):AS:=⟨54,[(1,.hptr 1 0),(2,.bool false),(6,dS ao x0.Terms),(7,nI x0.Terms.length),(8,nI i0)],[(1,.cells 34 [iI x0.Const,dS ao x0.Terms])]⟩
theorem bK (x0:Linear) (r:Bool) (H:bR x0=some r):bQ Tryz.prog 50 [.agg [iI x0.Const,dS ao x0.Terms]] (.bool r):=by
 unfold bR at H;refine aX Tryz.func50 54 [.tmp 2] ?_;refine pA 6 [r0 [.m,.v],r0 [.v,.v,.e (nI x0.Terms.length),.v]] [.only [1,2,6,7,8] [1]] 6 [] (ko x0 0 ()) (aT (aC (aP ao x0.Terms) aN)) ?_;refine aQ H fun R0 h0 H0 => ?_;refine pJ 1 (oM x0) R0 ?_ (fun u1 e0 => ?_)
 ·refine pC (ko x0) h0 (fun i0 s0 h1 e1 => ?_) (fun i0 s0 h2 q0 h3 h4 => ?_)
  ·have c0:=lF i0 x0.Terms.length (by omega);subst e1;exact pB 5 [r0 [.e bF]] [.only [1,2] [1]] (oM x0 ()) (aB c0 aN)
  ·have c1:=lT i0 x0.Terms.length (by omega);refine aQ h3 fun y0 h5 H1 => ?_;refine pD 10 [r0 [.e bT],r0 [.v,.e (.dptr (ao (x0.Terms.getD i0 ay))),.v,.m,.v,.m]] [.only [1,2,3,4,6,7,8] [1,4]] 10 [true] (aB c1 (aI bf x0.Terms i0 ay aN)) ?_;refine aQ H1 fun v0 h6 H2 => ?_;refine pJ 2 (ku x0 i0) v0 ?_ (fun u0 e2 => ?_)
   ·refine aZ h6 (fun c2 H3 => ?_) (fun c3 H4 => ?_)
    ·refine aZ H3 (fun c4 H5 => ?_) (fun c5 H6 => ?_)
     ·obtain rfl:=sI H5;obtain rfl:=sI (aJ H2);obtain rfl:=aS h4;obtain rfl:=sI (aJ H0);exact pR 5 [.rg 28 [.v,.v,.c true bT,.v,.v,.v,.v,.e bT,.v,.v,.s,.s,.s,.s,.v,.v,.s,.s,.s,.s,.s,.s,.s,.s,.s,.s,.s,.s] [.s,.s,.v],V1] [] [] (aC Tryz.call83 (aC (bQ.eq (gW _ _ h5) (cB c2)) (aT (aB c4 aN))))
     ·refine aQ H6 fun y1 h7 H7 => ?_;refine aZ H7 (fun c6 H8 => ?_) (fun c7 H9 => ?_)
      ·refine aZ H8 (fun c8 H10 => ?_) (fun c9 H11 => ?_)
       ·refine aK H10 fun g0 H12 => ?_;refine pD 1 [.rg 28 [.v,.v,.c true bT,.v,.v,.v,.v,.e bF,.v,.v,.v,.v,.c true bT,.v,.v,.v,.v,.e bT,.v,.v,.v,.v,.w,.e (.dptr (ao (x0.Terms.getD (aL (((i0:Nat):Int)-1)).toNat ay))),.v,.v,.v,.v] [.v,.v,.v]] [.only [1,2,6,7,8,43] [1]] 1 [] (aC Tryz.call83 (aC (bQ.eq (gW _ _ h5) (cB c2)) (aT (aB c5 (aC Tryz.call84 (aC (bQ.eq (kj _ _ h7) (cB c6)) (aT (aB c8 (b9 (Kj (f:=ao) (l:=x0.Terms) (n:=(aL (((i0:Nat):Int)-1))) ay bf (by decide) (by exact g0)) aN))))))))) ?_;refine aZ H12 (fun c10 H13 => ?_) (fun c11 H14 => ?_)
        ·obtain rfl:=sI H13;exact pB 3 [.eqT 43 bF] [.only [1,2,6,7,8] [1]] (ku x0 i0 ()) (aM c10 aN)
        ·obtain rfl:=sI H14;obtain rfl:=sI (aJ H2);obtain rfl:=aS h4;obtain rfl:=sI (aJ H0);exact pR 5 [.eqT 43 bT,V1] [] [] (aM c11 aN)
       ·obtain rfl:=sI H11;exact pB 3 [.rg 28 [.v,.v,.c true bT,.v,.v,.v,.v,.e bF,.v,.v,.v,.v,.c true bT,.v,.v,.v,.v,.e bF,.v,.s,.s,.s,.s,.s,.s,.s,.s,.s] [.s,.v,.v]] [.only [1,2,6,7,8] [1]] (ku x0 i0 ()) (aC Tryz.call83 (aC (bQ.eq (gW _ _ h5) (cB c2)) (aT (aB c5 (aC Tryz.call84 (aC (bQ.eq (kj _ _ h7) (cB c6)) (aT (aB c9 aN))))))))
      ·obtain rfl:=sI H9;obtain rfl:=sI (aJ H2);obtain rfl:=aS h4;obtain rfl:=sI (aJ H0);exact pR 5 [.rg 28 [.v,.v,.c true bT,.v,.v,.v,.v,.e bF,.v,.v,.v,.v,.c true bF,.v,.v,.v,.s,.s,.s,.s,.s,.s,.s,.s,.s,.s,.s,.s] [.s,.s,.v],V1] [] [] (aC Tryz.call83 (aC (bQ.eq (gW _ _ h5) (cB c2)) (aT (aB c5 (aC Tryz.call84 (aC (bQ.eq (kj _ _ h7) (cB c7)) (aT aN)))))))
    ·obtain rfl:=sI H4;obtain rfl:=sI (aJ H2);obtain rfl:=aS h4;obtain rfl:=sI (aJ H0);exact pR 5 [.rg 28 [.v,.v,.c true bF,.v,.v,.s,.s,.s,.v,.v,.s,.s,.s,.s,.v,.v,.s,.s,.s,.s,.s,.s,.s,.s,.s,.s,.s,.s] [.s,.s,.v],V1] [] [] (aC Tryz.call83 (aC (bQ.eq (gW _ _ h5) (cB c3)) (aT aN)))
   ·subst e2;have H15:=bq H2;refine bV 6 (ps:=[(x0.Terms.map ao).length≤9223372036854775807]) (by kernel_rfl) (fun l0 => ?_);have l1:x0.Terms.length≤9223372036854775807:=by simpa only [cI,LI] using l0
    clear l0;obtain rfl:=sI H15;exact pB 1 [V2] [.only [1,2,6,7,8] [1]] (ko x0 (i0+1) ()) (aH i0 aN)
 ·subst e0;have H16:=bq H0;refine aQ H16 fun y2 h8 H17 => ?_;refine aZ H17 (fun c12 H18 => ?_) (fun c13 H19 => ?_)
  ·obtain rfl:=sI H18;exact pR 3 [r0 [.v,.v,.c true bT,.v,.v,.v,.e (nI x0.Terms.length),.v,.v,.v]] [] [] (aC Tryz.call84 (aC (bQ.eq (kj _ _ h8) (cB c12)) (aT (aC (aP ao x0.Terms) aN))))
  ·obtain rfl:=sI H19;exact pR 3 [r0 [.v,.v,.c true bF,.v,.s,.s,.s,.s,.v,.v]] [] [] (aC Tryz.call84 (aC (bQ.eq (kj _ _ h8) (cB c13)) aN))
def gb (x0:Linear):Option Bool :=
 (bR x0).bind fun y0 =>
 some (!y0)
theorem qH (x0:Linear) (r:Bool) (H:gb x0=some r):bQ Tryz.prog 55 [.agg [iI x0.Const,dS ao x0.Terms]] (.bool r):=by unfold gb at H;refine aX Tryz.func55 6 [.tmp 2] ?_;refine aQ H fun y0 h0 H0 => ?_;obtain rfl:=sI H0;exact pR 5 [r0 [.m,.v],r0 [.v,.c true (.bool y0),.v,.v]] [] [] (aC Tryz.call50 (aF (bK _ _ h0) (aT aN)))
def b7 (x0:List Linear):Option Int :=
 (eH (σ:=Unit) (ε:=Unit) (ρ:=Int) (fun i0 s0 =>
  (gb (Linear.mk ((x0.getD i0 az).Const) ((x0.getD i0 az).Terms))).bind fun y0 =>
  bif y0 then (
   some (.ret ((i0:Nat):Int))
  ) else (
   some (.go ())
  )
 ) (fun i0 s0=>()) (x0.length-0) 0 ()).bind <| aft fun u0 =>
 some (-1)
def dw (x0:List Linear) (i0:Nat) (s0:Unit):AS:=⟨19,[(0,dS ak x0),(1,.fn 55 []),(4,iI 0),(7,nI x0.length),(8,nI i0)],[]⟩
def fx (u1:Unit):AS:=⟨19,[(4,iI 0)],[]⟩
theorem j4 (x0:List Linear) (r:Int) (H:b7 x0=some r):bQ Tryz.prog 87 [dS ak x0,.fn 55 []] (iI r):=by
 unfold b7 at H;refine aX Tryz.func87 19 [.tmp 4] ?_;refine pA 6 [V1,r0 [.v,.e (nI x0.length),.v]] [.only [0,1,4,7,8] []] 6 [] (dw x0 0 ()) (aT (aC (aP ak x0) aN)) ?_;refine aQ H fun R0 h0 H0 => ?_;refine pJ 1 (fx) R0 ?_ (fun u0 e0 => ?_)
 ·refine pC (dw x0) h0 (fun i0 s0 h1 e1 => ?_) (fun i0 s0 h2 q0 h3 h4 => ?_)
  ·have c0:=lF i0 x0.length (by omega);subst e1;exact pB 5 [r0 [.e bF]] [.only [4] []] (fx ()) (aB c0 aN)
  ·have c1:=lT i0 x0.length (by omega);refine aQ h3 fun y0 h5 H1 => ?_;refine pD 11 [r0 [.e bT],V2,r0 [.v,.v,.v,.e (.dptr (ak (x0.getD i0 az))),.v,.c true (.bool y0)]] [.only [0,1,4,5,7,8,16] []] 11 [true] (aB c1 (aI bh x0 i0 az (aC Tryz.call55 (aF (qH _ _ h5) aN)))) ?_;refine aZ H1 (fun c2 H2 => ?_) (fun c3 H3 => ?_)
   ·obtain rfl:=sI H2;obtain rfl:=aS h4;obtain rfl:=sI (aJ H0);exact pR 5 [.eqT 16 bT,V2] [] [] (aB c2 aN)
   ·refine bV 0 (ps:=[(x0.map ak).length≤9223372036854775807]) (by kernel_rfl) (fun l0 => ?_);have l1:x0.length≤9223372036854775807:=by simpa only [cI,LI] using l0
    clear l0;obtain rfl:=sI H3;exact pB 4 [.eqT 16 bF,V2] [.only [0,1,4,7,8] []] (dw x0 (i0+1) ()) (aB c3 (aH i0 aN))
 ·subst e0;have H4:=bq H0;obtain rfl:=sI H4;exact pR 3 [V1] [] [] aN
def cp (x0:List Linear):Option Bool :=
 (b7 x0).bind fun y0 =>
 some (decide (y0≥0))
theorem jo (x0:List Linear) (r:Bool) (H:cp x0=some r):bQ Tryz.prog 54 [dS ak x0,.fn 55 []] (.bool r):=by unfold cp at H;refine aX Tryz.func54 9 [.tmp 4] ?_;refine aQ H fun y0 h0 H0 => ?_;obtain rfl:=sI H0;exact pR 5 [V1,r0 [.v,.v,.c true (iI y0),.v,.v]] [] [] (aC Tryz.call87 (aF (j4 _ _ h0) aN))
def bU (x0:List Linear):Option Bool :=
 (cp x0).bind fun y0 =>
 some (!y0)
theorem aW (x0:List Linear) (r:Bool) (H:bU x0=some r):bQ Tryz.prog 27 [dS ak x0] (.bool r):=by unfold bU at H;refine aX Tryz.func27 6 [.tmp 2] ?_;refine aQ H fun y0 h0 H0 => ?_;obtain rfl:=sI H0;exact pR 5 [V1,r0 [.v,.c true (.bool y0),.v,.v]] [] [] (aC Tryz.call54 (aF (jo _ _ h0) (aT aN)))
def iQ (x0:Linear):Option (List au) :=
 (eH (σ:=(List au)) (ε:=(List au)) (ρ:=Empty) (fun i0 s0 =>
  bM ((s0.length+1)*16≤140737488355328) <|
  some (.go (s0++[((x0.Terms.getD i0 ay).Var)]))
 ) (fun i0 s0=>s0) (x0.Terms.length-0) 0 []).bind <| dI fun u0 =>
 some u0
def lA (x0:Linear) (i0:Nat) (s0:List au):AS:=⟨20,[(2,.eslice),(3,.rslice 17),(7,dS ao x0.Terms),(8,nI x0.Terms.length),(9,nI i0)],[(17,.row 9 1 (s0.map bt))]⟩
def py (u1:List au):AS:=⟨20,[(2,.eslice),(3,.rslice 17)],[(17,.row 9 1 (u1.map bt))]⟩
theorem wU (x0:Linear) (r:List au) (H:iQ x0=some r):bQ Tryz.prog 62 [.agg [iI x0.Const,dS ao x0.Terms]] (dS bt r):=by
 unfold iQ at H;refine aX Tryz.func62 20 [.tmp 2] ?_;refine pA 8 [r0 [.m,.v],V1,r0 [.v,.v,.e (nI x0.Terms.length),.v]] [.er 3 17 9 1,.only [2,3,7,8,9] [17]] 8 [] (lA x0 0 []) (aT (aC (aP ao x0.Terms) aN)) ?_;refine aQ H fun R0 h0 H0 => ?_;refine pJ 1 (py) R0 ?_ (fun u0 e0 => ?_)
 ·refine pC (lA x0) h0 (fun i0 s0 h1 e1 => ?_) (fun i0 s0 h2 q0 h3 h4 => ?_)
  ·have c0:=lF i0 x0.Terms.length (by omega);subst e1;exact pB 5 [r0 [.e bF]] [.only [2,3] [17]] (py s0) (aB c0 aN)
  ·have c1:=lT i0 x0.Terms.length (by omega);refine aK h3 fun g0 H1 => ?_;refine bV 7 (ps:=[(x0.Terms.map ao).length≤9223372036854775807]) (by kernel_rfl) (fun l0 => ?_);have l1:x0.Terms.length≤9223372036854775807:=by simpa only [cI,LI] using l0
   clear l0;obtain rfl:=sI H1;exact pB 11 [r0 [.e bT],r0 [.e (.dptr (ao (x0.Terms.getD i0 ay))),.v,.m,.m],r0 [.v,.v,.v,.b,.ap,.rwH 17 (.row 9 1 ((s0++[((x0.Terms.getD i0 ay).Var)]).map bt)),.v],V2] [.only [2,3,7,8,9] [17]] (lA x0 (i0+1) (s0++[((x0.Terms.getD i0 ay).Var)])) (aB c1 (aI bf x0.Terms i0 ay (b9 (yf (c:=bt) rQ s0 [((x0.Terms.getD i0 ay).Var)] 16 (by decide) (by first | (simp;done) | simpa using g0)) (aC (Bn 9 1 bt s0 [((x0.Terms.getD i0 ay).Var)]) (aH i0 aN)))))
 ·subst e0;have H2:=bG H0;refine cR H2 fun e2 => ?_;subst e2;exact pR 3 [V2] [.fz 17] [] aN
noncomputable def bj (x0:List Linear):Option (List au) :=
 (eH (σ:=(List (au×Bool))) (ε:=(List (au×Bool))) (ρ:=Empty) (fun i0 s0 =>
  (iQ (Linear.mk ((x0.getD i0 az).Const) ((x0.getD i0 az).Terms))).bind fun y0 =>
  (eH (σ:=(List (au×Bool))) (ε:=(List (au×Bool))) (ρ:=Empty) (fun i1 s1 =>
   some (.go (bI (y0.getD i1 []) true s1))
  ) (fun i1 s1=>s1) (y0.length-0) 0 s0).bind <| dI fun u0 =>
  some (.go u0)
 ) (fun i0 s0=>s0) (x0.length-0) 0 []).bind <| dI fun u1 =>
 nY (σ:=(List au)) (ε:=Empty) (β:=(List au)) u1 (fun e0 s2 =>
  bM ((s2.length+1)*16≤140737488355328) <|
  some (.go (s2++[e0.1]))
 ) [] (fun s2 =>
  (jZ s2).bind fun y1 =>
  some y1
 )
def fI (x0:List Linear) (i0:Nat) (s0:List (au×Bool)):AS:=⟨41,[(2,.eslice),(3,.amap 10),(11,dS ak x0),(12,nI x0.length),(13,nI i0)],[(10,.smap 0 4 (s0.map (j3 mI)))]⟩
def jg (u2:List (au×Bool)):AS:=⟨41,[(2,.eslice),(3,.amap 10)],[(10,.smap 0 4 (u2.map (j3 mI)))]⟩
def fH (x0:List Linear) (i0:Nat) (y0:List au) (i1:Nat) (s1:List (au×Bool)):AS:=⟨41,[(2,.eslice),(3,.amap 10),(11,dS ak x0),(12,nI x0.length),(13,nI i0),(18,dS bt y0),(19,nI y0.length),(20,nI i1)],[(10,.smap 0 4 (s1.map (j3 mI)))]⟩
def ja (x0:List Linear) (i0:Nat) (u3:List (au×Bool)):AS:=⟨41,[(2,.eslice),(3,.amap 10),(11,dS ak x0),(12,nI x0.length),(13,nI i0)],[(10,.smap 0 4 (u3.map (j3 mI)))]⟩
def fG (u1:List (au×Bool)) (i2:List Nat) (s2:List au):AS:=⟨41,[(2,.eslice),(8,.rslice 37),(29,.hptr 29 0)],[(29,.iter (u1.map (j3 mI)) i2),(37,.row 9 1 (s2.map bt))]⟩
theorem dq (x0:List Linear) (r:List au) (H:bj x0=some r):bQ Tryz.prog 31 [dS ak x0] (dS bt r):=by
 unfold bj at H;refine aX Tryz.func31 41 [.tmp 2] ?_;refine pA 8 [V1,r0 [.m,.v],r0 [.v,.e (nI x0.length),.v]] [.only [2,3,11,12,13] [10]] 8 [] (fI x0 0 []) (aT (aC (aP ak x0) aN)) ?_;refine aQ H fun R0 h0 H0 => ?_;refine pJ 1 (jg) R0 ?_ (fun u1 e1 => ?_)
 ·refine pC (fI x0) h0 (fun i0 s0 h1 e2 => ?_) (fun i0 s0 h2 q0 h3 h4 => ?_)
  ·have c0:=lF i0 x0.length (by omega);subst e2;exact pB 5 [r0 [.e bF]] [.only [2,3] [10]] (jg s0) (aB c0 aN)
  ·have c1:=lT i0 x0.length (by omega);refine aQ h3 fun y0 h5 H1 => ?_;refine pA 12 [r0 [.e bT],r0 [.e (.dptr (ak (x0.getD i0 az))),.v,.m,.m],r0 [.v,.c true (dS bt y0),.e (nI y0.length),.v]] [.only [2,3,11,12,13,18,19,20] [10]] 12 [true] (fH x0 i0 y0 0 s0) (aB c1 (aI bh x0 i0 az (aC Tryz.call62 (aF (wU _ _ h5) (aT (aC (aP bt y0) aN)))))) ?_;refine aQ H1 fun R1 h6 H2 => ?_;refine pJ 2 (ja x0 i0) R1 ?_ (fun u0 e3 => ?_)
   ·refine pC (fH x0 i0 y0) h6 (fun i1 s1 h7 e4 => ?_) (fun i1 s1 h8 q1 h9 h10 => ?_)
    ·have c2:=lF i1 y0.length (by omega);subst e4;exact pB 5 [r0 [.e bF]] [.only [2,3,11,12,13] [10]] (ja x0 i0 s1) (aB c2 aN)
    ·have c3:=lT i1 y0.length (by omega);refine bV 18 (ps:=[(y0.map bt).length≤9223372036854775807]) (by kernel_rfl) (fun l0 => ?_);have l1:y0.length≤9223372036854775807:=by simpa only [cI,LI] using l0
     clear l0;obtain rfl:=sI h9;exact pB 11 [r0 [.e bT],r0 [.e (.dptr [.str (y0.getD i1 [])]),.v,.v],r0 [.v,.v,.m,.rwH 10 (.smap 0 4 ((bI (y0.getD i1 []) true s1).map (j3 mI)))],V2] [.only [2,3,11,12,13,18,19,20] [10]] (fH x0 i0 y0 (i1+1) (bI (y0.getD i1 []) true s1)) (aB c3 (aI pZ y0 i1 [] (aC (congrArg (AO.smap 0 4) (jP (c:=mI) (y0.getD i1 []) true s1)) (aH i1 aN))))
   ·subst e3;have H3:=bG H2;refine bV 11 (ps:=[(x0.map ak).length≤9223372036854775807]) (by kernel_rfl) (fun l2 => ?_);have l3:x0.length≤9223372036854775807:=by simpa only [cI,LI] using l2
    clear l2;obtain rfl:=sI H3;exact pB 1 [V2] [.only [2,3,11,12,13] [10]] (fI x0 (i0+1) u0) (aH i0 aN)
 ·subst e1;have H4:=bG H0;refine pA 6 [V1,r0 [.v,.fm 10,.m]] [.er 8 37 9 1,.only [2,8,29] [29,37]] 6 [] (fG u1 [] []) (aC (uy Ge u1) aN) ?_;refine qq (cc:=mI) 29 (fG u1) (by kernel_rfl) H4 [.v] (fun i2 s2=>⟨by kernel_rfl,by kernel_rfl⟩) (fun i2 s2=>⟨41,[(2,.eslice),(8,.rslice 37),(29,.hptr 29 0),(30,.tup [.bool false]),(31,.bool false)],[(29,.iter (u1.map (j3 mI)) i2),(37,.row 9 1 (s2.map bt))]⟩) (fun i2 s2=>by kernel_rfl) (fun i2 s2 n0 e0=>⟨41,[(2,.eslice),(8,.rslice 37),(29,.hptr 29 0),(30,.tup [.bool true,.str e0.1,.bool e0.2]),(31,.bool true)],[(29,.iter (u1.map (j3 mI)) (i2++[n0])),(37,.row 9 1 (s2.map bt))]⟩) (fun i2 s2 n0 e0=>by kernel_rfl) (fun i2 s2 H5 => ?_) (fun i2 s2 n0 e0 h11 q2 h12 h13 => ?_)
  ·refine aQ H5 fun y1 h14 H6 => ?_;refine cR H6 fun e5 => ?_;subst e5;exact pR 8 [r0 [.v,.hR [(37,1000)] 39 (.tup []) [(1000,.row 9 1 (y1.map bt))]],V2] [.fz 37] [] (aC Tryz.call63 (aC (vW s2 y1 h14) aN))
  ·refine aK h12 fun g0 H7 => ?_;obtain rfl:=sI H7;exact pB 7 [r0 [.en n0 (.tup [.str e0.1,.bool e0.2]),.v,.v],r0 [.v,.v,.b,.ap,.rwH 37 (.row 9 1 ((s2++[e0.1]).map bt)),.v]] [.only [2,8,29] [29,37]] (fG u1 (i2++[n0]) (s2++[e0.1])) (aC (jO i2 n0) (aC (wg (cc:=mI) h11) (b9 (yf (c:=bt) rQ s2 [e0.1] 16 (by decide) (by first | (simp;done) | simpa using g0)) (aC (Bn 9 1 bt s2 [e0.1]) aN))))
def dF (x0:au):Option Int :=
 (dD x0 [95]).bind fun y0 =>
 bif y0 then (
  bM (1≤x0.length) <|
  (lg (x0.drop 1)).bind fun y1 =>
  some y1.1
 ) else (
  some 0
 )
theorem jf (x0:au) (r:Int) (H:dF x0=some r):bQ Tryz.prog 56 [.str x0] (iI r):=by
 unfold dF at H;refine aX Tryz.func56 15 [.tmp 2] ?_;refine aQ H fun y0 h0 H0 => ?_;refine aZ H0 (fun c0 H1 => ?_) (fun c1 H2 => ?_)
 ·refine aK H1 fun g0 H3 => ?_;refine aQ H3 fun y1 h1 H4 => ?_;obtain rfl:=sI H4;exact pR 13 [V1,r0 [.v,.c true (.bool y0),.v],.eqT 7 bF,r0 [.v,.e (.str (x0.drop 1)),.cf true (.tup [iI y1.1,xh 190 y1.2]),.v,.v,.v,.v,.v],V2] [] [] (aC Tryz.call88 (aF (fi _ _ _ h0) (aT (aM c0 (aC (show (0:Int)≤1∧1≤(x0.length:Int)∧(x0.length:Int)≤(x0.length:Int) from by omega) (aC (ym x0 1) (aC Tryz.call89 (aF (v7 (x0.drop 1) y1 h1) (aC (show wD true (.tup [iI y1.1,xh 190 y1.2])=true from by cases h2:y1.2<;>rfl) aN)))))))))
 ·obtain rfl:=sI H2;exact pR 10 [V1,r0 [.v,.c true (.bool y0),.v],.eqT 7 bT,V1] [] [] (aC Tryz.call88 (aF (fi _ _ _ h0) (aT (aM c1 aN))))
noncomputable def ca (x0:List Linear):Option Int :=
 (bj x0).bind fun y0 =>
 (eH (σ:=Int) (ε:=Int) (ρ:=Empty) (fun i0 s0 =>
  (dF (y0.getD i0 [])).bind fun y1 =>
  some (.go (if y1>s0 then y1 else s0))
 ) (fun i0 s0=>s0) (y0.length-0) 0 0).bind <| dI fun u0 =>
 some u0
def fT (y0:List au) (i0:Nat) (s0:Int):AS:=⟨19,[(2,iI 0),(3,iI s0),(7,dS bt y0),(8,nI y0.length),(9,nI i0)],[]⟩
def jC (u1:Int):AS:=⟨19,[(2,iI 0),(3,iI u1)],[]⟩
theorem jX (x0:List Linear) (r:Int) (H:ca x0=some r):bQ Tryz.prog 28 [dS ak x0] (iI r):=by
 unfold ca at H;refine aX Tryz.func28 19 [.tmp 2] ?_;refine aQ H fun y0 h0 H0 => ?_;refine pA 8 [V1,V1,r0 [.v,.c true (dS bt y0),.e (nI y0.length),.v]] [.only [2,3,7,8,9] []] 8 [] (fT y0 0 0) (aC Tryz.call31 (aF (dq _ _ h0) (aT (aC (aP bt y0) aN)))) ?_;refine aQ H0 fun R0 h1 H1 => ?_;refine pJ 1 (jC) R0 ?_ (fun u0 e0 => ?_)
 ·refine pC (fT y0) h1 (fun i0 s0 h2 e1 => ?_) (fun i0 s0 h3 q0 h4 h5 => ?_)
  ·have c0:=lF i0 y0.length (by omega);subst e1;exact pB 5 [r0 [.e bF]] [.only [2,3] []] (jC s0) (aB c0 aN)
  ·have c1:=lT i0 y0.length (by omega);refine aQ h4 fun y1 h6 H2 => ?_;refine bV 7 (ps:=[(y0.map bt).length≤9223372036854775807]) (by kernel_rfl) (fun l0 => ?_);have l1:y0.length≤9223372036854775807:=by simpa only [cI,LI] using l0
   clear l0;obtain rfl:=sI H2;exact pB 11 [r0 [.e bT],r0 [.e (.dptr [.str (y0.getD i0 [])]),.v,.v],r0 [.v,.v,.c true (iI y1),.v,.v],V2] [.only [2,3,7,8,9] []] (fT y0 (i0+1) (if y1>s0 then y1 else s0)) (aB c1 (aI pZ y0 i0 [] (aC Tryz.call56 (aF (jf _ _ h6) (aT (aH i0 aN))))))
 ·subst e0;have H3:=bG H1;refine cR H3 fun e2 => ?_;subst e2;exact pR 3 [V2] [] [] aN
def dY (x0:Linear):Option Bool :=
 bif (((x0.Terms.length:Nat):Int)==0) then (
  some (x0.Const==0)
 ) else (
  some false
 )
theorem sJ (x0:Linear) (r:Bool) (H:dY x0=some r):bQ Tryz.prog 29 [.agg [iI x0.Const,dS ao x0.Terms]] (.bool r):=by
 unfold dY at H;refine aX Tryz.func29 12 [.tmp 2] ?_;refine aZ H (fun c0 H0 => ?_) (fun c1 H1 => ?_)
 ·obtain rfl:=sI H0;exact pR 5 [r0 [.m,.v],r0 [.v,.v,.e (nI x0.Terms.length),.e bT,.v,.v,.v,.v,.v,.v]] [] [] (aT (aC (aP ao x0.Terms) (aB c0 aN)))
 ·obtain rfl:=sI H1;exact pR 5 [r0 [.m,.v],r0 [.v,.v,.e (nI x0.Terms.length),.e bF,.v,.s,.s,.s,.v,.v]] [] [] (aT (aC (aP ao x0.Terms) (aB c1 aN)))
def gA (x0:Linear):Option Int :=
 (bR x0).bind fun y0 =>
 bif y0 then (
  (eH (σ:=Int) (ε:=Int) (ρ:=Empty) (fun i0 s0 =>
   (kz (σ:=(Int×Int)) (ε:=Int) (ρ:=Empty) (fun s1 =>
    bif (s1.2==0) then (
     some (.brk s1.1)
    ) else (
     bM ((s1.2:Int)≠0) <|
     some (.go (s1.2,(s1.1.tmod s1.2)))
    )
   ) 4294967296 (s0,(if (aL (0-((x0.Terms.getD i0 ay).C)))>((x0.Terms.getD i0 ay).C) then (aL (0-((x0.Terms.getD i0 ay).C))) else ((x0.Terms.getD i0 ay).C)))).bind <| dI fun u0 =>
   some (.go u0)
  ) (fun i0 s0=>s0) (x0.Terms.length-0) 0 0).bind <| dI fun u1 =>
  some u1
 ) else (
  some 0
 )
def jm (x0:Linear) (i0:Nat) (s0:Int):AS:=⟨34,[(2,iI 0),(3,iI s0),(12,dS ao x0.Terms),(13,nI x0.Terms.length),(14,nI i0)],[]⟩
def mG (u2:Int):AS:=⟨34,[(2,iI 0),(3,iI u2)],[]⟩
def jx (x0:Linear) (i0:Nat) (s0:Int) (s1:Int×Int):AS:=⟨34,[(2,iI 0),(3,iI s0),(6,iI s1.1),(7,iI s1.2),(12,dS ao x0.Terms),(13,nI x0.Terms.length),(14,nI i0)],[]⟩
def mM (x0:Linear) (i0:Nat) (s0 u3:Int):AS:=⟨34,[(2,iI 0),(3,iI s0),(6,iI u3),(12,dS ao x0.Terms),(13,nI x0.Terms.length),(14,nI i0)],[]⟩
theorem sY (x0:Linear) (r:Int) (H:gA x0=some r):bQ Tryz.prog 57 [.agg [iI x0.Const,dS ao x0.Terms]] (iI r):=by
 unfold gA at H;refine aX Tryz.func57 34 [.tmp 2] ?_;refine aQ H fun y0 h0 H0 => ?_;refine aZ H0 (fun c0 H1 => ?_) (fun c1 H2 => ?_)
 ·refine pA 14 [.rg 0 [] [.m,.v],.rg 0 [] [.v],.rg 0 [] [.v,.c true (.bool y0),.v],.eqT 10 bF,.rg 0 [] [.v,.v,.e (.int .i64 ((x0.Terms.length:Nat):Int)),.v]] [.only [2,3,12,13,14] []] 13 [false] (jm x0 0 0) (aC Tryz.call50 (aF (bK _ _ h0) (aT (aM c0 (aT (aC (aP ao x0.Terms) aN)))))) ?_;refine aQ H1 fun R0 h1 H3 => ?_;refine pJ 1 (mG) R0 ?_ (fun u1 e0 => ?_)
  ·refine pC (jm x0) h1 (fun i0 s0 h2 e1 => ?_) (fun i0 s0 h3 q0 h4 h5 => ?_)
   ·have c2:=lF i0 x0.Terms.length (by omega);subst e1;exact pB 5 [r0 [.e bF]] [.only [2,3] []] (mG s0) (aB c2 aN)
   ·have c3:=lT i0 x0.Terms.length (by omega);refine pA 13 [r0 [.e bT],r0 [.e (.dptr (ao (x0.Terms.getD i0 ay))),.v,.m,.m],.rg 8 (V 5 [.w,.v,.v]) [.v]] [.only [2,3,6,7,12,13,14] []] 13 [true] (jx x0 i0 s0 (s0,(if (aL (0-((x0.Terms.getD i0 ay).C)))>((x0.Terms.getD i0 ay).C) then (aL (0-((x0.Terms.getD i0 ay).C))) else ((x0.Terms.getD i0 ay).C)))) (aB c3 (aI bf x0.Terms i0 ay (aT aN))) ?_;refine aQ h4 fun R1 h6 H4 => ?_;refine pJ 1 (mM x0 i0 s0) R1 ?_ (fun u0 e2 => ?_)
    ·refine qU (jx x0 i0 s0) (by kernel_rfl) h6 (fun s1 q1 h7 h8 => ?_)
     ·refine aZ h7 (fun c4 H5 => ?_) (fun c5 H6 => ?_)
      ·obtain rfl:=sI H5;obtain rfl:=iU h8;exact pB 6 [V2,.eqT 26 bF] [.only [2,3,6,12,13,14] []] (mM x0 i0 s0 s1.1) (aM c4 aN)
      ·refine aK H6 fun g0 H7 => ?_;obtain rfl:=sI H7;exact pB 8 [V2,.eqT 26 bT,.rg 5 (V 5 []) [.v]] [.only [2,3,6,7,12,13,14] []] (jx x0 i0 s0 (s1.2,(s1.1.tmod s1.2))) (aM c5 (aC (show (s1.2:Int)≠0 from g0) aN))
    ·subst e2;have H8:=bG H4;refine bV 12 (ps:=[(x0.Terms.map ao).length≤9223372036854775807]) (by kernel_rfl) (fun l0 => ?_);have l1:x0.Terms.length≤9223372036854775807:=by simpa only [cI,LI] using l0
     clear l0;obtain rfl:=sI H8;exact pB 2 [V2,V2] [.only [2,3,12,13,14] []] (jm x0 (i0+1) u0) (aH i0 aN)
  ·subst e0;have H9:=bG H3;refine cR H9 fun e3 => ?_;subst e3;exact pR 3 [V2] [] [] aN
 ·obtain rfl:=sI H2;exact pR 12 [r0 [.m,.v],V1,r0 [.v,.c true (.bool y0),.v],.eqT 10 bT,V1] [] [] (aC Tryz.call50 (aF (bK _ _ h0) (aT (aM c1 aN))))
def eT (x0:List Int):Option Bool :=
 (eH (σ:=Unit) (ε:=Unit) (ρ:=Bool) (fun i0 s0 =>
  bif decide ((x0.getD i0 0)<(-4611686018427387904)) then (
   some (.ret false)
  ) else (
   bif decide ((x0.getD i0 0)>4611686018427387904) then (
    some (.ret false)
   ) else (
    some (.go ())
   )
  )
 ) (fun i0 s0=>()) (x0.length-0) 0 ()).bind <| aft fun u0 =>
 some true
def nE (x0:List Int) (i0:Nat) (s0:Unit):AS:=⟨18,[(2,.bool false),(5,dS aj x0),(6,nI x0.length),(7,nI i0)],[]⟩
def qR (u1:Unit):AS:=⟨18,[(2,.bool false)],[]⟩
theorem bJ (x0:List Int) (r:Bool) (H:eT x0=some r):bQ Tryz.prog 80 [dS aj x0] (.bool r):=by
 unfold eT at H;refine aX Tryz.func80 18 [.tmp 2] ?_;refine pA 6 [V1,r0 [.v,.e (nI x0.length),.v]] [.only [2,5,6,7] []] 6 [] (nE x0 0 ()) (aT (aC (aP aj x0) aN)) ?_;refine aQ H fun R0 h0 H0 => ?_;refine pJ 1 (qR) R0 ?_ (fun u0 e0 => ?_)
 ·refine pC (nE x0) h0 (fun i0 s0 h1 e1 => ?_) (fun i0 s0 h2 q0 h3 h4 => ?_)
  ·have c0:=lF i0 x0.length (by omega);subst e1;exact pB 5 [r0 [.e bF]] [.only [2] []] (qR ()) (aB c0 aN)
  ·have c1:=lT i0 x0.length (by omega);refine aZ h3 (fun c2 H1 => ?_) (fun c3 H2 => ?_)
   ·have c2p:=LF c2;obtain rfl:=sI H1;obtain rfl:=aS h4;obtain rfl:=sI (aJ H0);exact pR 15 [r0 [.e bT],r0 [.e (.dptr [iI (x0.getD i0 0)]),.v,.v],r0 [.v,.e bT,.v,.s,.s,.v],V1] [] [] (aB c1 (aI bZ x0 i0 0 (aB c2 aN)))
   ·have c3p:=LD c3;refine aZ H2 (fun c4 H3 => ?_) (fun c5 H4 => ?_)
    ·have c4p:=LF c4;obtain rfl:=sI H3;obtain rfl:=aS h4;obtain rfl:=sI (aJ H0);exact pR 16 [r0 [.e bT],r0 [.e (.dptr [iI (x0.getD i0 0)]),.v,.v],r0 [.v,.e bF,.v,.v,.v,.v],.eqT 16 bT,V1] [] [] (aB c1 (aI bZ x0 i0 0 (aB c3 (aB c4 aN))))
    ·have c5p:=LD c5;refine bV 5 (ps:=[(x0.map aj).length≤9223372036854775807]) (by kernel_rfl) (fun l0 => ?_);have l1:x0.length≤9223372036854775807:=by simpa only [cI,LI] using l0
     clear l0;obtain rfl:=sI H4;exact pB 15 [r0 [.e bT],r0 [.e (.dptr [iI (x0.getD i0 0)]),.v,.v],r0 [.v,.e bF,.v,.v,.v,.v],.eqT 16 bF,V2] [.only [2,5,6,7] []] (nE x0 (i0+1) ()) (aB c1 (aI bZ x0 i0 0 (aB c3 (aB c5 (aH i0 aN)))))
 ·subst e0;have H5:=bq H0;obtain rfl:=sI H5;exact pR 3 [V1] [] [] aN
def cH (x0:Int):Option Int :=
 bif decide (x0<0) then (
  some (aL (0-x0))
 ) else (
  some x0
 )
theorem cX (x0 r:Int) (H:cH x0=some r):bQ Tryz.prog 91 [iI x0] (iI r):=by
 unfold cH at H;refine aX Tryz.func91 8 [.tmp 2] ?_;refine aZ H (fun c0 H0 => ?_) (fun c1 H1 => ?_)
 ·obtain rfl:=sI H0;exact pR 10 [V1,V2,.eqT 4 bT,r0 [.v,.w,.v]] [] [] (aB c0 aN)
 ·refine cR H1 fun e0 => ?_;subst e0;exact pR 11 [V1,V2,.eqT 4 bF,V2] [] [] (aB c1 aN)
def eN (x0 x1:Int):Option (Int×Int) :=
 (eT [x0,x1]).bind fun y0 =>
 bif y0 then (
  (cH x0).bind fun y1 =>
  (cH x1).bind fun y2 =>
  (kU (IntKind.wrap .u64 y1) (IntKind.wrap .u64 y2)).bind fun y3 =>
  bif decide (y3.1>0) then (
   some (0,2)
  ) else (
   bif decide (y3.2>4611686018427387904) then (
    some (0,2)
   ) else (
    bif (decide (x0<0)==decide (x1<0)) then (
     some ((IntKind.wrap .i64 y3.2),0)
    ) else (
     some ((aL (0-(IntKind.wrap .i64 y3.2))),0)
    )
   )
  )
 ) else (
  some (0,2)
 )
theorem gT (x0 x1:Int) (r:Int×Int) (H:eN x0 x1=some r):bQ Tryz.prog 58 [iI x0,iI x1] (.tup [iI r.1,iI r.2]):=by
 unfold eN at H;refine aX Tryz.func58 39 [.tmp 4,.tmp 5] ?_;refine aQ H fun y0 h0 H0 => ?_;refine aZ H0 (fun c0 H1 => ?_) (fun c1 H2 => ?_)
 ·refine aQ H1 fun y1 h1 H3 => ?_;refine aQ H3 fun y2 h2 H4 => ?_;refine aQ H4 fun y3 h3 H5 => ?_;refine pD 12 [V2,r0 [.v,.v,.b,.c true (.bool y0),.v],.eqT 12 bF,r0 [.v,.c true (iI y1),.v,.v,.c true (iI y2),.v,.c true (.tup [.int .u64 y3.1,.int .u64 y3.2]),.v,.v,.v,.v,.v]] [.only [0,1,4,5,6,7] []] 11 [false] (aC Tryz.call80 (aF (bJ _ _ h0) (aT (aM c0 (aC Tryz.call91 (aF (cX _ _ h1) (aT (aC Tryz.call91 (aF (cX _ _ h2) (aT (aC Tryz.call90 (aF (pk (IntKind.wrap .u64 y1) (IntKind.wrap .u64 y2) y3 h3) aN)))))))))))) ?_;refine aZ H5 (fun c2 H6 => ?_) (fun c3 H7 => ?_)
  ·obtain rfl:=sI H6;exact pR 5 [r0 [.v,.e bT,.v,.s,.s,.v],V2] [] [] (aB c2 aN)
  ·refine aZ H7 (fun c4 H8 => ?_) (fun c5 H9 => ?_)
   ·obtain rfl:=sI H8;exact pR 6 [r0 [.v,.e bF,.v,.v,.v,.v],.eqT 28 bT,V2] [] [] (aB c3 (aB c4 aN))
   ·refine aZ H9 (fun c6 H10 => ?_) (fun c7 H11 => ?_)
    ·obtain rfl:=sI H10;exact pR 13 [r0 [.v,.e bF,.v,.v,.v,.v],.eqT 28 bF,V5,.eqT 33 bF,V4] [] [] (aB c3 (aB c5 (aM c6 (aT aN))))
    ·obtain rfl:=sI H11;exact pR 12 [r0 [.v,.e bF,.v,.v,.v,.v],.eqT 28 bF,V5,.eqT 33 bT,r0 [.v,.v,.w,.v,.v]] [] [] (aB c3 (aB c5 (aM c7 (aT aN))))
 ·obtain rfl:=sI H2;exact pR 10 [V2,r0 [.v,.v,.b,.c true (.bool y0),.v],.eqT 12 bT,V2] [] [] (aC Tryz.call80 (aF (bJ _ _ h0) (aT (aM c1 aN))))
def bE (x0 x1:Int):Option Bool :=
 bif (x1==0) then (
  bif decide (x0≥(-1099511627776)) then (
   some (decide (x0≤1099511627776))
  ) else (
   some false
  )
 ) else (
  some false
 )
theorem dd (x0 x1:Int) (r:Bool) (H:bE x0 x1=some r):bQ Tryz.prog 45 [iI x0,iI x1] (.bool r):=by
 unfold bE at H;refine aX Tryz.func45 15 [.tmp 4] ?_;refine aZ H (fun c0 H0 => ?_) (fun c1 H1 => ?_)
 ·refine aZ H0 (fun c2 H2 => ?_) (fun c3 H3 => ?_)
  ·obtain rfl:=sI H2;exact pR 5 [V1,r0 [.v,.e bT,.v,.v,.e bT,.v,.v,.v,.v,.v,.v]] [] [] (aB c0 (aB c2 aN))
  ·obtain rfl:=sI H3;exact pR 5 [V1,r0 [.v,.e bT,.v,.v,.e bF,.v,.v,.s,.s,.v,.v]] [] [] (aB c0 (aB c3 aN))
 ·obtain rfl:=sI H1;exact pR 5 [V1,r0 [.v,.e bF,.v,.s,.s,.v,.v,.s,.s,.v,.v]] [] [] (aB c1 aN)
def dT (x0 x1:aq):Option Int :=
 bif ((if (aL (0-x0.C))>x0.C then (aL (0-x0.C)) else x0.C)==(if (aL (0-x1.C))>x1.C then (aL (0-x1.C)) else x1.C)) then (
  (dF x0.Var).bind fun y0 =>
  (dF x1.Var).bind fun y1 =>
  bif (y0==y1) then (
   (o6 x1.Var x0.Var).bind fun y2 =>
   some y2
  ) else (
   some (aL (y1-y0))
  )
 ) else (
  some (aL ((if (aL (0-x0.C))>x0.C then (aL (0-x0.C)) else x0.C)-(if (aL (0-x1.C))>x1.C then (aL (0-x1.C)) else x1.C)))
 )
theorem rC (x0 x1:aq) (r:Int) (H:dT x0 x1=some r):bQ Tryz.prog 93 [.agg [.str x0.Var,iI x0.C],.agg [.str x1.Var,iI x1.C]] (iI r):=by
 unfold dT at H;refine aX Tryz.func93 44 [.tmp 4] ?_;refine aZ H (fun c0 H0 => ?_) (fun c1 H1 => ?_)
 ·refine aQ H0 fun y0 h0 H2 => ?_;refine aQ H2 fun y1 h1 H3 => ?_;refine pD 15 [r0 [.m,.m,.v],.rg 13 (V 4 [.w,.v,.v,.v,.v,.v,.w,.v,.v]) [.v],V3,.eqT 23 bF,.rg 5 [.v,.v,.c true (iI y0),.v,.v] [.c true (iI y1),.v,.v],V3] [.only [2,3,4,7,8,35] [2,3]] 14 [false] (aT (aT (aM c0 (aC Tryz.call56 (aF (jf _ _ h0) (aC Tryz.call56 (aF (jf _ _ h1) aN))))))) ?_;refine aZ H3 (fun c2 H4 => ?_) (fun c3 H5 => ?_)
  ·refine aQ H4 fun y2 h2 H6 => ?_;refine cR H6 fun e0 => ?_;subst e0;exact pR 6 [.eqT 35 bF,r0 (V 4 [.c true (iI y2),.v])] [] [] (aM c2 (aC Tryz.call35 (aF (wV x1.Var x0.Var y2 h2) aN)))
  ·obtain rfl:=sI H5;exact pR 5 [.eqT 35 bT,r0 [.v,.v,.w,.v]] [] [] (aM c3 aN)
 ·obtain rfl:=sI H1;exact pR 12 [r0 [.m,.m,.v],.rg 13 (V 4 [.w,.v,.v,.v,.v,.v,.w,.v,.v]) [.v],V3,.eqT 23 bT,r0 [.v,.v,.w,.v]] [] [] (aT (aT (aM c1 aN)))
def dB (x0:List aq):Option aq :=
 bif decide (((x0.length:Nat):Int)<1) then (
  none
 ) else (
  bM (0<x0.length) <|
  (eH (σ:=(au×Int)) (ε:=(au×Int)) (ρ:=Empty) (fun i0 s0 =>
   (dT (aq.mk ((x0.getD i0 ay).Var) ((x0.getD i0 ay).C)) (aq.mk s0.1 s0.2)).bind fun y0 =>
   ((
    bif decide (y0<0) then (
     some (((x0.getD i0 ay).Var),((x0.getD i0 ay).C))
    ) else (
     some (s0.1,s0.2)
    )
   ):Option (au×Int)).bind fun v0 =>
   some (.go (v0.1,v0.2))
  ) (fun i0 s0=>(s0.1,s0.2)) (x0.length-1) 1 (((x0.getD 0 ay).Var),((x0.getD 0 ay).C))).bind <| dI fun u0 =>
  some (aq.mk u0.1 u0.2)
 )
def dV (x0:List aq) (i0:Nat) (s0:au×Int):AS:=⟨33,[(0,dS ao x0),(1,.fn 93 []),(4,.hptr 4 0),(5,.hptr 5 0),(6,nI i0)],[(4,.cells 88 [.str [],iI 0]),(5,.cells 88 [.str s0.1,iI s0.2])]⟩
def gw (u1:au×Int):AS:=⟨33,[(4,.hptr 4 0),(5,.hptr 5 0)],[(4,.cells 88 [.str [],iI 0]),(5,.cells 88 [.str u1.1,iI u1.2])]⟩
def eA (x0:List aq) (i0:Nat) (v0:au×Int):AS:=⟨33,[(0,dS ao x0),(1,.fn 93 []),(4,.hptr 4 0),(5,.hptr 5 0),(6,nI i0)],[(4,.cells 88 [.str [],iI 0]),(5,.cells 88 [.str v0.1,iI v0.2])]⟩
theorem mB (x0:List aq) (r:aq) (H:dB x0=some r):bQ Tryz.prog 92 [dS ao x0,.fn 93 []] (.agg [.str r.Var,iI r.C]):=by
 unfold dB at H;refine aX Tryz.func92 33 [.cell 4 88] ?_;refine aZ H (fun c0 H0 => ?_) (fun c1 H1 => ?_)
 ·cases H0
 ·have c1p:=LD c1;refine aK H1 fun g0 H2 => ?_;refine pA 14 [r0 [.m],r0 [.v,.e (nI x0.length),.v],.eqT 9 bF,r0 [.v,.e (.dptr (ao (x0.getD 0 ay))),.v,.m,.m],V1] [.only [0,1,4,5,6] [4,5]] 13 [false] (dV x0 1 (((x0.getD 0 ay).Var),((x0.getD 0 ay).C))) (aT (aC (aP ao x0) (aB c1 (aI bf x0 0 ay aN)))) ?_;refine aQ H2 fun R0 h0 H3 => ?_;refine pJ 1 (gw) R0 ?_ (fun u0 e0 => ?_)
  ·refine pC (dV x0) h0 (fun i0 s0 h1 e1 => ?_) (fun i0 s0 h2 q0 h3 h4 => ?_)
   ·have c2:=lF i0 x0.length (by omega);subst e1;exact pB 5 [r0 [.v,.v,.e (nI x0.length),.e bF]] [.only [4,5] [4,5]] (gw (s0.1,s0.2)) (aT (aC (aP ao x0) (aB c2 aN)))
   ·have c3:=lT i0 x0.length (by omega);refine aQ h3 fun y0 h5 H4 => ?_;refine pD 9 [r0 [.v,.v,.e (nI x0.length),.e bT],.rg 6 [.v,.v,.v,.e (.dptr (ao (x0.getD i0 ay))),.v,.v] [.c true (iI y0),.v]] [.only [0,1,4,5,6,27] [4,5]] 9 [true] (aT (aC (aP ao x0) (aB c3 (aI bf x0 i0 ay (aC Tryz.call93 (aF (rC _ _ _ h5) aN)))))) ?_;refine aQ H4 fun v0 h6 H5 => ?_;refine eR 1 (eA x0 i0 v0) (by kernel_rfl) ?_ ?_
    ·refine aZ h6 (fun c4 H6 => ?_) (fun c5 H7 => ?_)
     ·have c4p:=LF c4;obtain rfl:=sI H6;exact pB 3 [.eqT 27 bT,r0 [.v,.v,.e (.dptr (ao (x0.getD i0 ay))),.v,.m]] [.only [0,1,4,5,6] [4,5]] (eA x0 i0 (((x0.getD i0 ay).Var),((x0.getD i0 ay).C))) (aB c4 (aI bf x0 i0 ay aN))
     ·obtain rfl:=sI H7;exact pB 3 [.eqT 27 bF] [.only [0,1,4,5,6] [4,5]] (eA x0 i0 (s0.1,s0.2)) (aB c5 aN)
    ·refine bV 0 (ps:=[(x0.map ao).length≤9223372036854775807]) (by kernel_rfl) (fun l0 => ?_);have l1:x0.length≤9223372036854775807:=by simpa only [cI,LI] using l0
     clear l0;obtain rfl:=sI H5;exact pB 1 [V3] [.only [0,1,4,5,6] [4,5]] (dV x0 (i0+1) (v0.1,v0.2)) (aH i0 aN)
  ·subst e0;have H8:=bG H3;obtain rfl:=sI H8;exact pR 3 [r0 [.v,.m]] [] [] aN
def fC (x0:Linear):Option aq :=
 (dB x0.Terms).bind fun y0 =>
 some y0
theorem nZ (x0:Linear) (r:aq) (H:fC x0=some r):bQ Tryz.prog 59 [.agg [iI x0.Const,dS ao x0.Terms]] (.agg [.str r.Var,iI r.C]):=by unfold fC at H;refine aX Tryz.func59 6 [.cell 2 88] ?_;refine aQ H fun y0 h0 H0 => ?_;refine cR H0 fun e0 => ?_;subst e0;exact pR 5 [r0 [.m,.m],r0 [.v,.v,.c true (.agg [.str y0.Var,iI y0.C]),.m]] [] [] (aC Tryz.call92 (aF (mB _ _ h0) aN))
def cS (x0:Linear) (x1:au):Option Int :=
 (eH (σ:=Unit) (ε:=Unit) (ρ:=Int) (fun i0 s0 =>
  bif (((x0.Terms.getD i0 ay).Var)==x1) then (
   some (.ret ((x0.Terms.getD i0 ay).C))
  ) else (
   some (.go ())
  )
 ) (fun i0 s0=>()) (x0.Terms.length-0) 0 ()).bind <| aft fun u0 =>
 some 0
def lJ (x0:Linear) (x1:au) (i0:Nat) (s0:Unit):AS:=⟨21,[(1,.str x1),(4,iI 0),(8,dS ao x0.Terms),(9,nI x0.Terms.length),(10,nI i0)],[]⟩
def pt (u1:Unit):AS:=⟨21,[(4,iI 0)],[]⟩
theorem ib (x0:Linear) (x1:au) (r:Int) (H:cS x0 x1=some r):bQ Tryz.prog 46 [.agg [iI x0.Const,dS ao x0.Terms],.str x1] (iI r):=by
 unfold cS at H;refine aX Tryz.func46 21 [.tmp 4] ?_;refine pA 6 [r0 [.m,.v],r0 [.v,.v,.e (nI x0.Terms.length),.v]] [.only [1,4,8,9,10] []] 6 [] (lJ x0 x1 0 ()) (aT (aC (aP ao x0.Terms) aN)) ?_;refine aQ H fun R0 h0 H0 => ?_;refine pJ 1 (pt) R0 ?_ (fun u0 e0 => ?_)
 ·refine pC (lJ x0 x1) h0 (fun i0 s0 h1 e1 => ?_) (fun i0 s0 h2 q0 h3 h4 => ?_)
  ·have c0:=lF i0 x0.Terms.length (by omega);subst e1;exact pB 5 [r0 [.e bF]] [.only [4] []] (pt ()) (aB c0 aN)
  ·have c1:=lT i0 x0.Terms.length (by omega);refine aZ h3 (fun c2 H1 => ?_) (fun c3 H2 => ?_)
   ·obtain rfl:=sI H1;obtain rfl:=aS h4;obtain rfl:=sI (aJ H0);exact pR 16 [r0 [.e bT],r0 [.e (.dptr (ao (x0.Terms.getD i0 ay))),.v,.m,.m],V4,.eqT 17 bT,V3] [] [] (aB c1 (aI bf x0.Terms i0 ay (aB c2 aN)))
   ·refine bV 8 (ps:=[(x0.Terms.map ao).length≤9223372036854775807]) (by kernel_rfl) (fun l0 => ?_);have l1:x0.Terms.length≤9223372036854775807:=by simpa only [cI,LI] using l0
    clear l0;obtain rfl:=sI H2;exact pB 15 [r0 [.e bT],r0 [.e (.dptr (ao (x0.Terms.getD i0 ay))),.v,.m,.m],V4,.eqT 17 bF,V2] [.only [1,4,8,9,10] []] (lJ x0 x1 (i0+1) ()) (aB c1 (aI bf x0.Terms i0 ay (aB c3 (aH i0 aN))))
 ·subst e0;have H3:=bq H0;obtain rfl:=sI H3;exact pR 3 [V1] [] [] aN
def j8 (x0 x1:Int):Option Int :=
 (cH x0).bind fun y0 =>
 (cH x1).bind fun y1 =>
 (kz (σ:=(Int×Int)) (ε:=Int) (ρ:=Empty) (fun s0 =>
  bif (s0.2==0) then (
   some (.brk s0.1)
  ) else (
   bM ((s0.2:Int)≠0) <|
   some (.go (s0.2,(s0.1.tmod s0.2)))
  )
 ) 4294967296 (y0,y1)).bind <| dI fun u0 =>
 some u0
def kW (s0:Int×Int):AS:=⟨16,[(0,iI s0.1),(1,iI s0.2),(4,iI 0)],[]⟩
def qc (u1:Int):AS:=⟨16,[(0,iI u1),(4,iI 0)],[]⟩
theorem w8 (x0 x1 r:Int) (H:j8 x0 x1=some r):bQ Tryz.prog 166 [iI x0,iI x1] (iI r):=by
 unfold j8 at H;refine aX Tryz.func166 16 [.tmp 4] ?_;refine aQ H fun y0 h0 H0 => ?_;refine aQ H0 fun y1 h1 H1 => ?_;refine pA 6 [V1,r0 [.v,.c true (iI y0),.v,.c true (iI y1),.v,.v]] [.only [0,1,4] []] 6 [] (kW (y0,y1)) (aC Tryz.call91 (aF (cX _ _ h0) (aC Tryz.call91 (aF (cX _ _ h1) aN)))) ?_;refine aQ H1 fun R0 h2 H2 => ?_;refine pJ 1 (qc) R0 ?_ (fun u0 e0 => ?_)
 ·refine qU (kW) (by kernel_rfl) h2 (fun s0 q0 h3 h4 => ?_)
  ·refine aZ h3 (fun c0 H3 => ?_) (fun c1 H4 => ?_)
   ·obtain rfl:=sI H3;obtain rfl:=iU h4;exact pB 6 [V2,.eqT 10 bF] [.only [0,4] []] (qc s0.1) (aM c0 aN)
   ·refine aK H4 fun g0 H5 => ?_;obtain rfl:=sI H5;exact pB 8 [V2,.eqT 10 bT,.rg 5 (V 5 []) [.v]] [.only [0,1,4] []] (kW (s0.2,(s0.1.tmod s0.2))) (aM c1 (aC (show (s0.2:Int)≠0 from g0) aN))
 ·subst e0;have H6:=bG H2;refine cR H6 fun e1 => ?_;subst e1;exact pR 3 [V2] [] [] aN
def j5 (x0 x1:Int):Option (Int×Int) :=
 (eT [x0,x1]).bind fun y0 =>
 bif y0 then (
  bif (x0==0) then (
   some (0,0)
  ) else (
   bif (x1==0) then (
    some (0,0)
   ) else (
    (cH x0).bind fun y1 =>
    (j8 x0 x1).bind fun y2 =>
    bM ((y2:Int)≠0) <|
    (cH x1).bind fun y3 =>
    (eN (aL (y1.tdiv y2)) y3).bind fun y4 =>
    some (y4.1,y4.2)
   )
  )
 ) else (
  some (0,2)
 )
theorem wY (x0 x1:Int) (r:Int×Int) (H:j5 x0 x1=some r):bQ Tryz.prog 132 [iI x0,iI x1] (.tup [iI r.1,iI r.2]):=by
 unfold j5 at H;refine aX Tryz.func132 28 [.tmp 4,.tmp 5] ?_;refine aQ H fun y0 h0 H0 => ?_;refine aZ H0 (fun c0 H1 => ?_) (fun c1 H2 => ?_)
 ·refine aZ H1 (fun c2 H3 => ?_) (fun c3 H4 => ?_)
  ·obtain rfl:=sI H3;exact pR 15 [V2,r0 [.v,.v,.b,.c true (.bool y0),.v],.eqT 10 bF,r0 [.v,.e bT,.v,.s,.s,.v],V2] [] [] (aC Tryz.call80 (aF (bJ _ _ h0) (aT (aM c0 (aB c2 aN)))))
  ·refine aZ H4 (fun c4 H5 => ?_) (fun c5 H6 => ?_)
   ·obtain rfl:=sI H5;exact pR 16 [V2,r0 [.v,.v,.b,.c true (.bool y0),.v],.eqT 10 bF,r0 [.v,.e bF,.v,.v,.v,.v],.eqT 16 bT,V2] [] [] (aC Tryz.call80 (aF (bJ _ _ h0) (aT (aM c0 (aB c3 (aB c4 aN))))))
   ·refine aQ H6 fun y1 h1 H7 => ?_;refine aQ H7 fun y2 h2 H8 => ?_;refine aK H8 fun g0 H9 => ?_;refine aQ H9 fun y3 h3 H10 => ?_;refine aQ H10 fun y4 h4 H11 => ?_;obtain rfl:=sI H11;exact pR 17 [V2,r0 [.v,.v,.b,.c true (.bool y0),.v],.eqT 10 bF,r0 [.v,.e bF,.v,.v,.v,.v],.eqT 16 bF,.rg 11 [.v,.c true (iI y1),.v,.v,.c true (iI y2),.w,.v,.c true (iI y3),.c true (.tup [iI y4.1,iI y4.2]),.v,.v] [.v,.v]] [] [] (aC Tryz.call80 (aF (bJ _ _ h0) (aT (aM c0 (aB c3 (aB c5 (aC Tryz.call91 (aF (cX _ _ h1) (aC Tryz.call166 (aF (w8 _ _ _ h2) (aC (show (y2:Int)≠0 from g0) (aC Tryz.call91 (aF (cX _ _ h3) (aC Tryz.call58 (aF (gT _ _ _ h4) aN)))))))))))))))
 ·obtain rfl:=sI H2;exact pR 10 [V2,r0 [.v,.v,.b,.c true (.bool y0),.v],.eqT 10 bT,V2] [] [] (aC Tryz.call80 (aF (bJ _ _ h0) (aT (aM c1 aN))))
def cY (x0 x1 x2 x3 x4 x5 x6 x7:Int):Option (Int×Int×Int×Int×Int×Int) :=
 bif (decide (x0<0)==decide (x1<0)) then (
  (cH x0).bind fun y0 =>
  (cH x1).bind fun y1 =>
  (kU (IntKind.wrap .u64 y0) (IntKind.wrap .u64 y1)).bind fun y2 =>
  (eF x2 y2.2 0).bind fun y3 =>
  (eF x3 y2.1 y3.2).bind fun y4 =>
  (eF x4 0 y4.2).bind fun y5 =>
  some (y3.1,y4.1,y5.1,x5,x6,x7)
 ) else (
  (cH x0).bind fun y6 =>
  (cH x1).bind fun y7 =>
  (kU (IntKind.wrap .u64 y6) (IntKind.wrap .u64 y7)).bind fun y8 =>
  (eF x5 y8.2 0).bind fun y9 =>
  (eF x6 y8.1 y9.2).bind fun y10 =>
  (eF x7 0 y10.2).bind fun y11 =>
  some (x2,x3,x4,y9.1,y10.1,y11.1)
 )
theorem qG (x0 x1 x2 x3 x4 x5 x6 x7:Int) (r:Int×Int×Int×Int×Int×Int) (H:cY x0 x1 x2 x3 x4 x5 x6 x7=some r):bY Tryz.prog 81 [.hptr 1000 0,iI x0,iI x1] [(1000,.cells 133 [.int .u64 x2,.int .u64 x3,.int .u64 x4,.int .u64 x5,.int .u64 x6,.int .u64 x7])] (fun r2 h0=>r2=(.tup [])∧h0=[(1000,.cells 133 [.int .u64 r.1,.int .u64 r.2.1,.int .u64 r.2.2.1,.int .u64 r.2.2.2.1,.int .u64 r.2.2.2.2.1,.int .u64 r.2.2.2.2.2])]):=by
 unfold cY at H;refine aX Tryz.func81 54 [] ?_;refine aZ H (fun c0 H0 => ?_) (fun c1 H1 => ?_)
 ·refine aQ H0 fun y0 h1 H2 => ?_;refine aQ H2 fun y1 h2 H3 => ?_;refine aQ H3 fun y2 h3 H4 => ?_;refine aQ H4 fun y3 h4 H5 => ?_;refine aQ H5 fun y4 h5 H6 => ?_;refine aQ H6 fun y5 h6 H7 => ?_;obtain rfl:=sI H7;exact pR 57 [V1,V5,.eqT 16 bF,r0 [.v,.c true (iI y0),.v,.v,.c true (iI y1),.v,.c true (.tup [.int .u64 y2.1,.int .u64 y2.2]),.v,.v,.v,.v,.v],V1,r0 [.v,.v,.b,.v],.un,V1,V4,.rg 20 (V 12 [.xc (.tup [.int .u64 y3.1,.int .u64 y3.2]),.v,.v,.v,.v,.v,.v,.m]) [.v],V2,.cv [.only [0,6,9,29,30] [1000]],V1,V4,.rg 20 (V 12 [.xc (.tup [.int .u64 y4.1,.int .u64 y4.2]),.v,.v,.v,.v,.v,.v,.m]) [.v],V2,.cv [.only [0,6,9,29,30] [1000]],V1,V4,.rg 20 (V 12 [.xc (.tup [.int .u64 y5.1,.int .u64 y5.2]),.v,.v,.v,.v,.v,.v,.m]) [.v],V2,.cv [.only [0,6,9,29,30] [1000]],V1] [] [1000] (aM c0 (aC Tryz.call91 (aF (cX _ _ h1) (aT (aC Tryz.call91 (aF (cX _ _ h2) (aT (aC Tryz.call90 (aF (pk (IntKind.wrap .u64 y0) (IntKind.wrap .u64 y1) y2 h3) (aT (aT (aT (aC (iN x2 y2.2 0 y3 h4) (aT (aT (aO (0+1) (aT (aT (aT (aC (iN x3 y2.1 y3.2 y4 h5) (aT (aT (aO (1+1) (aT (aT (aT (aC (iN x4 0 y4.2 y5 h6) (aT (aT (aO (2+1) aN))))))))))))))))))))))))))))))
 ·refine aQ H1 fun y6 h7 H8 => ?_;refine aQ H8 fun y7 h8 H9 => ?_;refine aQ H9 fun y8 h9 H10 => ?_;refine aQ H10 fun y9 h10 H11 => ?_;refine aQ H11 fun y10 h11 H12 => ?_;refine aQ H12 fun y11 h12 H13 => ?_;obtain rfl:=sI H13;exact pR 57 [V1,V5,.eqT 16 bT,V1,r0 [.v,.c true (iI y6),.v,.v,.c true (iI y7),.v,.c true (.tup [.int .u64 y8.1,.int .u64 y8.2]),.v,.v,.v,.v,.v],V1,r0 [.v,.v,.b,.v],.un,V1,V4,.rg 20 (V 12 [.xc (.tup [.int .u64 y9.1,.int .u64 y9.2]),.v,.v,.v,.v,.v,.v,.m]) [.v],V2,.cv [.only [0,6,9,29,30] [1000]],V1,V4,.rg 20 (V 12 [.xc (.tup [.int .u64 y10.1,.int .u64 y10.2]),.v,.v,.v,.v,.v,.v,.m]) [.v],V2,.cv [.only [0,6,9,29,30] [1000]],V1,V4,.rg 20 (V 12 [.xc (.tup [.int .u64 y11.1,.int .u64 y11.2]),.v,.v,.v,.v,.v,.v,.m]) [.v],V2,.cv [.only [0,6,9,29,30] [1000]],V1] [] [1000] (aM c1 (aC Tryz.call91 (aF (cX _ _ h7) (aT (aC Tryz.call91 (aF (cX _ _ h8) (aT (aC Tryz.call90 (aF (pk (IntKind.wrap .u64 y6) (IntKind.wrap .u64 y7) y8 h9) (aT (aT (aT (aC (iN x5 y8.2 0 y9 h10) (aT (aT (aO (0+1) (aT (aT (aT (aC (iN x6 y8.1 y9.2 y10 h11) (aT (aT (aO (1+1) (aT (aT (aT (aC (iN x7 0 y10.2 y11 h12) (aT (aT (aO (2+1) aN))))))))))))))))))))))))))))))
def cJ (x0 x1:Int×Int×Int):Option ((Int×Int×Int)×Bool) :=
 (kO x0.1 x1.1 0).bind fun y0 =>
 (kO x0.2.1 x1.2.1 y0.2).bind fun y1 =>
 (kO x0.2.2 x1.2.2 y1.2).bind fun y2 =>
 some ((y0.1,y1.1,y2.1),(y2.2==0))
theorem iF (x0 x1:Int×Int×Int) (r:(Int×Int×Int)×Bool) (H:cJ x0 x1=some r):bQ Tryz.prog 120 [.agg [.int .u64 x0.1,.int .u64 x0.2.1,.int .u64 x0.2.2],.agg [.int .u64 x1.1,.int .u64 x1.2.1,.int .u64 x1.2.2]] (.tup [.agg [.int .u64 r.1.1,.int .u64 r.1.2.1,.int .u64 r.1.2.2],.bool r.2]):=by unfold cJ at H;refine aX Tryz.func120 29 [.cell 4 131,.tmp 5] ?_;refine aQ H fun y0 h0 H0 => ?_;refine aQ H0 fun y1 h1 H1 => ?_;refine aQ H1 fun y2 h2 H2 => ?_;obtain rfl:=sI H2;exact pR 55 [r0 [.m,.m,.m,.v],r0 [.m],V1,V1,.un,V1,V2,.rg 14 (V 8 [.xc (.tup [.int .u64 y0.1,.int .u64 y0.2]),.v,.v,.v,.v,.m]) [.v],V2,.cv [.only [2,3,4,5,6,7,9] [2,3,4,6]],V1,V2,.rg 14 (V 8 [.xc (.tup [.int .u64 y1.1,.int .u64 y1.2]),.v,.v,.v,.v,.m]) [.v],V2,.cv [.only [2,3,4,5,6,7,9] [2,3,4,6]],V1,V2,.rg 14 (V 8 [.xc (.tup [.int .u64 y2.1,.int .u64 y2.2]),.v,.v,.v,.v,.m]) [.v],V2,.cv [.only [2,3,4,5,6,7,9] [2,3,4,6]],V1,r0 [.v,.v,.v,.m,.v]] [] [] (aT (aT (aC (pL x0.1 x1.1 0 y0 h0) (aT (aO (0+1) (aT (aT (aC (pL x0.2.1 x1.2.1 y0.2 y1 h1) (aT (aO (1+1) (aT (aT (aC (pL x0.2.2 x1.2.2 y1.2 y2 h2) (aT (aO (2+1) aN)))))))))))))))
def eJ (x0:Int):Option (Int×Int) :=
 (eT [x0]).bind fun y0 =>
 bif y0 then (
  some (x0,0)
 ) else (
  some (0,2)
 )
theorem mD (x0:Int) (r:Int×Int) (H:eJ x0=some r):bQ Tryz.prog 122 [iI x0] (.tup [iI r.1,iI r.2]):=by
 unfold eJ at H;refine aX Tryz.func122 9 [.tmp 2,.tmp 3] ?_;refine aQ H fun y0 h0 H0 => ?_;refine aZ H0 (fun c0 H1 => ?_) (fun c1 H2 => ?_)
 ·obtain rfl:=sI H1;exact pR 11 [V2,r0 [.v,.b,.c true (.bool y0),.v],.eqT 7 bF,V3] [] [] (aC Tryz.call80 (aF (bJ _ _ h0) (aT (aM c0 aN))))
 ·obtain rfl:=sI H2;exact pR 10 [V2,r0 [.v,.b,.c true (.bool y0),.v],.eqT 7 bT,V2] [] [] (aC Tryz.call80 (aF (bJ _ _ h0) (aT (aM c1 aN))))
def cA (x0 x1 x2 x3 x4 x5:Int):Option (Int×Int) :=
 (cJ (x0,x1,x2) (x3,x4,x5)).bind fun y0 =>
 bif y0.2 then (
  bif decide (y0.1.2.1>0) then (
   some (0,2)
  ) else (
   bif decide (y0.1.2.2>0) then (
    some (0,2)
   ) else (
    bif decide (y0.1.1>4611686018427387904) then (
     some (0,2)
    ) else (
     (eJ (aL (1*(IntKind.wrap .i64 y0.1.1)))).bind fun y1 =>
     some (y1.1,y1.2)
    )
   )
  )
 ) else (
  (cJ (x3,x4,x5) (x0,x1,x2)).bind fun y2 =>
  bif y2.2 then (
   bif decide (y2.1.2.1>0) then (
    some (0,2)
   ) else (
    bif decide (y2.1.2.2>0) then (
     some (0,2)
    ) else (
     bif decide (y2.1.1>4611686018427387904) then (
      some (0,2)
     ) else (
      (eJ (aL ((-1)*(IntKind.wrap .i64 y2.1.1)))).bind fun y3 =>
      some (y3.1,y3.2)
     )
    )
   )
  ) else (
   some (0,2)
  )
 )
theorem oS (x0 x1 x2 x3 x4 x5:Int) (r:Int×Int) (H:cA x0 x1 x2 x3 x4 x5=some r):bY Tryz.prog 82 [.hptr 1000 0] [(1000,.cells 133 [.int .u64 x0,.int .u64 x1,.int .u64 x2,.int .u64 x3,.int .u64 x4,.int .u64 x5])] (fun r2 h0=>r2=(.tup [iI r.1,iI r.2])∧h0=[(1000,.cells 133 [.int .u64 x0,.int .u64 x1,.int .u64 x2,.int .u64 x3,.int .u64 x4,.int .u64 x5])]):=by
 unfold cA at H;refine aX Tryz.func82 53 [.tmp 2,.tmp 3] ?_;refine aQ H fun y0 h1 H0 => ?_;refine pD 22 [V2,V1,r0 [.b,.v],.un,V1,V4,.rg 18 (V 12 [.c true (.tup [.agg [.int .u64 y0.1.1,.int .u64 y0.1.2.1,.int .u64 y0.1.2.2],.bool y0.2]),.v,.v,.v,.m,.m]) [.v],V1] [.only [0,2,3,4,6,7,9,10,30] [7,1000]] 22 [true] (aT (aT (aO (1-0) (aT (aC Tryz.call120 (aF (iF _ _ _ h1) aN)))))) ?_;refine aZ H0 (fun c0 H1 => ?_) (fun c1 H2 => ?_)
 ·refine aZ H1 (fun c2 H3 => ?_) (fun c3 H4 => ?_)
  ·obtain rfl:=sI H3;exact pR 9 [.eqT 30 bT,r0 [.v,.v,.e bT,.v,.s,.s,.s,.v,.v,.s,.s,.s,.v],V2] [] [1000] (aB c0 (aT (aB c2 aN)))
  ·refine aZ H4 (fun c4 H5 => ?_) (fun c5 H6 => ?_)
   ·obtain rfl:=sI H5;exact pR 9 [.eqT 30 bT,r0 [.v,.v,.e bF,.v,.v,.v,.e bT,.v,.v,.s,.s,.s,.v],V2] [] [1000] (aB c0 (aT (aB c3 (aT (aB c4 aN)))))
   ·refine aZ H6 (fun c6 H7 => ?_) (fun c7 H8 => ?_)
    ·obtain rfl:=sI H7;exact pR 10 [.eqT 30 bT,r0 [.v,.v,.e bF,.v,.v,.v,.e bF,.v,.v,.v,.v,.v,.v],.eqT 43 bT,V2] [] [1000] (aB c0 (aT (aB c3 (aT (aB c5 (aT (aB c6 aN)))))))
    ·refine aQ H8 fun y1 h2 H9 => ?_;obtain rfl:=sI H9;exact pR 11 [.eqT 30 bT,r0 [.v,.v,.e bF,.v,.v,.v,.e bF,.v,.v,.v,.v,.v,.v],.eqT 43 bF,r0 (V 4 [.w,.c true (.tup [iI y1.1,iI y1.2]),.v,.v,.v,.v])] [] [1000] (aB c0 (aT (aB c3 (aT (aB c5 (aT (aB c7 (aT (aT (aC Tryz.call122 (aF (mD _ _ h2) aN)))))))))))
 ·refine aQ H2 fun y2 h3 H10 => ?_;refine pD 18 [.eqT 30 bF,V2,.cv [.only [0,2,3,4,9,10] [1000]],V1,V4,.rg 18 (V 12 [.c true (.tup [.agg [.int .u64 y2.1.1,.int .u64 y2.1.2.1,.int .u64 y2.1.2.2],.bool y2.2]),.v,.v,.v,.m,.m]) [.v],V1] [.only [0,2,3,4,6,7,9,10,30] [7,1000]] 16 [false,true] (aB c1 (aO (0+1) (aT (aT (aO (1-1) (aT (aC Tryz.call120 (aF (iF _ _ _ h3) aN)))))))) ?_;refine aZ H10 (fun c8 H11 => ?_) (fun c9 H12 => ?_)
  ·refine aZ H11 (fun c10 H13 => ?_) (fun c11 H14 => ?_)
   ·obtain rfl:=sI H13;exact pR 9 [.eqT 30 bT,r0 [.v,.v,.e bT,.v,.s,.s,.s,.v,.v,.s,.s,.s,.v],V2] [] [1000] (aB c8 (aT (aB c10 aN)))
   ·refine aZ H14 (fun c12 H15 => ?_) (fun c13 H16 => ?_)
    ·obtain rfl:=sI H15;exact pR 9 [.eqT 30 bT,r0 [.v,.v,.e bF,.v,.v,.v,.e bT,.v,.v,.s,.s,.s,.v],V2] [] [1000] (aB c8 (aT (aB c11 (aT (aB c12 aN)))))
    ·refine aZ H16 (fun c14 H17 => ?_) (fun c15 H18 => ?_)
     ·obtain rfl:=sI H17;exact pR 10 [.eqT 30 bT,r0 [.v,.v,.e bF,.v,.v,.v,.e bF,.v,.v,.v,.v,.v,.v],.eqT 43 bT,V2] [] [1000] (aB c8 (aT (aB c11 (aT (aB c13 (aT (aB c14 aN)))))))
     ·refine aQ H18 fun y3 h4 H19 => ?_;obtain rfl:=sI H19;exact pR 11 [.eqT 30 bT,r0 [.v,.v,.e bF,.v,.v,.v,.e bF,.v,.v,.v,.v,.v,.v],.eqT 43 bF,r0 (V 4 [.w,.c true (.tup [iI y3.1,iI y3.2]),.v,.v,.v,.v])] [] [1000] (aB c8 (aT (aB c11 (aT (aB c13 (aT (aB c15 (aT (aT (aC Tryz.call122 (aF (mD _ _ h4) aN)))))))))))
  ·obtain rfl:=sI H12;exact pR 13 [.eqT 30 bF,V2,.cv [.only [0,2,3,4,9,10] [1000]],V1,V2] [] [1000] (aB c9 (aO (1+1) aN))
def eL (x0 x1:List Int):Option (Int×Int) :=
 bif (((x0.length:Nat):Int)==((x1.length:Nat):Int)) then (
  bif decide (((x0.length:Nat):Int)>10000) then (
   some (0,3)
  ) else (
   (eT x0).bind fun y0 =>
   bif y0 then (
    (eT x1).bind fun y1 =>
    bif y1 then (
     (eH (σ:=(Int×Int×Int×Int×Int×Int)) (ε:=(Int×Int×Int×Int×Int×Int)) (ρ:=Empty) (fun i0 s0 =>
      bM (i0<x1.length) <|
      (cY (x0.getD i0 0) (x1.getD i0 0) s0.1 s0.2.1 s0.2.2.1 s0.2.2.2.1 s0.2.2.2.2.1 s0.2.2.2.2.2).bind fun y2 =>
      some (.go (y2.1,y2.2.1,y2.2.2.1,y2.2.2.2.1,y2.2.2.2.2.1,y2.2.2.2.2.2))
     ) (fun i0 s0=>(s0.1,s0.2.1,s0.2.2.1,s0.2.2.2.1,s0.2.2.2.2.1,s0.2.2.2.2.2)) (x0.length-0) 0 (0,0,0,0,0,0)).bind <| dI fun u0 =>
     (cA u0.1 u0.2.1 u0.2.2.1 u0.2.2.2.1 u0.2.2.2.2.1 u0.2.2.2.2.2).bind fun y3 =>
     some (y3.1,y3.2)
    ) else (
     some (0,2)
    )
   ) else (
    some (0,2)
   )
  )
 ) else (
  some (0,1)
 )
def mf (x0 x1:List Int) (i0:Nat) (s0:Int×Int×Int×Int×Int×Int):AS:=⟨45,[(1,dS aj x1),(4,iI 0),(5,iI 0),(6,.hptr 6 0),(28,dS aj x0),(29,nI x0.length),(30,nI i0)],[(6,.cells 133 [.int .u64 s0.1,.int .u64 s0.2.1,.int .u64 s0.2.2.1,.int .u64 s0.2.2.2.1,.int .u64 s0.2.2.2.2.1,.int .u64 s0.2.2.2.2.2])]⟩
def qb (u1:Int×Int×Int×Int×Int×Int):AS:=⟨45,[(4,iI 0),(5,iI 0),(6,.hptr 6 0)],[(6,.cells 133 [.int .u64 u1.1,.int .u64 u1.2.1,.int .u64 u1.2.2.1,.int .u64 u1.2.2.2.1,.int .u64 u1.2.2.2.2.1,.int .u64 u1.2.2.2.2.2])]⟩
theorem hU (x0 x1:List Int) (r:Int×Int) (H:eL x0 x1=some r):bQ Tryz.prog 47 [dS aj x0,dS aj x1] (.tup [iI r.1,iI r.2]):=by
 unfold eL at H;refine aX Tryz.func47 45 [.tmp 4,.tmp 5] ?_;refine aZ H (fun c0 H0 => ?_) (fun c1 H1 => ?_)
 ·refine pD 10 [.rg 0 [] [.v,.v],.rg 0 [] [.v,.e (.int .i64 ((x0.length:Nat):Int)),.v,.e (.int .i64 ((x1.length:Nat):Int)),.v,.v],.eqT 9 bF,.rg 0 [] [.v,.e (.int .i64 ((x0.length:Nat):Int)),.v,.v]] [.only [0,1,4,5,15] []] 9 [false] (aT (aC (aP aj x0) (aT (aC (aP aj x1) (aM c0 (aT (aC (aP aj x0) aN))))))) ?_;refine aZ H0 (fun c2 H2 => ?_) (fun c3 H3 => ?_)
  ·obtain rfl:=sI H2;exact pR 5 [.eqT 15 bT,V2] [] [] (aB c2 aN)
  ·have c3p:=LD c3;refine aQ H3 fun y0 h0 H4 => ?_;refine aZ H4 (fun c4 H5 => ?_) (fun c5 H6 => ?_)
   ·refine aQ H5 fun y1 h1 H7 => ?_;refine aZ H7 (fun c6 H8 => ?_) (fun c7 H9 => ?_)
    ·refine pA 13 [.eqT 15 bF,.rg 0 [] [.v,.c true bT,.v,.v,.v,.c true (.bool y1),.v,.v,.v],.eqT 19 bF,.rg 0 [] [.m],.rg 0 [] [.v,.e (.int .i64 ((x0.length:Nat):Int)),.v]] [.only [1,4,5,6,28,29,30] [6]] 11 [false,false] (mf x0 x1 0 (0,0,0,0,0,0)) (aB c3 (aC Tryz.call80 (aC (bQ.eq (bJ _ _ h0) (cB c4)) (aT (aC Tryz.call80 (aF (bJ _ _ h1) (aT (aM c6 (aT (aC (aP aj x0) aN)))))))))) ?_;refine aQ H8 fun R0 h2 H10 => ?_;refine pJ 1 (qb) R0 ?_ (fun u0 e0 => ?_)
     ·refine pC (mf x0 x1) h2 (fun i0 s0 h3 e1 => ?_) (fun i0 s0 h4 q0 h5 h6 => ?_)
      ·have c8:=lF i0 x0.length (by omega);subst e1;exact pB 5 [r0 [.e bF]] [.only [4,5,6] [6]] (qb (s0.1,s0.2.1,s0.2.2.1,s0.2.2.2.1,s0.2.2.2.2.1,s0.2.2.2.2.2)) (aB c8 aN)
      ·have c9:=lT i0 x0.length (by omega);refine aK h5 fun g0 H11 => ?_;refine aQ H11 fun y2 h7 H12 => ?_;refine bV 28 (ps:=[(x0.map aj).length≤9223372036854775807]) (by kernel_rfl) (fun l0 => ?_);have l1:x0.length≤9223372036854775807:=by simpa only [cI,LI] using l0
       clear l0;obtain rfl:=sI H12;exact pB 11 [r0 [.e bT],r0 [.v,.e (.dptr [iI (x0.getD i0 0)]),.v,.v,.v],r0 [.v,.v,.v,.e (.dptr [iI (x1.getD i0 0)]),.v,.hR [(6,1000)] 40 (.tup []) [(1000,.cells 133 [.int .u64 y2.1,.int .u64 y2.2.1,.int .u64 y2.2.2.1,.int .u64 y2.2.2.2.1,.int .u64 y2.2.2.2.2.1,.int .u64 y2.2.2.2.2.2])]],V2] [.only [1,4,5,6,28,29,30] [6]] (mf x0 x1 (i0+1) (y2.1,y2.2.1,y2.2.2.1,y2.2.2.2.1,y2.2.2.2.2.1,y2.2.2.2.2.2)) (aB c9 (aI bZ x0 i0 0 (aI bZ x1 i0 0 (aC Tryz.call81 (aC (qG _ _ _ _ _ _ _ _ _ h7) (aH i0 aN))))))
     ·subst e0;have H13:=bG H10;refine aQ H13 fun y3 h8 H14 => ?_;obtain rfl:=sI H14;exact pR 3 [r0 [.hR [(6,1000)] 42 (.tup [iI y3.1,iI y3.2]) [(1000,.cells 133 [.int .u64 u0.1,.int .u64 u0.2.1,.int .u64 u0.2.2.1,.int .u64 u0.2.2.2.1,.int .u64 u0.2.2.2.2.1,.int .u64 u0.2.2.2.2.2])],.v,.v,.v,.v]] [] [] (aC Tryz.call82 (aC (oS _ _ _ _ _ _ _ h8) aN))
    ·obtain rfl:=sI H9;exact pR 9 [.eqT 15 bF,r0 [.v,.c true bT,.v,.v,.v,.c true (.bool y1),.v,.v,.v],.eqT 19 bT,V2] [] [] (aB c3 (aC Tryz.call80 (aC (bQ.eq (bJ _ _ h0) (cB c4)) (aT (aC Tryz.call80 (aF (bJ _ _ h1) (aT (aM c7 aN))))))))
   ·obtain rfl:=sI H6;exact pR 8 [.eqT 15 bF,r0 [.v,.c true bF,.v,.v,.s,.s,.s,.v,.v],V2] [] [] (aB c3 (aC Tryz.call80 (aC (bQ.eq (bJ _ _ h0) (cB c5)) (aT aN))))
 ·obtain rfl:=sI H1;exact pR 11 [V2,r0 [.v,.e (nI x0.length),.v,.e (nI x1.length),.v,.v],.eqT 9 bT,V2] [] [] (aT (aC (aP aj x0) (aT (aC (aP aj x1) (aM c1 aN)))))
noncomputable def du (x0:Nat) (x1:ae) (x2:Int) (x3:List ae):Option (List ae) :=
 bM (x0<x3.length) <|
 (j5 ((x3.getD x0 aa).scale) x1.scale).bind fun y0 =>
 bif ((x3.getD x0 aa).lost) then (
  some (x3.set x0 (ae.mk (Linear.mk (((x3.getD x0 aa).q).Const) (((x3.getD x0 aa).q).Terms)) ((x3.getD x0 aa).mults) ((x3.getD x0 aa).scale) true))
 ) else (
  bif x1.lost then (
   some (x3.set x0 (ae.mk (Linear.mk (((x3.getD x0 aa).q).Const) (((x3.getD x0 aa).q).Terms)) ((x3.getD x0 aa).mults) ((x3.getD x0 aa).scale) true))
  ) else (
   (bE y0.1 y0.2).bind fun y1 =>
   bif y1 then (
    bM ((((x3.getD x0 aa).scale):Int)≠0) <|
    bM ((x1.scale:Int)≠0) <|
    nY (σ:=((List ae)×(List (Int×Int)))) (ε:=Empty) (β:=(List ae)) ((x3.getD x0 aa).mults) (fun e0 s0 =>
     (eN e0.2 (aL (y0.1.tdiv ((x3.getD x0 aa).scale)))).bind fun y2 =>
     bM (x0<s0.1.length) <|
     ((
      bif ((s0.1.getD x0 aa).lost) then (
       some (s0.1.set x0 (ae.mk (Linear.mk (((s0.1.getD x0 aa).q).Const) (((s0.1.getD x0 aa).q).Terms)) ((s0.1.getD x0 aa).mults) ((s0.1.getD x0 aa).scale) true))
      ) else (
       (bE y2.1 y2.2).bind fun y3 =>
       some (s0.1.set x0 (ae.mk (Linear.mk (((s0.1.getD x0 aa).q).Const) (((s0.1.getD x0 aa).q).Terms)) ((s0.1.getD x0 aa).mults) ((s0.1.getD x0 aa).scale) (!y3)))
      )
     ):Option (List ae)).bind fun v0 =>
     some (.go (v0,(bI (e0.1:Int) y2.1 s0.2)))
    ) (x3,[]) (fun s0 =>
     nY (σ:=((List ae)×(List (Int×Int)))) (ε:=Empty) (β:=(List ae)) x1.mults (fun e1 s1 =>
      (eL [1,(aL ((aL (0-(aL (y0.1.tdiv x1.scale))))*x2))] [(ba 0 (e1.1:Int) s1.2),e1.2]).bind fun y4 =>
      bM (x0<s1.1.length) <|
      ((
       bif ((s1.1.getD x0 aa).lost) then (
        some (s1.1.set x0 (ae.mk (Linear.mk (((s1.1.getD x0 aa).q).Const) (((s1.1.getD x0 aa).q).Terms)) ((s1.1.getD x0 aa).mults) ((s1.1.getD x0 aa).scale) true))
       ) else (
        (bE y4.1 y4.2).bind fun y5 =>
        some (s1.1.set x0 (ae.mk (Linear.mk (((s1.1.getD x0 aa).q).Const) (((s1.1.getD x0 aa).q).Terms)) ((s1.1.getD x0 aa).mults) ((s1.1.getD x0 aa).scale) (!y5)))
       )
      ):Option (List ae)).bind fun v1 =>
      some (.go (v1,(bI (e1.1:Int) y4.1 s1.2)))
     ) (s0.1,s0.2) (fun s1 =>
      bM (x0<s1.1.length) <|
      bM (x0<(s1.1.set x0 (ae.mk (Linear.mk (((s1.1.getD x0 aa).q).Const) (((s1.1.getD x0 aa).q).Terms)) (ksort s1.2) ((s1.1.getD x0 aa).scale) ((s1.1.getD x0 aa).lost))).length) <|
      some ((s1.1.set x0 (ae.mk (Linear.mk (((s1.1.getD x0 aa).q).Const) (((s1.1.getD x0 aa).q).Terms)) (ksort s1.2) ((s1.1.getD x0 aa).scale) ((s1.1.getD x0 aa).lost))).set x0 (ae.mk (Linear.mk ((((s1.1.set x0 (ae.mk (Linear.mk (((s1.1.getD x0 aa).q).Const) (((s1.1.getD x0 aa).q).Terms)) (ksort s1.2) ((s1.1.getD x0 aa).scale) ((s1.1.getD x0 aa).lost))).getD x0 aa).q).Const) ((((s1.1.set x0 (ae.mk (Linear.mk (((s1.1.getD x0 aa).q).Const) (((s1.1.getD x0 aa).q).Terms)) (ksort s1.2) ((s1.1.getD x0 aa).scale) ((s1.1.getD x0 aa).lost))).getD x0 aa).q).Terms)) (((s1.1.set x0 (ae.mk (Linear.mk (((s1.1.getD x0 aa).q).Const) (((s1.1.getD x0 aa).q).Terms)) (ksort s1.2) ((s1.1.getD x0 aa).scale) ((s1.1.getD x0 aa).lost))).getD x0 aa).mults) y0.1 (((s1.1.set x0 (ae.mk (Linear.mk (((s1.1.getD x0 aa).q).Const) (((s1.1.getD x0 aa).q).Terms)) (ksort s1.2) ((s1.1.getD x0 aa).scale) ((s1.1.getD x0 aa).lost))).getD x0 aa).lost)))
     )
    )
   ) else (
    some (x3.set x0 (ae.mk (Linear.mk (((x3.getD x0 aa).q).Const) (((x3.getD x0 aa).q).Terms)) ((x3.getD x0 aa).mults) ((x3.getD x0 aa).scale) true))
   )
  )
 )
def fR (x0:Nat) (x1:ae) (x2:Int) (x3:List ae) (y0:Int×Int) (i0:List Nat) (s0:(List ae)×(List (Int×Int))):AS:=⟨135,[(0,.hptr 1000 (x0*5)),(2,iI x2),(4,.hptr 4 0),(6,iI y0.1),(8,iI (aL (y0.1.tdiv ((x3.getD x0 aa).scale)))),(9,iI (aL (y0.1.tdiv x1.scale))),(10,.amap 56),(61,.hptr 61 0)],[(4,.cells 76 [iI x1.q.Const,dS ao x1.q.Terms,.dmap (x1.mults.map (dL aj)),iI x1.scale,.bool x1.lost]),(56,.smap 1 3 (s0.2.map (dL aj))),(61,.iter (((x3.getD x0 aa).mults).map (dL aj)) i0),(1000,.row 76 5 (s0.1.map ab))]⟩
def fW (x0:Nat) (x1:ae) (x2:Int) (y0:Int×Int) (i1:List Nat) (s1:(List ae)×(List (Int×Int))):AS:=⟨135,[(0,.hptr 1000 (x0*5)),(2,iI x2),(6,iI y0.1),(9,iI (aL (y0.1.tdiv x1.scale))),(10,.amap 56),(91,.hptr 91 0)],[(56,.smap 1 3 (s1.2.map (dL aj))),(91,.iter (x1.mults.map (dL aj)) i1),(1000,.row 76 5 (s1.1.map ab))]⟩
def fX (x0:Nat) (x1:ae) (x2:Int) (y0:Int×Int) (i1:List Nat) (s1:(List ae)×(List (Int×Int))) (n0:Nat) (e1 y4:Int×Int) (v1:List ae):AS:=⟨135,[(0,.hptr 1000 (x0*5)),(2,iI x2),(6,iI y0.1),(9,iI (aL (y0.1.tdiv x1.scale))),(10,.amap 56),(15,iI e1.1),(17,iI y4.1),(91,.hptr 91 0)],[(56,.smap 1 3 (s1.2.map (dL aj))),(91,.iter (x1.mults.map (dL aj)) (i1++[n0])),(1000,.row 76 5 (v1.map ab))]⟩
def fS (x0:Nat) (x1:ae) (x2:Int) (x3:List ae) (y0:Int×Int) (i0:List Nat) (s0:(List ae)×(List (Int×Int))) (n1:Nat) (e0 y2:Int×Int) (v0:List ae):AS:=⟨135,[(0,.hptr 1000 (x0*5)),(2,iI x2),(4,.hptr 4 0),(6,iI y0.1),(8,iI (aL (y0.1.tdiv ((x3.getD x0 aa).scale)))),(9,iI (aL (y0.1.tdiv x1.scale))),(10,.amap 56),(11,iI e0.1),(13,iI y2.1),(61,.hptr 61 0)],[(4,.cells 76 [iI x1.q.Const,dS ao x1.q.Terms,.dmap (x1.mults.map (dL aj)),iI x1.scale,.bool x1.lost]),(56,.smap 1 3 (s0.2.map (dL aj))),(61,.iter (((x3.getD x0 aa).mults).map (dL aj)) (i0++[n1])),(1000,.row 76 5 (v0.map ab))]⟩
theorem qa (x0:Nat) (x1:ae) (x2:Int) (x3 r:List ae) (H:du x0 x1 x2 x3=some r):bY Tryz.prog 100 [.hptr 1000 (x0*5),.agg [iI x1.q.Const,dS ao x1.q.Terms,.dmap (x1.mults.map (dL aj)),iI x1.scale,.bool x1.lost],iI x2] [(1000,.row 76 5 (x3.map ab))] (fun r2 h0=>r2=(.tup [])∧h0=[(1000,.row 76 5 (r.map ab))]):=by
 unfold du at H;refine aX Tryz.func100 135 [] ?_;refine aK H fun g0 H0 => ?_;refine aQ H0 fun y0 h1 H1 => ?_;refine pD 6 [r0 [.m],.rg 11 [.v,.v,.v,.rl x0 3 (iI ((x3.getD x0 aa).scale)),.v,.v,.c true (.tup [iI y0.1,iI y0.2]),.v,.v,.v,.v] [.v]] [.only [0,2,4,6,7] [4,1000]] 6 [] (aC (iS (f:=ab) (l:=x3) (n:=x0) 5 3 1 (by omega) (by decide)) (aC (tJ (f:=ab) (l:=x3) (n:=x0) aa 3 (by omega)) (aC Tryz.call132 (aF (wY _ _ _ h1) aN)))) ?_;refine aZ H1 (fun c0 H2 => ?_) (fun c1 H3 => ?_)
 ·obtain rfl:=sI H2;exact pR 5 [r0 [.v,.v,.v,.rl x0 4 (.bool ((x3.getD x0 aa).lost)),.e bT,.s,.s,.v,.v,.s,.s,.s,.s,.v],r0 [.v,.v,.v,.rs x0 4,.rwH 1000 (.row 76 5 ((x3.set x0 (ae.mk (Linear.mk (((x3.getD x0 aa).q).Const) (((x3.getD x0 aa).q).Terms)) ((x3.getD x0 aa).mults) ((x3.getD x0 aa).scale) true)).map ab))]] [] [1000] (aC (iS (f:=ab) (l:=x3) (n:=x0) 5 4 1 (by omega) (by decide)) (aC (tJ (f:=ab) (l:=x3) (n:=x0) aa 4 (by omega)) (aB c0 (aC (iS (f:=ab) (l:=x3) (n:=x0) 5 4 1 (by omega) (by decide)) (aC (uE (f:=ab) 76 5 x3 x0 aa (ae.mk (Linear.mk (((x3.getD x0 aa).q).Const) (((x3.getD x0 aa).q).Terms)) ((x3.getD x0 aa).mults) ((x3.getD x0 aa).scale) true) 4 [.bool true] (by omega) rfl) aN)))))
 ·refine aZ H3 (fun c2 H4 => ?_) (fun c3 H5 => ?_)
  ·obtain rfl:=sI H4;exact pR 5 [r0 [.v,.v,.v,.rl x0 4 (.bool ((x3.getD x0 aa).lost)),.e bF,.v,.e bT,.v,.v,.s,.s,.s,.s,.v],r0 [.v,.v,.v,.rs x0 4,.rwH 1000 (.row 76 5 ((x3.set x0 (ae.mk (Linear.mk (((x3.getD x0 aa).q).Const) (((x3.getD x0 aa).q).Terms)) ((x3.getD x0 aa).mults) ((x3.getD x0 aa).scale) true)).map ab))]] [] [1000] (aC (iS (f:=ab) (l:=x3) (n:=x0) 5 4 1 (by omega) (by decide)) (aC (tJ (f:=ab) (l:=x3) (n:=x0) aa 4 (by omega)) (aB c1 (aB c2 (aC (iS (f:=ab) (l:=x3) (n:=x0) 5 4 1 (by omega) (by decide)) (aC (uE (f:=ab) 76 5 x3 x0 aa (ae.mk (Linear.mk (((x3.getD x0 aa).q).Const) (((x3.getD x0 aa).q).Terms)) ((x3.getD x0 aa).mults) ((x3.getD x0 aa).scale) true) 4 [.bool true] (by omega) rfl) aN))))))
  ·refine aQ H5 fun y1 h2 H6 => ?_;refine pD 1 [r0 [.v,.v,.v,.rl x0 4 (.bool ((x3.getD x0 aa).lost)),.e bF,.v,.e bF,.v,.v,.v,.v,.c true (.bool y1),.v,.v]] [.only [0,2,4,6,42] [4,1000]] 1 [] (aC (iS (f:=ab) (l:=x3) (n:=x0) 5 4 1 (by omega) (by decide)) (aC (tJ (f:=ab) (l:=x3) (n:=x0) aa 4 (by omega)) (aB c1 (aB c3 (aC Tryz.call45 (aF (dd _ _ _ h2) (aT aN))))))) ?_;refine aZ H6 (fun c4 H7 => ?_) (fun c5 H8 => ?_)
   ·refine aK H7 fun g1 H9 => ?_;refine aK H9 fun g2 H10 => ?_;refine pA 11 [.eqT 42 bF,.rg 11 (V 4 [.rl x0 3 (iI ((x3.getD x0 aa).scale)),.w,.v,.v,.v,.w,.v]) [.v],r0 [.m,.v],r0 [.v,.v,.v,.rl x0 2 (.dmap (((x3.getD x0 aa).mults).map (dL aj))),.m]] [.only [0,2,4,6,8,9,10,61] [4,56,61,1000]] 10 [false] (fR x0 x1 x2 x3 y0 [] (x3,[])) (aM c4 (aC (iS (f:=ab) (l:=x3) (n:=x0) 5 3 1 (by omega) (by decide)) (aC (tJ (f:=ab) (l:=x3) (n:=x0) aa 3 (by omega)) (aC (show (((x3.getD x0 aa).scale):Int)≠0 from g1) (aC (show (x1.scale:Int)≠0 from g2) (aC (iS (f:=ab) (l:=x3) (n:=x0) 5 2 1 (by omega) (by decide)) (aC (tJ (f:=ab) (l:=x3) (n:=x0) aa 2 (by omega)) aN))))))) ?_;refine qq (cc:=aj) 61 (fR x0 x1 x2 x3 y0) (by kernel_rfl) H10 [.v] (fun i0 s0=>⟨by kernel_rfl,by kernel_rfl⟩) (fun i0 s0=>⟨135,[(0,.hptr 1000 (x0*5)),(2,iI x2),(4,.hptr 4 0),(6,iI y0.1),(8,iI (aL (y0.1.tdiv ((x3.getD x0 aa).scale)))),(9,iI (aL (y0.1.tdiv x1.scale))),(10,.amap 56),(61,.hptr 61 0),(62,.tup [.bool false]),(63,.bool false)],[(4,.cells 76 [iI x1.q.Const,dS ao x1.q.Terms,.dmap (x1.mults.map (dL aj)),iI x1.scale,.bool x1.lost]),(56,.smap 1 3 (s0.2.map (dL aj))),(61,.iter (((x3.getD x0 aa).mults).map (dL aj)) i0),(1000,.row 76 5 (s0.1.map ab))]⟩) (fun i0 s0=>by kernel_rfl) (fun i0 s0 n1 e0=>⟨135,[(0,.hptr 1000 (x0*5)),(2,iI x2),(4,.hptr 4 0),(6,iI y0.1),(8,iI (aL (y0.1.tdiv ((x3.getD x0 aa).scale)))),(9,iI (aL (y0.1.tdiv x1.scale))),(10,.amap 56),(61,.hptr 61 0),(62,.tup [.bool true,iI e0.1,iI e0.2]),(63,.bool true)],[(4,.cells 76 [iI x1.q.Const,dS ao x1.q.Terms,.dmap (x1.mults.map (dL aj)),iI x1.scale,.bool x1.lost]),(56,.smap 1 3 (s0.2.map (dL aj))),(61,.iter (((x3.getD x0 aa).mults).map (dL aj)) (i0++[n1])),(1000,.row 76 5 (s0.1.map ab))]⟩) (fun i0 s0 n1 e0=>by kernel_rfl) (fun i0 s0 H11 => ?_) (fun i0 s0 n1 e0 h3 q0 h4 h5 => ?_)
    ·refine pA 7 [.rg 0 [] [.v,.v,.m]] [.only [0,2,6,9,10,91] [56,91,1000]] 7 [false] (fW x0 x1 x2 y0 [] (s0.1,s0.2)) aN ?_;refine qq (cc:=aj) 91 (fW x0 x1 x2 y0) (by kernel_rfl) H11 [.v] (fun i1 s1=>⟨by kernel_rfl,by kernel_rfl⟩) (fun i1 s1=>⟨135,[(0,.hptr 1000 (x0*5)),(2,iI x2),(6,iI y0.1),(9,iI (aL (y0.1.tdiv x1.scale))),(10,.amap 56),(91,.hptr 91 0),(92,.tup [.bool false]),(93,.bool false)],[(56,.smap 1 3 (s1.2.map (dL aj))),(91,.iter (x1.mults.map (dL aj)) i1),(1000,.row 76 5 (s1.1.map ab))]⟩) (fun i1 s1=>by kernel_rfl) (fun i1 s1 n0 e1=>⟨135,[(0,.hptr 1000 (x0*5)),(2,iI x2),(6,iI y0.1),(9,iI (aL (y0.1.tdiv x1.scale))),(10,.amap 56),(91,.hptr 91 0),(92,.tup [.bool true,iI e1.1,iI e1.2]),(93,.bool true)],[(56,.smap 1 3 (s1.2.map (dL aj))),(91,.iter (x1.mults.map (dL aj)) (i1++[n0])),(1000,.row 76 5 (s1.1.map ab))]⟩) (fun i1 s1 n0 e1=>by kernel_rfl) (fun i1 s1 H12 => ?_) (fun i1 s1 n0 e1 h6 q1 h7 h8 => ?_)
     ·refine aK H12 fun g3 H13 => ?_;refine aK H13 fun g4 H14 => ?_;obtain rfl:=sI H14;exact pR 4 [r0 (V 6 [.fo 56 ((ksort s1.2).map (dL aj)),.rs x0 2,.rwH 1000 (.row 76 5 ((s1.1.set x0 (ae.mk (Linear.mk (((s1.1.getD x0 aa).q).Const) (((s1.1.getD x0 aa).q).Terms)) (ksort s1.2) ((s1.1.getD x0 aa).scale) ((s1.1.getD x0 aa).lost))).map ab)),.v,.v,.rs x0 3,.rwH 1000 (.row 76 5 (((s1.1.set x0 (ae.mk (Linear.mk (((s1.1.getD x0 aa).q).Const) (((s1.1.getD x0 aa).q).Terms)) (ksort s1.2) ((s1.1.getD x0 aa).scale) ((s1.1.getD x0 aa).lost))).set x0 (ae.mk (Linear.mk ((((s1.1.set x0 (ae.mk (Linear.mk (((s1.1.getD x0 aa).q).Const) (((s1.1.getD x0 aa).q).Terms)) (ksort s1.2) ((s1.1.getD x0 aa).scale) ((s1.1.getD x0 aa).lost))).getD x0 aa).q).Const) ((((s1.1.set x0 (ae.mk (Linear.mk (((s1.1.getD x0 aa).q).Const) (((s1.1.getD x0 aa).q).Terms)) (ksort s1.2) ((s1.1.getD x0 aa).scale) ((s1.1.getD x0 aa).lost))).getD x0 aa).q).Terms)) (((s1.1.set x0 (ae.mk (Linear.mk (((s1.1.getD x0 aa).q).Const) (((s1.1.getD x0 aa).q).Terms)) (ksort s1.2) ((s1.1.getD x0 aa).scale) ((s1.1.getD x0 aa).lost))).getD x0 aa).mults) y0.1 (((s1.1.set x0 (ae.mk (Linear.mk (((s1.1.getD x0 aa).q).Const) (((s1.1.getD x0 aa).q).Terms)) (ksort s1.2) ((s1.1.getD x0 aa).scale) ((s1.1.getD x0 aa).lost))).getD x0 aa).lost))).map ab))])] [] [1000] (aC (And.intro (uy kg s1.2) (xV aj s1.2)) (aC (iS (f:=ab) (l:=s1.1) (n:=x0) 5 2 1 (by omega) (by decide)) (aC (uE (f:=ab) 76 5 s1.1 x0 aa (ae.mk (Linear.mk (((s1.1.getD x0 aa).q).Const) (((s1.1.getD x0 aa).q).Terms)) (ksort s1.2) ((s1.1.getD x0 aa).scale) ((s1.1.getD x0 aa).lost)) 2 [.dmap ((ksort s1.2).map (dL aj))] (by omega) rfl) (aC (iS (f:=ab) (l:=(s1.1.set x0 (ae.mk (Linear.mk (((s1.1.getD x0 aa).q).Const) (((s1.1.getD x0 aa).q).Terms)) (ksort s1.2) ((s1.1.getD x0 aa).scale) ((s1.1.getD x0 aa).lost)))) (n:=x0) 5 3 1 (by omega) (by decide)) (aC (uE (f:=ab) 76 5 (s1.1.set x0 (ae.mk (Linear.mk (((s1.1.getD x0 aa).q).Const) (((s1.1.getD x0 aa).q).Terms)) (ksort s1.2) ((s1.1.getD x0 aa).scale) ((s1.1.getD x0 aa).lost))) x0 aa (ae.mk (Linear.mk ((((s1.1.set x0 (ae.mk (Linear.mk (((s1.1.getD x0 aa).q).Const) (((s1.1.getD x0 aa).q).Terms)) (ksort s1.2) ((s1.1.getD x0 aa).scale) ((s1.1.getD x0 aa).lost))).getD x0 aa).q).Const) ((((s1.1.set x0 (ae.mk (Linear.mk (((s1.1.getD x0 aa).q).Const) (((s1.1.getD x0 aa).q).Terms)) (ksort s1.2) ((s1.1.getD x0 aa).scale) ((s1.1.getD x0 aa).lost))).getD x0 aa).q).Terms)) (((s1.1.set x0 (ae.mk (Linear.mk (((s1.1.getD x0 aa).q).Const) (((s1.1.getD x0 aa).q).Terms)) (ksort s1.2) ((s1.1.getD x0 aa).scale) ((s1.1.getD x0 aa).lost))).getD x0 aa).mults) y0.1 (((s1.1.set x0 (ae.mk (Linear.mk (((s1.1.getD x0 aa).q).Const) (((s1.1.getD x0 aa).q).Terms)) (ksort s1.2) ((s1.1.getD x0 aa).scale) ((s1.1.getD x0 aa).lost))).getD x0 aa).lost)) 3 [iI y0.1] (by omega) rfl) aN)))))
     ·refine aQ h7 fun y4 h9 H15 => ?_;refine aK H15 fun g5 H16 => ?_;refine pD 9 [r0 [.en n0 (.tup [iI e1.1,iI e1.2]),.v,.v,.v,.v],r0 [.v,.w,.v,.w,.b,.v,.v,.l (iI (ba 0 (e1.1:Int) s1.2)),.v,.b,.c true (.tup [iI y4.1,iI y4.2]),.v,.v,.v,.v,.v]] [.only [0,2,6,9,10,15,17,18,91] [56,91,1000]] 9 [true] (aC (jO i1 n0) (aC (wg (cc:=aj) h6) (aC (nT (c:=aj) (e1.1:Int) 0 s1.2) (aC Tryz.call47 (aF (hU _ _ _ h9) aN))))) ?_;refine aQ H16 fun v1 h10 H17 => ?_;refine eR 0 (fX x0 x1 x2 y0 i1 s1 n0 e1 y4 v1) (by kernel_rfl) ?_ ?_
      ·refine aZ h10 (fun c6 H18 => ?_) (fun c7 H19 => ?_)
       ·obtain rfl:=sI H18;exact pB 1 [r0 (V 4 [.rl x0 4 (.bool ((s1.1.getD x0 aa).lost)),.e bT,.s,.s,.s,.s,.v,.v,.v,.rs x0 4,.rwH 1000 (.row 76 5 ((s1.1.set x0 (ae.mk (Linear.mk (((s1.1.getD x0 aa).q).Const) (((s1.1.getD x0 aa).q).Terms)) ((s1.1.getD x0 aa).mults) ((s1.1.getD x0 aa).scale) true)).map ab))])] [.only [0,2,6,9,10,15,17,91] [56,91,1000]] (fX x0 x1 x2 y0 i1 s1 n0 e1 y4 (s1.1.set x0 (ae.mk (Linear.mk (((s1.1.getD x0 aa).q).Const) (((s1.1.getD x0 aa).q).Terms)) ((s1.1.getD x0 aa).mults) ((s1.1.getD x0 aa).scale) true))) (aC (iS (f:=ab) (l:=s1.1) (n:=x0) 5 4 1 (by omega) (by decide)) (aC (tJ (f:=ab) (l:=s1.1) (n:=x0) aa 4 (by omega)) (aB c6 (aC (iS (f:=ab) (l:=s1.1) (n:=x0) 5 4 1 (by omega) (by decide)) (aC (uE (f:=ab) 76 5 s1.1 x0 aa (ae.mk (Linear.mk (((s1.1.getD x0 aa).q).Const) (((s1.1.getD x0 aa).q).Terms)) ((s1.1.getD x0 aa).mults) ((s1.1.getD x0 aa).scale) true) 4 [.bool true] (by omega) rfl) aN)))))
       ·refine aQ H19 fun y5 h11 H20 => ?_;obtain rfl:=sI H20;exact pB 1 [r0 (V 4 [.rl x0 4 (.bool ((s1.1.getD x0 aa).lost)),.e bF,.v,.v,.c true (.bool y5),.v,.v,.v,.v,.rs x0 4,.rwH 1000 (.row 76 5 ((s1.1.set x0 (ae.mk (Linear.mk (((s1.1.getD x0 aa).q).Const) (((s1.1.getD x0 aa).q).Terms)) ((s1.1.getD x0 aa).mults) ((s1.1.getD x0 aa).scale) (!y5))).map ab))])] [.only [0,2,6,9,10,15,17,91] [56,91,1000]] (fX x0 x1 x2 y0 i1 s1 n0 e1 y4 (s1.1.set x0 (ae.mk (Linear.mk (((s1.1.getD x0 aa).q).Const) (((s1.1.getD x0 aa).q).Terms)) ((s1.1.getD x0 aa).mults) ((s1.1.getD x0 aa).scale) (!y5)))) (aC (iS (f:=ab) (l:=s1.1) (n:=x0) 5 4 1 (by omega) (by decide)) (aC (tJ (f:=ab) (l:=s1.1) (n:=x0) aa 4 (by omega)) (aB c7 (aC Tryz.call45 (aF (dd _ _ _ h11) (aT (aC (iS (f:=ab) (l:=s1.1) (n:=x0) 5 4 1 (by omega) (by decide)) (aC (uE (f:=ab) 76 5 s1.1 x0 aa (ae.mk (Linear.mk (((s1.1.getD x0 aa).q).Const) (((s1.1.getD x0 aa).q).Terms)) ((s1.1.getD x0 aa).mults) ((s1.1.getD x0 aa).scale) (!y5)) 4 [.bool (!y5)] (by omega) rfl) aN))))))))
      ·obtain rfl:=sI H17;exact pB 1 [r0 [.v,.v,.v,.m,.rwH 56 (.smap 1 3 ((bI (e1.1:Int) y4.1 s1.2).map (dL aj)))]] [.only [0,2,6,9,10,91] [56,91,1000]] (fW x0 x1 x2 y0 (i1++[n0]) (v1,(bI (e1.1:Int) y4.1 s1.2))) (aC (congrArg (AO.smap 1 3) (jP (c:=aj) (e1.1:Int) y4.1 s1.2)) aN)
    ·refine aQ h4 fun y2 h12 H21 => ?_;refine aK H21 fun g6 H22 => ?_;refine pD 9 [r0 [.en n1 (.tup [iI e0.1,iI e0.2]),.v,.v,.v,.v],r0 [.v,.v,.c true (.tup [iI y2.1,iI y2.2]),.v,.v,.v,.v,.v]] [.only [0,2,4,6,8,9,10,11,13,14,61] [4,56,61,1000]] 9 [true] (aC (jO i0 n1) (aC (wg (cc:=aj) h3) (aC Tryz.call58 (aF (gT _ _ _ h12) aN)))) ?_;refine aQ H22 fun v0 h13 H23 => ?_;refine eR 0 (fS x0 x1 x2 x3 y0 i0 s0 n1 e0 y2 v0) (by kernel_rfl) ?_ ?_
     ·refine aZ h13 (fun c8 H24 => ?_) (fun c9 H25 => ?_)
      ·obtain rfl:=sI H24;exact pB 1 [r0 (V 4 [.rl x0 4 (.bool ((s0.1.getD x0 aa).lost)),.e bT,.s,.s,.s,.s,.v,.v,.v,.rs x0 4,.rwH 1000 (.row 76 5 ((s0.1.set x0 (ae.mk (Linear.mk (((s0.1.getD x0 aa).q).Const) (((s0.1.getD x0 aa).q).Terms)) ((s0.1.getD x0 aa).mults) ((s0.1.getD x0 aa).scale) true)).map ab))])] [.only [0,2,4,6,8,9,10,11,13,61] [4,56,61,1000]] (fS x0 x1 x2 x3 y0 i0 s0 n1 e0 y2 (s0.1.set x0 (ae.mk (Linear.mk (((s0.1.getD x0 aa).q).Const) (((s0.1.getD x0 aa).q).Terms)) ((s0.1.getD x0 aa).mults) ((s0.1.getD x0 aa).scale) true))) (aC (iS (f:=ab) (l:=s0.1) (n:=x0) 5 4 1 (by omega) (by decide)) (aC (tJ (f:=ab) (l:=s0.1) (n:=x0) aa 4 (by omega)) (aB c8 (aC (iS (f:=ab) (l:=s0.1) (n:=x0) 5 4 1 (by omega) (by decide)) (aC (uE (f:=ab) 76 5 s0.1 x0 aa (ae.mk (Linear.mk (((s0.1.getD x0 aa).q).Const) (((s0.1.getD x0 aa).q).Terms)) ((s0.1.getD x0 aa).mults) ((s0.1.getD x0 aa).scale) true) 4 [.bool true] (by omega) rfl) aN)))))
      ·refine aQ H25 fun y3 h14 H26 => ?_;obtain rfl:=sI H26;exact pB 1 [r0 (V 4 [.rl x0 4 (.bool ((s0.1.getD x0 aa).lost)),.e bF,.v,.v,.c true (.bool y3),.v,.v,.v,.v,.rs x0 4,.rwH 1000 (.row 76 5 ((s0.1.set x0 (ae.mk (Linear.mk (((s0.1.getD x0 aa).q).Const) (((s0.1.getD x0 aa).q).Terms)) ((s0.1.getD x0 aa).mults) ((s0.1.getD x0 aa).scale) (!y3))).map ab))])] [.only [0,2,4,6,8,9,10,11,13,61] [4,56,61,1000]] (fS x0 x1 x2 x3 y0 i0 s0 n1 e0 y2 (s0.1.set x0 (ae.mk (Linear.mk (((s0.1.getD x0 aa).q).Const) (((s0.1.getD x0 aa).q).Terms)) ((s0.1.getD x0 aa).mults) ((s0.1.getD x0 aa).scale) (!y3)))) (aC (iS (f:=ab) (l:=s0.1) (n:=x0) 5 4 1 (by omega) (by decide)) (aC (tJ (f:=ab) (l:=s0.1) (n:=x0) aa 4 (by omega)) (aB c9 (aC Tryz.call45 (aF (dd _ _ _ h14) (aT (aC (iS (f:=ab) (l:=s0.1) (n:=x0) 5 4 1 (by omega) (by decide)) (aC (uE (f:=ab) 76 5 s0.1 x0 aa (ae.mk (Linear.mk (((s0.1.getD x0 aa).q).Const) (((s0.1.getD x0 aa).q).Terms)) ((s0.1.getD x0 aa).mults) ((s0.1.getD x0 aa).scale) (!y3)) 4 [.bool (!y3)] (by omega) rfl) aN))))))))
     ·obtain rfl:=sI H23;exact pB 1 [r0 [.v,.v,.v,.m,.rwH 56 (.smap 1 3 ((bI (e0.1:Int) y2.1 s0.2).map (dL aj)))]] [.only [0,2,4,6,8,9,10,61] [4,56,61,1000]] (fR x0 x1 x2 x3 y0 (i0++[n1]) (v0,(bI (e0.1:Int) y2.1 s0.2))) (aC (congrArg (AO.smap 1 3) (jP (c:=aj) (e0.1:Int) y2.1 s0.2)) aN)
   ·obtain rfl:=sI H8;exact pR 5 [.eqT 42 bT,r0 [.v,.v,.v,.rs x0 4,.rwH 1000 (.row 76 5 ((x3.set x0 (ae.mk (Linear.mk (((x3.getD x0 aa).q).Const) (((x3.getD x0 aa).q).Terms)) ((x3.getD x0 aa).mults) ((x3.getD x0 aa).scale) true)).map ab))]] [] [1000] (aM c5 (aC (iS (f:=ab) (l:=x3) (n:=x0) 5 4 1 (by omega) (by decide)) (aC (uE (f:=ab) 76 5 x3 x0 aa (ae.mk (Linear.mk (((x3.getD x0 aa).q).Const) (((x3.getD x0 aa).q).Terms)) ((x3.getD x0 aa).mults) ((x3.getD x0 aa).scale) true) 4 [.bool true] (by omega) rfl) aN)))
def ju (x0:Bind) (x1:aq):Option Bool :=
 bif (x0.Kind==1) then (
  some (x0.Var==x1.Var)
 ) else (
  some false
 )
theorem sN (x0:Bind) (x1:aq) (r:Bool) (H:ju x0 x1=some r):bQ Tryz.prog 163 [.agg [iI x0.Kind,.str x0.Var,iI x0.Dim.Const,dS ao x0.Dim.Terms,.str x0.Row.Row,dS ak x0.Row.Dims,.str x0.Elem],.dptr [.str x1.Var,iI x1.C]] (.bool r):=by
 unfold ju at H;refine aX Tryz.func163 14 [.tmp 3] ?_;refine aZ H (fun c0 H0 => ?_) (fun c1 H1 => ?_)
 ·obtain rfl:=sI H0;exact pR 5 [r0 [.m,.v],r0 [.v,.v,.e bT,.v,.v,.v,.v,.v,.v,.v,.v]] [] [] (aB c0 aN)
 ·obtain rfl:=sI H1;exact pR 5 [r0 [.m,.v],r0 [.v,.v,.e bF,.v,.s,.s,.s,.s,.s,.v,.v]] [] [] (aB c1 aN)
def ct (x0:List Bind) (x1:au) (x2:Int):Option Int :=
 (eH (σ:=Unit) (ε:=Unit) (ρ:=Int) (fun i0 s0 =>
  (ju (Bind.mk ((x0.getD i0 aw).Kind) ((x0.getD i0 aw).Var) (Linear.mk (((x0.getD i0 aw).Dim).Const) (((x0.getD i0 aw).Dim).Terms)) (Shape.mk (((x0.getD i0 aw).Row).Row) (((x0.getD i0 aw).Row).Dims)) ((x0.getD i0 aw).Elem)) (aq.mk x1 x2)).bind fun y0 =>
  bif y0 then (
   some (.ret ((i0:Nat):Int))
  ) else (
   some (.go ())
  )
 ) (fun i0 s0=>()) (x0.length-0) 0 ()).bind <| aft fun u0 =>
 some (-1)
def dE (x0:List Bind) (x1:au) (x2:Int) (i0:Nat) (s0:Unit):AS:=⟨19,[(0,dS aA x0),(1,.fn 163 [.hptr 1000 0]),(4,iI 0),(7,nI x0.length),(8,nI i0)],[(1000,.cells 88 [.str x1,iI x2])]⟩
def fK (x1:au) (x2:Int) (u1:Unit):AS:=⟨19,[(4,iI 0)],[(1000,.cells 88 [.str x1,iI x2])]⟩
theorem kF (x0:List Bind) (x1:au) (x2 r:Int) (H:ct x0 x1 x2=some r):bY Tryz.prog 162 [dS aA x0,.fn 163 [.hptr 1000 0]] [(1000,.cells 88 [.str x1,iI x2])] (fun r2 h0=>r2=(iI r)∧h0=[(1000,.cells 88 [.str x1,iI x2])]):=by
 unfold ct at H;refine aX Tryz.func162 19 [.tmp 4] ?_;refine pA 6 [V1,r0 [.v,.e (nI x0.length),.v]] [.only [0,1,4,7,8] [1000]] 6 [] (dE x0 x1 x2 0 ()) (aT (aC (aP aA x0) aN)) ?_;refine aQ H fun R0 h1 H0 => ?_;refine pJ 1 (fK x1 x2) R0 ?_ (fun u0 e0 => ?_)
 ·refine pC (dE x0 x1 x2) h1 (fun i0 s0 h2 e1 => ?_) (fun i0 s0 h3 q0 h4 h5 => ?_)
  ·have c0:=lF i0 x0.length (by omega);subst e1;exact pB 5 [r0 [.e bF]] [.only [4] [1000]] (fK x1 x2 ()) (aB c0 aN)
  ·have c1:=lT i0 x0.length (by omega);refine aQ h4 fun y0 h6 H1 => ?_;refine pD 11 [r0 [.e bT],V2,r0 [.v,.v,.v,.e (.dptr (aA (x0.getD i0 aw))),.v,.c false (.bool y0)]] [.only [0,1,4,5,7,8,16] [1000]] 11 [true] (aB c1 (aI bg x0 i0 aw (aC Tryz.call163 (aF (sN _ _ _ h6) aN)))) ?_;refine aZ H1 (fun c2 H2 => ?_) (fun c3 H3 => ?_)
   ·obtain rfl:=sI H2;obtain rfl:=aS h5;obtain rfl:=sI (aJ H0);exact pR 5 [.eqT 16 bT,V2] [] [1000] (aB c2 aN)
   ·refine bV 0 (ps:=[(x0.map aA).length≤9223372036854775807]) (by kernel_rfl) (fun l0 => ?_);have l1:x0.length≤9223372036854775807:=by simpa only [cI,LI] using l0
    clear l0;obtain rfl:=sI H3;exact pB 4 [.eqT 16 bF,V2] [.only [0,1,4,7,8] [1000]] (dE x0 x1 x2 (i0+1) ()) (aB c3 (aH i0 aN))
 ·subst e0;have H4:=bq H0;obtain rfl:=sI H4;exact pR 3 [V1] [] [1000] aN
def gj (x0:Linear) (x1 x2:Int) (x3:List (au×Int)):Option (Int×(List (au×Int))) :=
 (eH (σ:=(List (au×Int))) (ε:=(Int×(List (au×Int)))) (ρ:=(Int×(List (au×Int)))) (fun i0 s0 =>
  some (.go (bI ((x0.Terms.getD i0 ay).Var) (aL ((ba 0 ((x0.Terms.getD i0 ay).Var) s0)+(aL (x1*((x0.Terms.getD i0 ay).C))))) s0))
 ) (fun i0 s0=>((aL (x2+(aL (x1*x0.Const)))),s0)) (x0.Terms.length-0) 0 x3).bind <| aft some
def iV (x0:Linear) (x1 x2:Int) (i0:Nat) (s0:List (au×Int)):AS:=⟨39,[(0,.hptr 1000 0),(2,iI x1),(20,dS ao x0.Terms),(21,nI x0.Terms.length),(22,nI i0)],[(1000,.cells 201 [iI (aL (x2+(aL (x1*x0.Const)))),.amap 1001]),(1001,.smap 0 3 (s0.map (j3 aj)))]⟩
theorem sF (x0:Linear) (x1 x2:Int) (x3:List (au×Int)) (r:Int×(List (au×Int))) (H:gj x0 x1 x2 x3=some r):bY Tryz.prog 164 [.hptr 1000 0,.agg [iI x0.Const,dS ao x0.Terms],iI x1] [(1000,.cells 201 [iI x2,.amap 1001]),(1001,.smap 0 3 (x3.map (j3 aj)))] (fun r2 h0=>r2=(.tup [])∧h0=[(1000,.cells 201 [iI r.1,.amap 1001]),(1001,.smap 0 3 (r.2.map (j3 aj)))]):=by
 unfold gj at H;refine aX Tryz.func164 39 [] ?_;refine pA 7 [r0 [.m],.rg 8 (V 7 [.w]) [.w,.v,.v,.m],r0 [.v,.v,.e (nI x0.Terms.length),.v]] [.only [0,2,20,21,22] [1000,1001]] 7 [] (iV x0 x1 x2 0 x3) (aT (aC (aP ao x0.Terms) aN)) ?_;refine aQ H fun R0 h1 H0 => ?_;refine pC (iV x0 x1 x2) h1 (fun i0 s0 h2 e0 => ?_) (fun i0 s0 h3 q0 h4 h5 => ?_)
 ·have c0:=lF i0 x0.Terms.length (by omega);subst e0;obtain rfl:=sI (bq H0);exact pR 5 [r0 [.e bF]] [] [1000,1001] (aB c0 aN)
 ·have c1:=lT i0 x0.Terms.length (by omega);refine bV 20 (ps:=[(x0.Terms.map ao).length≤9223372036854775807]) (by kernel_rfl) (fun l0 => ?_);have l1:x0.Terms.length≤9223372036854775807:=by simpa only [cI,LI] using l0
  clear l0;obtain rfl:=sI h4;exact pB 11 [r0 [.e bT],r0 [.e (.dptr (ao (x0.Terms.getD i0 ay))),.v,.m,.m],.rg 11 (V 6 [.l (iI (ba 0 ((x0.Terms.getD i0 ay).Var) s0)),.v,.v,.v,.w]) [.w,.m,.rwH 1001 (.smap 0 3 ((bI ((x0.Terms.getD i0 ay).Var) (aL ((ba 0 ((x0.Terms.getD i0 ay).Var) s0)+(aL (x1*((x0.Terms.getD i0 ay).C))))) s0).map (j3 aj)))],V2] [.only [0,2,20,21,22] [1000,1001]] (iV x0 x1 x2 (i0+1) (bI ((x0.Terms.getD i0 ay).Var) (aL ((ba 0 ((x0.Terms.getD i0 ay).Var) s0)+(aL (x1*((x0.Terms.getD i0 ay).C))))) s0)) (aB c1 (aI bf x0.Terms i0 ay (aC (nT (c:=aj) ((x0.Terms.getD i0 ay).Var) 0 s0) (aC (congrArg (AO.smap 0 3) (jP (c:=aj) ((x0.Terms.getD i0 ay).Var) (aL ((ba 0 ((x0.Terms.getD i0 ay).Var) s0)+(aL (x1*((x0.Terms.getD i0 ay).C))))) s0)) (aH i0 aN)))))
noncomputable def eK (x0:Int) (x1:List (au×Int)):Option (Linear×Int) :=
 nY (σ:=(List au)) (ε:=Empty) (β:=(Linear×Int)) x1 (fun e0 s0 =>
  bif (e0.2==0) then (
   some (.go s0)
  ) else (
   bM ((s0.length+1)*16≤140737488355328) <|
   some (.go (s0++[e0.1]))
  )
 ) [] (fun s0 =>
  (jZ s0).bind fun y0 =>
  (eH (σ:=(List aq)) (ε:=(List aq)) (ρ:=Empty) (fun i0 s1 =>
   bM ((s1.length+1)*24≤140737488355328) <|
   some (.go (s1++[(aq.mk (y0.getD i0 []) (ba 0 (y0.getD i0 []) x1))]))
  ) (fun i0 s1=>s1) (y0.length-0) 0 []).bind <| dI fun u0 =>
  (bR (Linear.mk x0 u0)).bind fun y1 =>
  bif y1 then (
   some ((Linear.mk x0 u0),0)
  ) else (
   some ((Linear.mk 0 []),3)
  )
 )
def eP (x0:Int) (x1:List (au×Int)) (i1:List Nat) (s0:List au):AS:=⟨58,[(0,.hptr 1000 0),(2,.hptr 2 0),(3,iI 0),(4,.hptr 4 0),(5,.rslice 30),(19,.hptr 19 0)],[(2,.cells 34 [iI 0,.eslice]),(4,.cells 34 [iI x0,.eslice]),(19,.iter (x1.map (j3 aj)) i1),(30,.row 9 1 (s0.map bt)),(1000,.cells 201 [iI x0,.dmap (x1.map (j3 aj))])]⟩
def gh (x0:Int) (x1:List (au×Int)) (y0:List au) (i0:Nat) (s1:List aq):AS:=⟨58,[(0,.hptr 1000 0),(2,.hptr 2 0),(3,iI 0),(4,.hptr 4 0),(33,.rslice 30),(34,nI y0.length),(35,nI i0)],[(2,.cells 34 [iI 0,.eslice]),(4,.cells 34 [iI x0,.rslice 50]),(30,.row 9 1 (y0.map bt)),(50,.row 88 2 (s1.map ao)),(1000,.cells 201 [iI x0,.dmap (x1.map (j3 aj))])]⟩
def jW (x0:Int) (x1:List (au×Int)) (u1:List aq):AS:=⟨58,[(2,.hptr 2 0),(3,iI 0),(4,.hptr 4 0)],[(2,.cells 34 [iI 0,.eslice]),(4,.cells 34 [iI x0,.rslice 50]),(50,.row 88 2 (u1.map ao)),(1000,.cells 201 [iI x0,.dmap (x1.map (j3 aj))])]⟩
theorem qJ (x0:Int) (x1:List (au×Int)) (r:Linear×Int) (H:eK x0 x1=some r):bY Tryz.prog 165 [.hptr 1000 0] [(1000,.cells 201 [iI x0,.amap 1001]),(1001,.smap 0 3 (x1.map (j3 aj)))] (fun r2 h0=>r2=(.tup [.agg [iI r.1.Const,dS ao r.1.Terms],iI r.2])∧h0=[]):=by
 unfold eK at H;refine aX Tryz.func165 58 [.cell 2 34,.tmp 3] ?_;refine pA 10 [r0 [.m,.v],r0 (V 4 [.b,.m,.m]),V1,r0 (V 4 [.fm 1001,.m])] [.er 5 30 9 1,.only [0,2,3,4,5,19] [2,4,19,30,1000]] 10 [] (eP x0 x1 [] []) (aC (uy kg x1) aN) ?_;refine qq (cc:=aj) 19 (eP x0 x1) (by kernel_rfl) H [.v] (fun i1 s0=>⟨by kernel_rfl,by kernel_rfl⟩) (fun i1 s0=>⟨58,[(0,.hptr 1000 0),(2,.hptr 2 0),(3,iI 0),(4,.hptr 4 0),(5,.rslice 30),(19,.hptr 19 0),(20,.tup [.bool false]),(21,.bool false)],[(2,.cells 34 [iI 0,.eslice]),(4,.cells 34 [iI x0,.eslice]),(19,.iter (x1.map (j3 aj)) i1),(30,.row 9 1 (s0.map bt)),(1000,.cells 201 [iI x0,.dmap (x1.map (j3 aj))])]⟩) (fun i1 s0=>by kernel_rfl) (fun i1 s0 n0 e0=>⟨58,[(0,.hptr 1000 0),(2,.hptr 2 0),(3,iI 0),(4,.hptr 4 0),(5,.rslice 30),(19,.hptr 19 0),(20,.tup [.bool true,.str e0.1,iI e0.2]),(21,.bool true)],[(2,.cells 34 [iI 0,.eslice]),(4,.cells 34 [iI x0,.eslice]),(19,.iter (x1.map (j3 aj)) (i1++[n0])),(30,.row 9 1 (s0.map bt)),(1000,.cells 201 [iI x0,.dmap (x1.map (j3 aj))])]⟩) (fun i1 s0 n0 e0=>by kernel_rfl) (fun i1 s0 H0 => ?_) (fun i1 s0 n0 e0 h1 q0 h2 h3 => ?_)
 ·refine aQ H0 fun y0 h4 H1 => ?_;refine pA 9 [r0 [.v,.hR [(30,1000)] 32 (.tup []) [(1000,.row 9 1 (y0.map bt))]],r0 [.v,.e (nI y0.length),.v]] [.erH 4 1 50 88 2,.only [0,2,3,4,33,34,35] [2,4,30,50,1000]] 9 [false] (gh x0 x1 y0 0 []) (aC Tryz.call63 (aC (vW s0 y0 h4) (aT (aC (aP bt y0) aN)))) ?_;refine aQ H1 fun R0 h5 H2 => ?_;refine pJ 1 (jW x0 x1) R0 ?_ (fun u0 e1 => ?_)
  ·refine pC (gh x0 x1 y0) h5 (fun i0 s1 h6 e2 => ?_) (fun i0 s1 h7 q1 h8 h9 => ?_)
   ·have c0:=lF i0 y0.length (by omega);subst e2;exact pB 5 [r0 [.e bF]] [.only [2,3,4] [2,4,50,1000]] (jW x0 x1 s1) (aB c0 aN)
   ·have c1:=lT i0 y0.length (by omega);refine aK h8 fun g0 H3 => ?_;refine uB 30 (n:=(y0.map bt).length) (by kernel_rfl) (fun l0 => ?_);have l1:y0.length≤9223372036854775807:=by simpa only [LI] using l0
    clear l0;obtain rfl:=sI H3;exact pB 11 [r0 [.e bT],r0 [.v,.rl i0 0 (.str (y0.getD i0 [])),.v],.rg 11 (V 8 [.l (iI (ba 0 (y0.getD i0 []) x1)),.b,.b]) [.ap,.rwH 50 (.row 88 2 ((s1++[(aq.mk (y0.getD i0 []) (ba 0 (y0.getD i0 []) x1))]).map ao)),.v,.m],V2] [.only [0,2,3,4,33,34,35] [2,4,30,50,1000]] (gh x0 x1 y0 (i0+1) (s1++[(aq.mk (y0.getD i0 []) (ba 0 (y0.getD i0 []) x1))])) (aB c1 (aC (show (0:Int)≤((i0:Nat):Int)∧((i0:Nat):Int)<((y0.map bt).length:Int) from by rw [LI];omega) (aC (iS (f:=bt) (l:=y0) (n:=i0) 1 0 1 (by omega) (by decide)) (aC (tJ (f:=bt) (l:=y0) (n:=i0) [] 0 (by omega)) (aC (EI aj (y0.getD i0 []) x1) (aC (nT (c:=aj) (y0.getD i0 []) 0 x1) (b9 (yf (c:=ao) gQ s1 [(aq.mk (y0.getD i0 []) (ba 0 (y0.getD i0 []) x1))] 24 (by decide) (by first | (simp;done) | simpa using g0)) (aC (Bn 88 2 ao s1 [(aq.mk (y0.getD i0 []) (ba 0 (y0.getD i0 []) x1))]) (aH i0 aN)))))))))
  ·subst e1;have H4:=bG H2;refine aQ H4 fun y1 h10 H5 => ?_;refine aZ H5 (fun c2 H6 => ?_) (fun c3 H7 => ?_)
   ·obtain rfl:=sI H6;exact pR 9 [r0 [.v,.c false (.bool y1),.v],.eqT 55 bF,r0 [.v,.m,.v]] [.fz 50] [] (aC Tryz.call50 (aF (bK _ _ h10) (aT (aM c2 aN))))
   ·obtain rfl:=sI H7;exact pR 8 [r0 [.v,.c false (.bool y1),.v],.eqT 55 bT,r0 [.b,.m,.v]] [.wkH 2 1 []] [] (aC Tryz.call50 (aF (bK _ _ h10) (aT (aM c3 aN))))
 ·refine aZ h2 (fun c4 H8 => ?_) (fun c5 H9 => ?_)
  ·obtain rfl:=sI H8;exact pB 11 [r0 [.en n0 (.tup [.str e0.1,iI e0.2]),.v,.v,.v,.v],V2,.eqT 26 bF] [.only [0,2,3,4,5,19] [2,4,19,30,1000]] (eP x0 x1 (i1++[n0]) s0) (aC (jO i1 n0) (aC (wg (cc:=aj) h1) (aM c4 aN)))
  ·refine aK H9 fun g1 H10 => ?_;obtain rfl:=sI H10;exact pB 11 [r0 [.en n0 (.tup [.str e0.1,iI e0.2]),.v,.v,.v,.v],V2,.eqT 26 bT,r0 [.v,.v,.b,.ap,.rwH 30 (.row 9 1 ((s0++[e0.1]).map bt)),.v]] [.only [0,2,3,4,5,19] [2,4,19,30,1000]] (eP x0 x1 (i1++[n0]) (s0++[e0.1])) (aC (jO i1 n0) (aC (wg (cc:=aj) h1) (aM c5 (b9 (yf (c:=bt) rQ s0 [e0.1] 16 (by decide) (by first | (simp;done) | simpa using g1)) (aC (Bn 9 1 bt s0 [e0.1]) aN)))))
noncomputable def gG (x0:Linear) (x1:List Bind):Option (Linear×Int) :=
 (bR x0).bind fun y0 =>
 bif y0 then (
  (eH (σ:=(Int×(List (au×Int)))) (ε:=(Int×(List (au×Int)))) (ρ:=(Linear×Int)) (fun i0 s0 =>
   (ct x1 ((x0.Terms.getD i0 ay).Var) ((x0.Terms.getD i0 ay).C)).bind fun y1 =>
   ((
    bif decide (y1<0) then (
     some (.brk (s0.1,(bI ((x0.Terms.getD i0 ay).Var) (aL ((ba 0 ((x0.Terms.getD i0 ay).Var) s0.2)+((x0.Terms.getD i0 ay).C))) s0.2)))
    ) else (
     bM (0≤y1∧y1<(x1.length:Int)) <|
     (bR (Linear.mk (((x1.getD y1.toNat aw).Dim).Const) (((x1.getD y1.toNat aw).Dim).Terms))).bind fun y2 =>
     bif y2 then (
      (gj (Linear.mk (((x1.getD y1.toNat aw).Dim).Const) (((x1.getD y1.toNat aw).Dim).Terms)) ((x0.Terms.getD i0 ay).C) s0.1 s0.2).bind fun y3 =>
      some (.brk (y3.1,y3.2))
     ) else (
      some (.ret (.ret ((Linear.mk 0 []),1)))
     )
    )
   ):Option (Out (Int×(List (au×Int))) (gC (Int×(List (au×Int))) (Int×(List (au×Int))) (Linear×Int)))).bind (aft fun u0 =>
    some (.go (u0.1,u0.2))
   )
  ) (fun i0 s0=>(s0.1,s0.2)) (x0.Terms.length-0) 0 (x0.Const,[])).bind <| aft fun u1 =>
  (eK u1.1 u1.2).bind fun y4 =>
  some (y4.1,y4.2)
 ) else (
  some ((Linear.mk 0 []),1)
 )
def kx (x0:Linear) (x1:List Bind) (i0:Nat) (s0:Int×(List (au×Int))):AS:=⟨60,[(1,dS aA x1),(4,.hptr 4 0),(5,iI 0),(6,.hptr 6 0),(19,dS ao x0.Terms),(20,nI x0.Terms.length),(21,nI i0)],[(4,.cells 34 [iI 0,.eslice]),(6,.cells 201 [iI s0.1,.amap 16]),(16,.smap 0 3 (s0.2.map (j3 aj)))]⟩
def oN (u2:Int×(List (au×Int))):AS:=⟨60,[(4,.hptr 4 0),(5,iI 0),(6,.hptr 6 0)],[(4,.cells 34 [iI 0,.eslice]),(6,.cells 201 [iI u2.1,.amap 16]),(16,.smap 0 3 (u2.2.map (j3 aj)))]⟩
def kv (x0:Linear) (x1:List Bind) (i0:Nat) (u0:Int×(List (au×Int))):AS:=⟨60,[(1,dS aA x1),(4,.hptr 4 0),(5,iI 0),(6,.hptr 6 0),(19,dS ao x0.Terms),(20,nI x0.Terms.length),(21,nI i0)],[(4,.cells 34 [iI 0,.eslice]),(6,.cells 201 [iI u0.1,.amap 16]),(16,.smap 0 3 (u0.2.map (j3 aj)))]⟩
theorem oW (x0:Linear) (x1:List Bind) (r:Linear×Int) (H:gG x0 x1=some r):bQ Tryz.prog 131 [.agg [iI x0.Const,dS ao x0.Terms],dS aA x1] (.tup [.agg [iI r.1.Const,dS ao r.1.Terms],iI r.2]):=by
 unfold gG at H;refine aX Tryz.func131 60 [.cell 4 34,.tmp 5] ?_;refine aQ H fun y0 h0 H0 => ?_;refine aZ H0 (fun c0 H1 => ?_) (fun c1 H2 => ?_)
 ·refine pA 14 [.rg 0 [] [.m,.m,.v],.rg 0 [] [.v,.c true (.bool y0),.v],.eqT 12 bF,.rg 0 [] [.v,.v,.m,.b,.m,.m],.rg 0 [] [.v,.v,.e (.int .i64 ((x0.Terms.length:Nat):Int)),.v]] [.only [1,4,5,6,19,20,21] [4,6,16]] 13 [false] (kx x0 x1 0 (x0.Const,[])) (aC Tryz.call50 (aF (bK _ _ h0) (aT (aM c0 (aT (aC (aP ao x0.Terms) aN)))))) ?_;refine aQ H1 fun R0 h1 H3 => ?_;refine pJ 1 (oN) R0 ?_ (fun u1 e0 => ?_)
  ·refine pC (kx x0 x1) h1 (fun i0 s0 h2 e1 => ?_) (fun i0 s0 h3 q0 h4 h5 => ?_)
   ·have c2:=lF i0 x0.Terms.length (by omega);subst e1;exact pB 5 [r0 [.e bF]] [.only [4,5,6] [4,6,16]] (oN (s0.1,s0.2)) (aB c2 aN)
   ·have c3:=lT i0 x0.Terms.length (by omega);refine aQ h4 fun y1 h6 H4 => ?_;refine pD 14 [r0 [.e bT],r0 [.e (.dptr (ao (x0.Terms.getD i0 ay))),.v,.m,.m],r0 [.v,.v,.hR [(8,1000)] 27 (iI y1) [(1000,.cells 88 (ao (x0.Terms.getD i0 ay)))],.v],V3] [.only [1,4,5,6,8,9,19,20,21,36] [4,6,8,16]] 14 [true] (aB c3 (aI bf x0.Terms i0 ay (aC Tryz.call162 (aC (kF _ _ _ _ h6) aN)))) ?_;refine aQ H4 fun v0 h7 H5 => ?_;refine pJ 2 (kv x0 x1 i0) v0 ?_ (fun u0 e2 => ?_)
    ·refine aZ h7 (fun c4 H6 => ?_) (fun c5 H7 => ?_)
     ·obtain rfl:=sI H6;exact pB 3 [.eqT 36 bT,r0 (V 4 [.l (iI (ba 0 ((x0.Terms.getD i0 ay).Var) s0.2)),.v,.v,.w,.m,.rwH 16 (.smap 0 3 ((bI ((x0.Terms.getD i0 ay).Var) (aL ((ba 0 ((x0.Terms.getD i0 ay).Var) s0.2)+((x0.Terms.getD i0 ay).C))) s0.2).map (j3 aj)))])] [.only [1,4,5,6,19,20,21] [4,6,16]] (kv x0 x1 i0 (s0.1,(bI ((x0.Terms.getD i0 ay).Var) (aL ((ba 0 ((x0.Terms.getD i0 ay).Var) s0.2)+((x0.Terms.getD i0 ay).C))) s0.2))) (aB c4 (aC (nT (c:=aj) ((x0.Terms.getD i0 ay).Var) 0 s0.2) (aC (congrArg (AO.smap 0 3) (jP (c:=aj) ((x0.Terms.getD i0 ay).Var) (aL ((ba 0 ((x0.Terms.getD i0 ay).Var) s0.2)+((x0.Terms.getD i0 ay).C))) s0.2)) aN)))
     ·refine aK H7 fun g0 H8 => ?_;refine aQ H8 fun y2 h8 H9 => ?_;refine pD 4 [.eqT 36 bF,r0 [.v,.v,.e (.dptr (aA (x1.getD y1.toNat aw))),.v,.v,.c true (.bool y2),.v,.v]] [.only [1,4,5,6,8,9,19,20,21,47] [4,6,8,16]] 3 [false] (aB c5 (b9 (Kj (f:=aA) (l:=x1) (n:=y1) aw bg (by decide) (by exact g0)) (aC Tryz.call50 (aF (bK _ _ h8) (aT aN))))) ?_;refine aZ H9 (fun c6 H10 => ?_) (fun c7 H11 => ?_)
      ·refine aQ H10 fun y3 h9 H12 => ?_;obtain rfl:=sI H12;exact pB 3 [.eqT 47 bF,.rg 7 [.v,.v,.e (.dptr (aA (x1.getD y1.toNat aw))),.v,.v,.v,.v] [.hR [(6,1000),(16,1001)] 35 (.tup []) [(1000,.cells 201 [iI y3.1,.amap 1001]),(1001,.smap 0 3 (y3.2.map (j3 aj)))]]] [.only [1,4,5,6,19,20,21] [4,6,16]] (kv x0 x1 i0 (y3.1,y3.2)) (aM c6 (b9 (Kj (f:=aA) (l:=x1) (n:=y1) aw bg (by decide) (by exact g0)) (aC Tryz.call164 (aC (sF _ _ _ _ _ h9) aN))))
      ·obtain rfl:=sI H11;obtain rfl:=sI (aJ H5);obtain rfl:=aS h5;obtain rfl:=sI (aJ H3);exact pR 5 [.eqT 47 bT,r0 [.b,.m,.v]] [.wkH 4 1 []] [] (aM c7 aN)
    ·subst e2;have H13:=bq H5;refine bV 19 (ps:=[(x0.Terms.map ao).length≤9223372036854775807]) (by kernel_rfl) (fun l0 => ?_);have l1:x0.Terms.length≤9223372036854775807:=by simpa only [cI,LI] using l0
     clear l0;obtain rfl:=sI H13;exact pB 1 [V2] [.only [1,4,5,6,19,20,21] [4,6,16]] (kx x0 x1 (i0+1) (u0.1,u0.2)) (aH i0 aN)
  ·subst e0;have H14:=bq H3;refine aQ H14 fun y4 h10 H15 => ?_;obtain rfl:=sI H15;exact pR 3 [r0 [.hR [(6,1000),(16,1001)] 57 (.tup [.agg [iI y4.1.Const,dS ao y4.1.Terms],iI y4.2]) [],.v,.v,.m,.v]] [] [] (aC Tryz.call165 (aC (qJ _ _ _ h10) aN))
 ·obtain rfl:=sI H2;exact pR 10 [r0 [.m,.m,.v],r0 [.v,.c true (.bool y0),.v],.eqT 12 bT,r0 [.b,.m,.v]] [.wkH 4 1 []] [] (aC Tryz.call50 (aF (bK _ _ h0) (aT (aM c1 aN))))
noncomputable def cq (x0:Nat) (x1:List Bind) (x2:au) (x3:List Bind):Option (Bool×(List Bind)) :=
 bM (x0<x1.length) <|
 (cS (Linear.mk (((x1.getD x0 aw).Dim).Const) (((x1.getD x0 aw).Dim).Terms)) x2).bind fun y0 =>
 bif (y0==0) then (
  some (true,x1)
 ) else (
  (gG (Linear.mk (((x1.getD x0 aw).Dim).Const) (((x1.getD x0 aw).Dim).Terms)) x3).bind fun y1 =>
  some ((y1.2==0),(x1.set x0 (Bind.mk ((x1.getD x0 aw).Kind) ((x1.getD x0 aw).Var) y1.1 (Shape.mk (((x1.getD x0 aw).Row).Row) (((x1.getD x0 aw).Row).Dims)) ((x1.getD x0 aw).Elem))))
 )
theorem nr (x0:Nat) (x1:List Bind) (x2:au) (x3:List Bind) (r:Bool×(List Bind)) (H:cq x0 x1 x2 x3=some r):bY Tryz.prog 130 [.hptr 1000 (x0*7+2),.hptr 1001 0,.hptr 1002 0] [(1000,.row 41 7 (x1.map aA)),(1001,.cells 9 [.str x2]),(1002,.cells 25 [dS aA x3])] (fun r2 h0=>r2=(.bool r.1)∧h0=[(1000,.row 41 7 (r.2.map aA)),(1001,.cells 9 [.str x2]),(1002,.cells 25 [dS aA x3])]):=by
 unfold cq at H;refine aX Tryz.func130 26 [.tmp 4] ?_;refine aK H fun g0 H0 => ?_;refine aQ H0 fun y0 h1 H1 => ?_;refine pD 5 [V1,.rg 4 [.v,.v,.rl x0 2 (.agg (ak ((x1.getD x0 aw).Dim))),.v] [.c true (iI y0),.v]] [.only [0,2,4,12] [1000,1001,1002]] 5 [] (aC (iS (f:=aA) (l:=x1) (n:=x0) 7 2 2 (by omega) (by decide)) (aC (E2 (f:=aA) (l:=x1) (n:=x0) aw 2 2 (by omega)) (aC Tryz.call46 (aF (ib _ _ _ h1) aN)))) ?_;refine aZ H1 (fun c0 H2 => ?_) (fun c1 H3 => ?_)
 ·obtain rfl:=sI H2;exact pR 5 [.eqT 12 bT,V1] [] [1000,1001,1002] (aB c0 aN)
 ·refine aQ H3 fun y1 h2 H4 => ?_;obtain rfl:=sI H4;exact pR 10 [.eqT 12 bF,.rg 10 [.v,.v,.rl x0 2 (.agg (ak ((x1.getD x0 aw).Dim))),.v,.c true (.tup [.agg [iI y1.1.Const,dS ao y1.1.Terms],iI y1.2]),.v,.v,.v,.m,.m] [.v],r0 [.v,.v,.v,.rs x0 2,.rwH 1000 (.row 41 7 ((x1.set x0 (Bind.mk ((x1.getD x0 aw).Kind) ((x1.getD x0 aw).Var) y1.1 (Shape.mk (((x1.getD x0 aw).Row).Row) (((x1.getD x0 aw).Row).Dims)) ((x1.getD x0 aw).Elem))).map aA))],V3] [] [1000,1001,1002] (aB c1 (aC (iS (f:=aA) (l:=x1) (n:=x0) 7 2 2 (by omega) (by decide)) (aC (E2 (f:=aA) (l:=x1) (n:=x0) aw 2 2 (by omega)) (aC Tryz.call131 (aF (oW _ _ _ h2) (aC (iS (f:=aA) (l:=x1) (n:=x0) 7 2 2 (by omega) (by decide)) (aC (uE (f:=aA) 41 7 x1 x0 aw (Bind.mk ((x1.getD x0 aw).Kind) ((x1.getD x0 aw).Var) y1.1 (Shape.mk (((x1.getD x0 aw).Row).Row) (((x1.getD x0 aw).Row).Dims)) ((x1.getD x0 aw).Elem)) 2 [iI y1.1.Const,dS ao y1.1.Terms] (by omega) rfl) aN)))))))
noncomputable def bW (x0:Nat) (x1:List ae) (x2:au) (x3:List Bind):Option (Bool×(List ae)) :=
 bM (x0<x1.length) <|
 (cS (Linear.mk (((x1.getD x0 aa).q).Const) (((x1.getD x0 aa).q).Terms)) x2).bind fun y0 =>
 bif (y0==0) then (
  some (true,x1)
 ) else (
  (gG (Linear.mk (((x1.getD x0 aa).q).Const) (((x1.getD x0 aa).q).Terms)) x3).bind fun y1 =>
  some ((y1.2==0),(x1.set x0 (ae.mk y1.1 ((x1.getD x0 aa).mults) ((x1.getD x0 aa).scale) ((x1.getD x0 aa).lost))))
 )
theorem ma (x0:Nat) (x1:List ae) (x2:au) (x3:List Bind) (r:Bool×(List ae)) (H:bW x0 x1 x2 x3=some r):bY Tryz.prog 130 [.hptr 1000 (x0*5),.hptr 1001 0,.hptr 1002 0] [(1000,.row 76 5 (x1.map ab)),(1001,.cells 9 [.str x2]),(1002,.cells 25 [dS aA x3])] (fun r2 h0=>r2=(.bool r.1)∧h0=[(1000,.row 76 5 (r.2.map ab)),(1001,.cells 9 [.str x2]),(1002,.cells 25 [dS aA x3])]):=by
 unfold bW at H;refine aX Tryz.func130 26 [.tmp 4] ?_;refine aK H fun g0 H0 => ?_;refine aQ H0 fun y0 h1 H1 => ?_;refine pD 5 [V1,.rg 4 [.v,.v,.rl x0 0 (.agg (ak ((x1.getD x0 aa).q))),.v] [.c true (iI y0),.v]] [.only [0,2,4,12] [1000,1001,1002]] 5 [] (aC (iS (f:=ab) (l:=x1) (n:=x0) 5 0 2 (by omega) (by decide)) (aC (E2 (f:=ab) (l:=x1) (n:=x0) aa 0 2 (by omega)) (aC Tryz.call46 (aF (ib _ _ _ h1) aN)))) ?_;refine aZ H1 (fun c0 H2 => ?_) (fun c1 H3 => ?_)
 ·obtain rfl:=sI H2;exact pR 5 [.eqT 12 bT,V1] [] [1000,1001,1002] (aB c0 aN)
 ·refine aQ H3 fun y1 h2 H4 => ?_;obtain rfl:=sI H4;exact pR 10 [.eqT 12 bF,.rg 10 [.v,.v,.rl x0 0 (.agg (ak ((x1.getD x0 aa).q))),.v,.c true (.tup [.agg [iI y1.1.Const,dS ao y1.1.Terms],iI y1.2]),.v,.v,.v,.m,.m] [.v],r0 [.v,.v,.v,.rs x0 0,.rwH 1000 (.row 76 5 ((x1.set x0 (ae.mk y1.1 ((x1.getD x0 aa).mults) ((x1.getD x0 aa).scale) ((x1.getD x0 aa).lost))).map ab))],V3] [] [1000,1001,1002] (aB c1 (aC (iS (f:=ab) (l:=x1) (n:=x0) 5 0 2 (by omega) (by decide)) (aC (E2 (f:=ab) (l:=x1) (n:=x0) aa 0 2 (by omega)) (aC Tryz.call131 (aF (oW _ _ _ h2) (aC (iS (f:=ab) (l:=x1) (n:=x0) 5 0 2 (by omega) (by decide)) (aC (uE (f:=ab) 76 5 x1 x0 aa (ae.mk y1.1 ((x1.getD x0 aa).mults) ((x1.getD x0 aa).scale) ((x1.getD x0 aa).lost)) 0 [iI y1.1.Const,dS ao y1.1.Terms] (by omega) rfl) aN)))))))
noncomputable def aY (x0:au) (x1:Linear) (x2 x3:Int) (x4:List ae) (x5:List Bind):Option (Int×(List ae)×(List Bind)) :=
 (bR x1).bind fun y0 =>
 bif y0 then (
  (kz (σ:=(Int×(List Bind))) (ε:=(List Bind)) (ρ:=(Int×(List ae)×(List Bind))) (fun s0 =>
   bif decide (s0.1<((x5.length:Nat):Int)) then (
    bM (0≤s0.1∧s0.1<(s0.2.length:Int)) <|
    (cq s0.1.toNat s0.2 x0 [(Bind.mk 1 x0 x1 (Shape.mk [] []) [])]).bind fun y1 =>
    bif y1.1 then (
     some (.go ((aL (s0.1+1)),y1.2))
    ) else (
     some (.ret (3,x4,y1.2))
    )
   ) else (
    some (.brk s0.2)
   )
  ) 4294967296 (0,x5)).bind <| aft fun u0 =>
  (kz (σ:=(Int×(List ae))) (ε:=(List ae)) (ρ:=(Int×(List ae)×(List Bind))) (fun s1 =>
   bif decide (s1.1<((s1.2.length:Nat):Int)) then (
    bM (0≤s1.1∧s1.1<(s1.2.length:Int)) <|
    (bW s1.1.toNat s1.2 x0 [(Bind.mk 1 x0 x1 (Shape.mk [] []) [])]).bind fun y2 =>
    bif y2.1 then (
     some (.go ((aL (s1.1+1)),y2.2))
    ) else (
     some (.ret (3,y2.2,u0))
    )
   ) else (
    some (.brk s1.2)
   )
  ) 4294967296 (x2,x4)).bind <| aft fun u1 =>
  bM (0<[(Bind.mk 1 x0 x1 (Shape.mk [] []) [])].length) <|
  bM ((u0.length+1)*112≤140737488355328) <|
  some (0,u1,(u0++[(Bind.mk (([(Bind.mk 1 x0 x1 (Shape.mk [] []) [])].getD 0 aw).Kind) (([(Bind.mk 1 x0 x1 (Shape.mk [] []) [])].getD 0 aw).Var) (Linear.mk ((([(Bind.mk 1 x0 x1 (Shape.mk [] []) [])].getD 0 aw).Dim).Const) ((([(Bind.mk 1 x0 x1 (Shape.mk [] []) [])].getD 0 aw).Dim).Terms)) (Shape.mk ((([(Bind.mk 1 x0 x1 (Shape.mk [] []) [])].getD 0 aw).Row).Row) ((([(Bind.mk 1 x0 x1 (Shape.mk [] []) [])].getD 0 aw).Row).Dims)) (([(Bind.mk 1 x0 x1 (Shape.mk [] []) [])].getD 0 aw).Elem))]))
 ) else (
  some (3,x4,x5)
 )
def fA (x0:au) (x1:Linear) (x2 x3:Int) (x4:List ae) (x5:List Bind) (s0:Int×(List Bind)):AS:=⟨72,[(0,.hptr 1000 0),(3,iI x2),(8,iI 0),(9,.hptr 9 0),(10,.fn 130 [.hptr 5 0,.hptr 9 0]),(25,nI x5.length),(26,iI s0.1)],[(5,.cells 9 [.str x0]),(9,.cells 25 [.dslice ([(Bind.mk 1 x0 x1 (Shape.mk [] []) [])].map aA)]),(1000,.cells 73 [.rslice 1001,.rslice 1002,iI x3]),(1001,.row 76 5 (x4.map ab)),(1002,.row 41 7 (s0.2.map aA))]⟩
def iE (x0:au) (x1:Linear) (x2 x3:Int) (x4:List ae) (u2:List Bind):AS:=⟨72,[(0,.hptr 1000 0),(3,iI x2),(8,iI 0),(9,.hptr 9 0),(10,.fn 130 [.hptr 5 0,.hptr 9 0])],[(5,.cells 9 [.str x0]),(9,.cells 25 [.dslice ([(Bind.mk 1 x0 x1 (Shape.mk [] []) [])].map aA)]),(1000,.cells 73 [.rslice 1001,.rslice 1002,iI x3]),(1001,.row 76 5 (x4.map ab)),(1002,.row 41 7 (u2.map aA))]⟩
def fv (x0:au) (x1:Linear) (x3:Int) (u0:List Bind) (s1:Int×(List ae)):AS:=⟨72,[(0,.hptr 1000 0),(8,iI 0),(9,.hptr 9 0),(10,.fn 130 [.hptr 5 0,.hptr 9 0]),(12,iI s1.1)],[(5,.cells 9 [.str x0]),(9,.cells 25 [.dslice ([(Bind.mk 1 x0 x1 (Shape.mk [] []) [])].map aA)]),(1000,.cells 73 [.rslice 1001,.rslice 1002,iI x3]),(1001,.row 76 5 (s1.2.map ab)),(1002,.row 41 7 (u0.map aA))]⟩
def iG (x0:au) (x1:Linear) (x3:Int) (u0:List Bind) (u3:List ae):AS:=⟨72,[(0,.hptr 1000 0),(8,iI 0),(9,.hptr 9 0)],[(9,.cells 25 [.dslice ([(Bind.mk 1 x0 x1 (Shape.mk [] []) [])].map aA)]),(1000,.cells 73 [.rslice 1001,.rslice 1002,iI x3]),(1001,.row 76 5 (u3.map ab)),(1002,.row 41 7 (u0.map aA))]⟩
theorem jl (x0:au) (x1:Linear) (x2 x3:Int) (x4:List ae) (x5:List Bind) (r:Int×(List ae)×(List Bind)) (H:aY x0 x1 x2 x3 x4 x5=some r):bY Tryz.prog 99 [.hptr 1000 0,.str x0,.agg [iI x1.Const,dS ao x1.Terms],iI x2] [(1000,.cells 73 [.rslice 1001,.rslice 1002,iI x3]),(1001,.row 76 5 (x4.map ab)),(1002,.row 41 7 (x5.map aA))] (fun r2 h0=>r2=(iI r.1)∧h0=[(0,.row 41 7 (r.2.2.map aA)),(1000,.cells 73 [.rslice 1001,.rslice 0,iI x3]),(1001,.row 76 5 (r.2.1.map ab))]):=by
 unfold aY at H;refine aX Tryz.func99 72 [.tmp 8] ?_;refine aQ H fun y0 h1 H0 => ?_;refine aZ H0 (fun c0 H1 => ?_) (fun c1 H2 => ?_)
 ·refine pA 16 [.rg 0 [] [.m,.m,.v],.rg 0 [] [.v,.c true (.bool y0),.v],.eqT 15 bF,.rg 0 [] [.v,.v,.b,.b,.wk 19 [(0,5)],.m,.m],.rg 0 [] [.v,.v],.rg 0 [] (V 4 [.e (.int .i64 ((x5.length:Nat):Int)),.v])] [.only [0,3,8,9,10,25,26] [5,9,1000,1001,1002]] 15 [false] (fA x0 x1 x2 x3 x4 x5 (0,x5)) (aC Tryz.call50 (aF (bK _ _ h1) (aT (aM c0 (aT (aC (aP aA x5) aN)))))) ?_;refine aQ H1 fun R0 h2 H3 => ?_;refine pJ 1 (iE x0 x1 x2 x3 x4) R0 ?_ (fun u0 e0 => ?_)
  ·refine qU (fA x0 x1 x2 x3 x4 x5) (by kernel_rfl) h2 (fun s0 q0 h3 h4 => ?_)
   ·refine aZ h3 (fun c2 H4 => ?_) (fun c3 H5 => ?_)
    ·refine aK H4 fun g0 H6 => ?_;refine aQ H6 fun y1 h5 H7 => ?_;refine pD 12 [V1,.eqT 27 bT,V2,r0 (V 8 [.hM [(1002,1000),(5,1001),(9,1002)] [] (.bool y1.1) [(1000,.row 41 7 (y1.2.map aA)),(1001,.cells 9 [.str x0]),(1002,.cells 25 [.dslice ([(Bind.mk 1 x0 x1 (Shape.mk [] []) [])].map aA)])],.v])] [.only [0,3,8,9,10,25,26,38] [5,9,1000,1001,1002]] 11 [true] (aB c2 (aC (show (0:Int)≤s0.1∧s0.1<((s0.2.map aA).length:Int) from by rw [LI];exact g0) (aC Tryz.call130 (aC (nr _ _ _ _ _ h5) (aT aN))))) ?_;refine aZ H7 (fun c4 H8 => ?_) (fun c5 H9 => ?_)
     ·obtain rfl:=sI H8;exact pB 4 [.eqT 38 bF,r0 [.w,.v]] [.only [0,3,8,9,10,25,26] [5,9,1000,1001,1002]] (fA x0 x1 x2 x3 x4 x5 ((aL (s0.1+1)),y1.2)) (aM c4 aN)
     ·obtain rfl:=sI H9;obtain rfl:=aS h4;obtain rfl:=sI (aJ H3);exact pR 5 [.eqT 38 bT,V1] [.ren [(1002,0),(1000,1000),(1001,1001)]] [0,1000,1001] (aM c5 aN)
    ·obtain rfl:=sI H5;obtain rfl:=iU h4;exact pB 6 [V1,.eqT 27 bF] [.only [0,3,8,9,10] [5,9,1000,1001,1002]] (iE x0 x1 x2 x3 x4 s0.2) (aB c3 aN)
  ·subst e0;have H10:=bq H3;refine pA 4 [V2] [.only [0,8,9,10,12] [5,9,1000,1001,1002]] 4 [] (fv x0 x1 x3 u0 (x2,x4)) aN ?_;refine aQ H10 fun R1 h6 H11 => ?_;refine pJ 1 (iG x0 x1 x3 u0) R1 ?_ (fun u1 e1 => ?_)
   ·refine qU (fv x0 x1 x3 u0) (by kernel_rfl) h6 (fun s1 q1 h7 h8 => ?_)
    ·refine aZ h7 (fun c6 H12 => ?_) (fun c7 H13 => ?_)
     ·refine aK H12 fun g1 H14 => ?_;refine aQ H14 fun y2 h9 H15 => ?_;refine pD 10 [r0 (V 5 [.e (nI s1.2.length),.v]),.eqT 47 bT,r0 (V 8 [.hM [(1001,1000),(5,1001),(9,1002)] [] (.bool y2.1) [(1000,.row 76 5 (y2.2.map ab)),(1001,.cells 9 [.str x0]),(1002,.cells 25 [.dslice ([(Bind.mk 1 x0 x1 (Shape.mk [] []) [])].map aA)])],.v])] [.only [0,8,9,10,12,59] [5,9,1000,1001,1002]] 9 [true] (aT (aC (aP ab s1.2) (aB c6 (aC (show (0:Int)≤s1.1∧s1.1<((s1.2.map ab).length:Int) from by rw [LI];exact g1) (aC Tryz.call130 (aC (ma _ _ _ _ _ h9) (aT aN))))))) ?_;refine aZ H15 (fun c8 H16 => ?_) (fun c9 H17 => ?_)
      ·obtain rfl:=sI H16;exact pB 4 [.eqT 59 bF,r0 [.v,.w,.v]] [.only [0,8,9,10,12] [5,9,1000,1001,1002]] (fv x0 x1 x3 u0 ((aL (s1.1+1)),y2.2)) (aM c8 aN)
      ·obtain rfl:=sI H17;obtain rfl:=aS h8;obtain rfl:=sI (aJ H11);exact pR 5 [.eqT 59 bT,V1] [.ren [(1002,0),(1000,1000),(1001,1001)]] [0,1000,1001] (aM c9 aN)
     ·obtain rfl:=sI H13;obtain rfl:=iU h8;exact pB 6 [r0 (V 5 [.e (nI s1.2.length),.v]),.eqT 47 bF] [.only [0,8,9] [9,1000,1001,1002]] (iG x0 x1 x3 u0 s1.2) (aT (aC (aP ab s1.2) (aB c7 aN)))
   ·subst e1;have H18:=bq H11;refine aK H18 fun g2 H19 => ?_;refine aK H19 fun g3 H20 => ?_;obtain rfl:=sI H20;exact pR 5 [.rg 10 (V 4 [.lt,.v,.e (.dptr (aA ([(Bind.mk 1 x0 x1 (Shape.mk [] []) [])].getD 0 aw))),.v,.b,.apx ((u0++[(Bind.mk (([(Bind.mk 1 x0 x1 (Shape.mk [] []) [])].getD 0 aw).Kind) (([(Bind.mk 1 x0 x1 (Shape.mk [] []) [])].getD 0 aw).Var) (Linear.mk ((([(Bind.mk 1 x0 x1 (Shape.mk [] []) [])].getD 0 aw).Dim).Const) ((([(Bind.mk 1 x0 x1 (Shape.mk [] []) [])].getD 0 aw).Dim).Terms)) (Shape.mk ((([(Bind.mk 1 x0 x1 (Shape.mk [] []) [])].getD 0 aw).Row).Row) ((([(Bind.mk 1 x0 x1 (Shape.mk [] []) [])].getD 0 aw).Row).Dims)) (([(Bind.mk 1 x0 x1 (Shape.mk [] []) [])].getD 0 aw).Elem))]).map aA)]) [.v,.v,.m],V1] [.ren [(69,0),(1000,1000),(1001,1001)]] [0,1000,1001] (aI bg ([(Bind.mk 1 x0 x1 (Shape.mk [] []) [])]) 0 aw (b9 (Jn (c:=aA) zZ u0 [(Bind.mk (([(Bind.mk 1 x0 x1 (Shape.mk [] []) [])].getD 0 aw).Kind) (([(Bind.mk 1 x0 x1 (Shape.mk [] []) [])].getD 0 aw).Var) (Linear.mk ((([(Bind.mk 1 x0 x1 (Shape.mk [] []) [])].getD 0 aw).Dim).Const) ((([(Bind.mk 1 x0 x1 (Shape.mk [] []) [])].getD 0 aw).Dim).Terms)) (Shape.mk ((([(Bind.mk 1 x0 x1 (Shape.mk [] []) [])].getD 0 aw).Row).Row) ((([(Bind.mk 1 x0 x1 (Shape.mk [] []) [])].getD 0 aw).Row).Dims)) (([(Bind.mk 1 x0 x1 (Shape.mk [] []) [])].getD 0 aw).Elem))] 112 (by decide) (by first | (simp;done) | simpa using g3) List.map_append.symm) aN))
 ·obtain rfl:=sI H2;exact pR 10 [r0 [.m,.m,.v],r0 [.v,.c true (.bool y0),.v],.eqT 15 bT,V1] [.ren [(1002,0),(1000,1000),(1001,1001)]] [0,1000,1001] (aC Tryz.call50 (aF (bK _ _ h1) (aT (aM c1 aN))))
noncomputable def bw (x0:Int) (x1:aq) (x2:Int) (x3:List ae) (x4:List Bind):Option (Int×(List ae)×(List Bind)) :=
 bM (0≤x0∧x0<(x3.length:Int)) <|
 bM (x0.toNat<x3.length) <|
 (eH (σ:=(List aq)) (ε:=(List aq)) (ρ:=Empty) (fun i0 s0 =>
  ((
   bif ((((((x3.getD x0.toNat aa).q).Terms).getD i0 ay).Var)==x1.Var) then (
    some s0
   ) else (
    bM ((s0.length+1)*24≤140737488355328) <|
    some (s0++[(aq.mk (((((x3.getD x0.toNat aa).q).Terms).getD i0 ay).Var) (aL ((aL (0-x1.C))*(((((x3.getD x0.toNat aa).q).Terms).getD i0 ay).C))))])
   )
  ):Option (List aq)).bind fun v0 =>
  some (.go v0)
 ) (fun i0 s0=>s0) ((((x3.getD x0.toNat aa).q).Terms).length-0) 0 []).bind <| dI fun u0 =>
 (kz (σ:=(Int×(List ae))) (ε:=(List ae)) (ρ:=Empty) (fun s1 =>
  bif decide (s1.1<((s1.2.length:Nat):Int)) then (
   bM (0≤s1.1∧s1.1<(s1.2.length:Int)) <|
   bM (s1.1.toNat<s1.2.length) <|
   (cS (Linear.mk (((s1.2.getD s1.1.toNat aa).q).Const) (((s1.2.getD s1.1.toNat aa).q).Terms)) x1.Var).bind fun y0 =>
   ((
    bif (y0==0) then (
     some s1.2
    ) else (
     (du s1.1.toNat (ae.mk (Linear.mk (((x3.getD x0.toNat aa).q).Const) (((x3.getD x0.toNat aa).q).Terms)) ((x3.getD x0.toNat aa).mults) ((x3.getD x0.toNat aa).scale) ((x3.getD x0.toNat aa).lost)) (aL (y0*x1.C)) s1.2).bind fun y1 =>
     some y1
    )
   ):Option (List ae)).bind fun v1 =>
   some (.go ((aL (s1.1+1)),v1))
  ) else (
   some (.brk s1.2)
  )
 ) 4294967296 ((aL (x0+1)),x3)).bind <| dI fun u1 =>
 (aY x1.Var (Linear.mk (aL ((aL (0-x1.C))*(((x3.getD x0.toNat aa).q).Const))) u0) x0 x2 u1 x4).bind fun y2 =>
 some (y2.1,y2.2.1,y2.2.2)
def eS (x0:Int) (x1:aq) (x2:Int) (x3:List ae) (x4:List Bind) (i0:Nat) (s0:List aq):AS:=⟨98,[(0,.hptr 1000 0),(1,iI x0),(5,.hptr 5 0),(6,iI 0),(7,.hptr 7 0),(8,.hptr 8 0),(30,.dslice ((((x3.getD x0.toNat aa).q).Terms).map ao)),(31,iI (((((x3.getD x0.toNat aa).q).Terms).length:Nat):Int)),(32,nI i0)],[(5,.cells 88 [.str x1.Var,iI x1.C]),(7,.cells 76 [iI (((x3.getD x0.toNat aa).q).Const),.dslice ((((x3.getD x0.toNat aa).q).Terms).map ao),.dmap (((x3.getD x0.toNat aa).mults).map (dL aj)),iI ((x3.getD x0.toNat aa).scale),.bool ((x3.getD x0.toNat aa).lost)]),(8,.cells 34 [iI (aL ((aL (0-x1.C))*(((x3.getD x0.toNat aa).q).Const))),.rslice 53]),(53,.row 88 2 (s0.map ao)),(1000,.cells 73 [.rslice 1001,.rslice 1002,iI x2]),(1001,.row 76 5 (x3.map ab)),(1002,.row 41 7 (x4.map aA))]⟩
def gV (x0:Int) (x1:aq) (x2:Int) (x3:List ae) (x4:List Bind) (u2:List aq):AS:=⟨98,[(0,.hptr 1000 0),(1,iI x0),(5,.hptr 5 0),(6,iI 0),(7,.hptr 7 0),(8,.hptr 8 0)],[(5,.cells 88 [.str x1.Var,iI x1.C]),(7,.cells 76 [iI (((x3.getD x0.toNat aa).q).Const),.dslice ((((x3.getD x0.toNat aa).q).Terms).map ao),.dmap (((x3.getD x0.toNat aa).mults).map (dL aj)),iI ((x3.getD x0.toNat aa).scale),.bool ((x3.getD x0.toNat aa).lost)]),(8,.cells 34 [iI (aL ((aL (0-x1.C))*(((x3.getD x0.toNat aa).q).Const))),.rslice 53]),(53,.row 88 2 (u2.map ao)),(1000,.cells 73 [.rslice 1001,.rslice 1002,iI x2]),(1001,.row 76 5 (x3.map ab)),(1002,.row 41 7 (x4.map aA))]⟩
def fe (x0:Int) (x1:aq) (x2:Int) (x3:List ae) (x4:List Bind) (i0:Nat) (v0:List aq):AS:=⟨98,[(0,.hptr 1000 0),(1,iI x0),(5,.hptr 5 0),(6,iI 0),(7,.hptr 7 0),(8,.hptr 8 0),(30,.dslice ((((x3.getD x0.toNat aa).q).Terms).map ao)),(31,iI (((((x3.getD x0.toNat aa).q).Terms).length:Nat):Int)),(32,nI i0)],[(5,.cells 88 [.str x1.Var,iI x1.C]),(7,.cells 76 [iI (((x3.getD x0.toNat aa).q).Const),.dslice ((((x3.getD x0.toNat aa).q).Terms).map ao),.dmap (((x3.getD x0.toNat aa).mults).map (dL aj)),iI ((x3.getD x0.toNat aa).scale),.bool ((x3.getD x0.toNat aa).lost)]),(8,.cells 34 [iI (aL ((aL (0-x1.C))*(((x3.getD x0.toNat aa).q).Const))),.rslice 53]),(53,.row 88 2 (v0.map ao)),(1000,.cells 73 [.rslice 1001,.rslice 1002,iI x2]),(1001,.row 76 5 (x3.map ab)),(1002,.row 41 7 (x4.map aA))]⟩
def fb (x0:Int) (x1:aq) (x2:Int) (x3:List ae) (x4:List Bind) (u0:List aq) (s1:Int×(List ae)):AS:=⟨98,[(0,.hptr 1000 0),(1,iI x0),(5,.hptr 5 0),(6,iI 0),(7,.hptr 7 0),(8,.hptr 8 0),(11,iI s1.1)],[(5,.cells 88 [.str x1.Var,iI x1.C]),(7,.cells 76 [iI (((x3.getD x0.toNat aa).q).Const),.dslice ((((x3.getD x0.toNat aa).q).Terms).map ao),.dmap (((x3.getD x0.toNat aa).mults).map (dL aj)),iI ((x3.getD x0.toNat aa).scale),.bool ((x3.getD x0.toNat aa).lost)]),(8,.cells 34 [iI (aL ((aL (0-x1.C))*(((x3.getD x0.toNat aa).q).Const))),.rslice 53]),(53,.row 88 2 (u0.map ao)),(1000,.cells 73 [.rslice 1001,.rslice 1002,iI x2]),(1001,.row 76 5 (s1.2.map ab)),(1002,.row 41 7 (x4.map aA))]⟩
def gR (x0:Int) (x1:aq) (x2:Int) (x3:List ae) (x4:List Bind) (u0:List aq) (u3:List ae):AS:=⟨98,[(0,.hptr 1000 0),(1,iI x0),(5,.hptr 5 0),(6,iI 0),(8,.hptr 8 0)],[(5,.cells 88 [.str x1.Var,iI x1.C]),(8,.cells 34 [iI (aL ((aL (0-x1.C))*(((x3.getD x0.toNat aa).q).Const))),.rslice 53]),(53,.row 88 2 (u0.map ao)),(1000,.cells 73 [.rslice 1001,.rslice 1002,iI x2]),(1001,.row 76 5 (u3.map ab)),(1002,.row 41 7 (x4.map aA))]⟩
def eQ (x0:Int) (x1:aq) (x2:Int) (x3:List ae) (x4:List Bind) (u0:List aq) (s1:Int×(List ae)) (v1:List ae):AS:=⟨98,[(0,.hptr 1000 0),(1,iI x0),(5,.hptr 5 0),(6,iI 0),(7,.hptr 7 0),(8,.hptr 8 0),(11,iI s1.1)],[(5,.cells 88 [.str x1.Var,iI x1.C]),(7,.cells 76 [iI (((x3.getD x0.toNat aa).q).Const),.dslice ((((x3.getD x0.toNat aa).q).Terms).map ao),.dmap (((x3.getD x0.toNat aa).mults).map (dL aj)),iI ((x3.getD x0.toNat aa).scale),.bool ((x3.getD x0.toNat aa).lost)]),(8,.cells 34 [iI (aL ((aL (0-x1.C))*(((x3.getD x0.toNat aa).q).Const))),.rslice 53]),(53,.row 88 2 (u0.map ao)),(1000,.cells 73 [.rslice 1001,.rslice 1002,iI x2]),(1001,.row 76 5 (v1.map ab)),(1002,.row 41 7 (x4.map aA))]⟩
theorem dC (x0:Int) (x1:aq) (x2:Int) (x3:List ae) (x4:List Bind) (r:Int×(List ae)×(List Bind)) (H:bw x0 x1 x2 x3 x4=some r):bY Tryz.prog 61 [.hptr 1000 0,iI x0,.agg [.str x1.Var,iI x1.C]] [(1000,.cells 73 [.rslice 1001,.rslice 1002,iI x2]),(1001,.row 76 5 (x3.map ab)),(1002,.row 41 7 (x4.map aA))] (fun r2 h0=>r2=(iI r.1)∧h0=[(0,.row 41 7 (r.2.2.map aA)),(1000,.cells 73 [.rslice 1001,.rslice 0,iI x2]),(1001,.row 76 5 (r.2.1.map ab))]):=by
 unfold bw at H;refine aX Tryz.func61 98 [.tmp 6] ?_;refine aK H fun g0 H0 => ?_;refine aK H0 fun g1 H1 => ?_;refine pA 10 [r0 [.m,.v],r0 (V 6 [.rl x0.toNat 0 (.agg [iI (((x3.getD x0.toNat aa).q).Const),.dslice ((((x3.getD x0.toNat aa).q).Terms).map ao),.dmap (((x3.getD x0.toNat aa).mults).map (dL aj)),iI ((x3.getD x0.toNat aa).scale),.bool ((x3.getD x0.toNat aa).lost)]),.m,.m]),r0 [.v,.v,.w,.v,.v,.v,.w,.b,.m,.m],r0 [.v,.v,.v,.e (iI (((((x3.getD x0.toNat aa).q).Terms).length:Nat):Int)),.v]] [.erH 8 1 53 88 2,.only [0,1,5,6,7,8,30,31,32] [5,7,8,53,1000,1001,1002]] 10 [] (eS x0 x1 x2 x3 x4 0 []) (aC (show (0:Int)≤x0∧x0<((x3.map ab).length:Int) from by rw [LI];exact g0) (aC (iS (f:=ab) (l:=x3) (n:=x0.toNat) 5 0 5 (by omega) (by decide)) (aC (E2 (f:=ab) (l:=x3) (n:=x0.toNat) aa 0 5 (by omega)) (aT (aC (aP ao (((x3.getD x0.toNat aa).q).Terms)) aN))))) ?_;refine aQ H1 fun R0 h1 H2 => ?_;refine pJ 1 (gV x0 x1 x2 x3 x4) R0 ?_ (fun u0 e0 => ?_)
 ·refine pC (eS x0 x1 x2 x3 x4) h1 (fun i0 s0 h2 e1 => ?_) (fun i0 s0 h3 q0 h4 h5 => ?_)
  ·have c0:=lF i0 ((((x3.getD x0.toNat aa).q).Terms).length) (by omega);subst e1;exact pB 5 [r0 [.e bF]] [.only [0,1,5,6,7,8] [5,7,8,53,1000,1001,1002]] (gV x0 x1 x2 x3 x4 s0) (aB c0 aN)
  ·have c1:=lT i0 ((((x3.getD x0.toNat aa).q).Terms).length) (by omega);refine pD 11 [r0 [.e bT],r0 [.e (.dptr (ao ((((x3.getD x0.toNat aa).q).Terms).getD i0 ay))),.v,.m,.m],V5] [.only [0,1,5,6,7,8,10,30,31,32,40] [5,7,8,10,53,1000,1001,1002]] 11 [true] (aB c1 (aI bf ((((x3.getD x0.toNat aa).q).Terms)) i0 ay aN)) ?_;refine aQ h4 fun v0 h6 H3 => ?_;refine eR 1 (fe x0 x1 x2 x3 x4 i0 v0) (by kernel_rfl) ?_ ?_
   ·refine aZ h6 (fun c2 H4 => ?_) (fun c3 H5 => ?_)
    ·refine cR H4 fun e2 => ?_;subst e2;exact pB 3 [.eqT 40 bF] [.only [0,1,5,6,7,8,30,31,32] [5,7,8,53,1000,1001,1002]] (fe x0 x1 x2 x3 x4 i0 s0) (aM c2 aN)
    ·refine aK H5 fun g2 H6 => ?_;obtain rfl:=sI H6;exact pB 3 [.eqT 40 bT,r0 (V 6 [.w,.v,.v,.w,.b,.b,.ap,.rwH 53 (.row 88 2 ((s0++[(aq.mk (((((x3.getD x0.toNat aa).q).Terms).getD i0 ay).Var) (aL ((aL (0-x1.C))*(((((x3.getD x0.toNat aa).q).Terms).getD i0 ay).C))))]).map ao)),.v,.m])] [.only [0,1,5,6,7,8,30,31,32] [5,7,8,53,1000,1001,1002]] (fe x0 x1 x2 x3 x4 i0 (s0++[(aq.mk (((((x3.getD x0.toNat aa).q).Terms).getD i0 ay).Var) (aL ((aL (0-x1.C))*(((((x3.getD x0.toNat aa).q).Terms).getD i0 ay).C))))])) (aM c3 (b9 (yf (c:=ao) gQ s0 [(aq.mk (((((x3.getD x0.toNat aa).q).Terms).getD i0 ay).Var) (aL ((aL (0-x1.C))*(((((x3.getD x0.toNat aa).q).Terms).getD i0 ay).C))))] 24 (by decide) (by first | (simp;done) | simpa using g2)) (aC (Bn 88 2 ao s0 [(aq.mk (((((x3.getD x0.toNat aa).q).Terms).getD i0 ay).Var) (aL ((aL (0-x1.C))*(((((x3.getD x0.toNat aa).q).Terms).getD i0 ay).C))))]) aN)))
   ·refine bV 30 (ps:=[((((x3.getD x0.toNat aa).q).Terms).map ao).length≤9223372036854775807]) (by kernel_rfl) (fun l0 => ?_);have l1:(((x3.getD x0.toNat aa).q).Terms).length≤9223372036854775807:=by simpa only [cI,LI] using l0
    clear l0;obtain rfl:=sI H3;exact pB 1 [V2] [.only [0,1,5,6,7,8,30,31,32] [5,7,8,53,1000,1001,1002]] (eS x0 x1 x2 x3 x4 (i0+1) v0) (aH i0 aN)
 ·subst e0;have H7:=bG H2;refine pA 4 [r0 [.v,.w,.v]] [.only [0,1,5,6,7,8,11] [5,7,8,53,1000,1001,1002]] 4 [] (fb x0 x1 x2 x3 x4 u0 ((aL (x0+1)),x3)) aN ?_;refine aQ H7 fun R1 h7 H8 => ?_;refine pJ 1 (gR x0 x1 x2 x3 x4 u0) R1 ?_ (fun u1 e3 => ?_)
  ·refine qU (fb x0 x1 x2 x3 x4 u0) (by kernel_rfl) h7 (fun s1 q1 h8 h9 => ?_)
   ·refine aZ h8 (fun c4 H9 => ?_) (fun c5 H10 => ?_)
    ·have c4p:=LF c4;refine aK H9 fun g3 H11 => ?_;refine aK H11 fun g4 H12 => ?_;refine aQ H12 fun y0 h10 H13 => ?_;refine pD 12 [r0 (V 5 [.e (nI s1.2.length),.v]),.eqT 64 bT,.rg 10 (V 7 [.rl s1.1.toNat 0 (.agg (ak ((s1.2.getD s1.1.toNat aa).q))),.v,.v]) [.c true (iI y0),.v],V2] [.only [0,1,5,6,7,8,11,12,79] [5,7,8,53,1000,1001,1002]] 11 [true] (aT (aC (aP ab s1.2) (aB c4 (aC (show (0:Int)≤s1.1∧s1.1<((s1.2.map ab).length:Int) from by rw [LI];exact g3) (aC (iS (f:=ab) (l:=s1.2) (n:=s1.1.toNat) 5 0 2 (by omega) (by decide)) (aC (E2 (f:=ab) (l:=s1.2) (n:=s1.1.toNat) aa 0 2 (by omega)) (aC Tryz.call46 (aF (ib _ _ _ h10) aN)))))))) ?_;refine aQ H13 fun v1 h11 H14 => ?_;refine eR 1 (eQ x0 x1 x2 x3 x4 u0 s1 v1) (by kernel_rfl) ?_ ?_
     ·refine aZ h11 (fun c6 H15 => ?_) (fun c7 H16 => ?_)
      ·obtain rfl:=sI H15;exact pB 3 [.eqT 79 bF] [.only [0,1,5,6,7,8,11] [5,7,8,53,1000,1001,1002]] (eQ x0 x1 x2 x3 x4 u0 s1 s1.2) (aM c6 aN)
      ·refine aQ H16 fun y1 h12 H17 => ?_;refine cR H17 fun e4 => ?_;subst e4;exact pB 3 [.eqT 79 bT,.rg 11 (V 10 [.w]) [.hM [(1001,1000)] [] (.tup []) [(1000,.row 76 5 (y1.map ab))]]] [.only [0,1,5,6,7,8,11] [5,7,8,53,1000,1001,1002]] (eQ x0 x1 x2 x3 x4 u0 s1 y1) (aM c7 (aC (show (0:Int)≤s1.1∧s1.1<((s1.2.map ab).length:Int) from by rw [LI];exact g3) (aC Tryz.call100 (aC (qa _ _ _ _ _ h12) aN))))
     ·obtain rfl:=sI H14;exact pB 1 [r0 [.v,.w,.v]] [.only [0,1,5,6,7,8,11] [5,7,8,53,1000,1001,1002]] (fb x0 x1 x2 x3 x4 u0 ((aL (s1.1+1)),v1)) aN
    ·obtain rfl:=sI H10;obtain rfl:=iU h9;exact pB 6 [r0 (V 5 [.e (nI s1.2.length),.v]),.eqT 64 bF] [.only [0,1,5,6,8] [5,8,53,1000,1001,1002]] (gR x0 x1 x2 x3 x4 u0 s1.2) (aT (aC (aP ab s1.2) (aB c5 aN)))
  ·subst e3;have H18:=bG H8;refine aQ H18 fun y2 h13 H19 => ?_;obtain rfl:=sI H19;exact pR 3 [r0 (V 5 [.fz 53,.hM [(1000,1000),(1001,1001),(1002,1002)] [(0,900)] (iI y2.1) [(0,.row 41 7 (y2.2.2.map aA)),(1000,.cells 73 [.rslice 1001,.rslice 0,iI x2]),(1001,.row 76 5 (y2.2.1.map ab))],.v])] [.ren [(900,0),(1000,1000),(1001,1001)]] [0,1000,1001] (aC Tryz.call99 (aC (jl _ _ _ _ _ _ _ h13) aN))
def fY (x0 x1:Int):Option Int :=
 (eT [x0,x1]).bind fun y0 =>
 bif y0 then (
  bif (x1==0) then (
   some 1
  ) else (
   some 0
  )
 ) else (
  some 2
 )
theorem kA (x0 x1 r:Int) (H:fY x0 x1=some r):bQ Tryz.prog 127 [iI x0,iI x1] (iI r):=by
 unfold fY at H;refine aX Tryz.func127 14 [.tmp 4] ?_;refine aQ H fun y0 h0 H0 => ?_;refine aZ H0 (fun c0 H1 => ?_) (fun c1 H2 => ?_)
 ·refine aZ H1 (fun c2 H3 => ?_) (fun c3 H4 => ?_)
  ·obtain rfl:=sI H3;exact pR 15 [V1,r0 [.v,.v,.b,.c true (.bool y0),.v,.v],.eqT 5 bF,V3,.eqT 11 bT,V1] [] [] (aC Tryz.call80 (aF (bJ _ _ h0) (aT (aM c0 (aB c2 aN)))))
  ·obtain rfl:=sI H4;exact pR 16 [V1,r0 [.v,.v,.b,.c true (.bool y0),.v,.v],.eqT 5 bF,V3,.eqT 11 bF,V1] [] [] (aC Tryz.call80 (aF (bJ _ _ h0) (aT (aM c0 (aB c3 aN)))))
 ·obtain rfl:=sI H2;exact pR 11 [V1,r0 [.v,.v,.b,.c true (.bool y0),.v,.v],.eqT 5 bT,V1] [] [] (aC Tryz.call80 (aF (bJ _ _ h0) (aT (aM c1 aN))))
def jt (x0 x1:Int):Option (Int×Int) :=
 bM ((x1:Int)≠0) <|
 ((
  bif ((x0.tmod x1)==0) then (
   some (.brk ())
  ) else (
   bif (decide ((x0.tmod x1)<0)==decide (x1<0)) then (
    some (.brk ())
   ) else (
    some (.ret ((aL ((aL (x0.tdiv x1))-1)),(aL ((x0.tmod x1)+x1))))
   )
  )
 ):Option (Out Unit (Int×Int))).bind (aft fun u0 =>
  some ((aL (x0.tdiv x1)),(x0.tmod x1))
 )
def jq (x0 x1:Int) (u0:Unit):AS:=⟨30,[(4,iI 0),(5,iI 0),(6,iI (aL (x0.tdiv x1))),(7,iI (x0.tmod x1))],[]⟩
theorem te (x0 x1:Int) (r:Int×Int) (H:jt x0 x1=some r):bQ Tryz.prog 128 [iI x0,iI x1] (.tup [iI r.1,iI r.2]):=by
 unfold jt at H;refine aX Tryz.func128 30 [.tmp 4,.tmp 5] ?_;refine aK H fun g0 H0 => ?_;refine pD 8 [V2,.rg 7 [.v,.v,.w,.v,.v,.v,.v] [.v],V3] [.only [1,4,5,6,7,14] []] 8 [] (aC (show (x1:Int)≠0 from g0) (aC (show (x1:Int)≠0 from g0) aN)) ?_;refine aQ H0 fun v0 h0 H1 => ?_;refine pJ 1 (jq x0 x1) v0 ?_ (fun u0 e0 => ?_)
 ·refine aZ h0 (fun c0 H2 => ?_) (fun c1 H3 => ?_)
  ·obtain rfl:=sI H2;exact pB 3 [.eqT 14 bT] [.only [4,5,6,7] []] (jq x0 x1 ()) (aB c0 aN)
  ·refine aZ H3 (fun c2 H4 => ?_) (fun c3 H5 => ?_)
   ·obtain rfl:=sI H4;exact pB 7 [.eqT 14 bF,V6,.eqT 17 bF] [.only [4,5,6,7] []] (jq x0 x1 ()) (aB c1 (aM c2 aN))
   ·obtain rfl:=sI H5;obtain rfl:=sI (aJ H1);exact pR 9 [.eqT 14 bF,V6,.eqT 17 bT,r0 [.v,.w,.v,.v,.w,.v,.v]] [] [] (aB c1 (aM c3 aN))
 ·subst e0;have H6:=bq H1;obtain rfl:=sI H6;exact pR 3 [V4] [] [] aN
def ke (x0 x1:Int):Option (Int×Int) :=
 (fY x0 x1).bind fun y0 =>
 bif (y0==0) then (
  (jt x0 x1).bind fun y1 =>
  some (y1.1,0)
 ) else (
  some (0,y0)
 )
theorem w6 (x0 x1:Int) (r:Int×Int) (H:ke x0 x1=some r):bQ Tryz.prog 96 [iI x0,iI x1] (.tup [iI r.1,iI r.2]):=by
 unfold ke at H;refine aX Tryz.func96 22 [.tmp 4,.tmp 5] ?_;refine aQ H fun y0 h0 H0 => ?_;refine aZ H0 (fun c0 H1 => ?_) (fun c1 H2 => ?_)
 ·refine aQ H1 fun y1 h1 H3 => ?_;obtain rfl:=sI H3;exact pR 15 [V2,r0 [.v,.v,.c true (iI y0),.v],V2,.eqT 13 bF,r0 [.v,.v,.c true (.tup [iI y1.1,iI y1.2]),.v,.v,.v,.v,.v],V3] [] [] (aC Tryz.call127 (aF (kA _ _ _ h0) (aM c0 (aC Tryz.call128 (aF (te _ _ _ h1) aN)))))
 ·obtain rfl:=sI H2;exact pR 12 [V2,r0 [.v,.v,.c true (iI y0),.v],V2,.eqT 13 bT,V3] [] [] (aC Tryz.call127 (aF (kA _ _ _ h0) (aM c1 aN)))
def bC (x0:Int) (x1:aq):Option Int :=
 (ke x0 x1.C).bind fun y0 =>
 some (aL (0-y0.1))
theorem ga (x0:Int) (x1:aq) (r:Int) (H:bC x0 x1=some r):bQ Tryz.prog 95 [iI x0,.dptr [.str x1.Var,iI x1.C]] (iI r):=by unfold bC at H;refine aX Tryz.func95 15 [.tmp 3] ?_;refine aQ H fun y0 h0 H0 => ?_;obtain rfl:=sI H0;exact pR 7 [V1,r0 [.v,.v,.v,.c true (.tup [iI y0.1,iI y0.2]),.v,.v,.v,.v,.v],r0 [.v,.w,.v]] [] [] (aC Tryz.call96 (aF (w6 _ _ _ h0) aN))
end Go.Proofs.YtlhcekghjfjajaaGreatDoor
