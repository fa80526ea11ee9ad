/- What functions of the program compute, walked: each as a plain function, with the theorem that the code computes it wherever that answers. Printed by a program, part 1. -/
import Derived.Test.YtlhcekghjfjajaaGreatDoorFrcEquationsComplete
import Derived.KernelRfl
import Derived.Test.YtlhcekghjfjajaaGreatDoorProg
set_option linter.unusedSimpArgs false
set_option linter.unusedVariables false
namespace Go.Proofs.YtlhcekghjfjajaaGreatDoor
open Go.RowKit Go.Ab Go.Sh
theorem cB {a b:Bool} (h:a=b):AV.bool a=AV.bool b:=congrArg AV.bool h
theorem cN {a b:Bool} (h:a=b):AV.bool (!a)=AV.bool (!b):=congrArg (fun x=>AV.bool (!x)) h
theorem aC {p:Prop} {ps:List Prop} (h:p) (h2:cu ps):cu (p::ps):=all_cons h h2
theorem aN:cu []:=all_nil
theorem aT {ps:List Prop} (h2:cu ps):cu (True::ps):=all_cons trivial h2
theorem aB {a b:Bool} {ps:List Prop} (h:a=b) (h2:cu ps):cu ((AV.bool a=AV.bool b)::ps):=all_cons (cB h) h2
theorem aM {a b:Bool} {ps:List Prop} (h:a=b) (h2:cu ps):cu ((AV.bool (!a)=AV.bool (!b))::ps):=all_cons (cN h) h2
theorem aF {P:Program} {f:FuncId} {args:List AV} {v:AV} {ps:List Prop} (h:bG P f args v) (h2:cu ps):cu (cg P f args [] (fun r _=>r=v)::ps):=all_cons (bG.is h) h2
theorem pI (n:Nat) (h:n<9223372036854775807):tE (((n:Nat):Int)+1):=by unfold tE;omega
theorem lF (i n:Nat) (h:¬ i<n):decide (((i:Nat):Int)<((n:Nat):Int))=false:=MK (by omega)
theorem lT (i n:Nat) (h:i<n):decide (((i:Nat):Int)<((n:Nat):Int))=true:=ML (by omega)
def nI (n:Nat):AV:=.int .i64 ((n:Nat):Int)
def iI (n:Int):AV:=.int .i64 n
def dS {α:Type} (c:α→List AV) (x:List α):AV:=.dslice (x.map c)
def r0 (d:List uI):Sg:=.rg 0 [] d
abbrev bT:AV:=.bool true
abbrev bF:AV:=.bool false
section
variable {c:Code} {fs:List Fr} {s:AS} {Q:Exit→AS→Prop}
theorem pR (n:Nat) (sg:List Sg) (cs:List Cd) (ks:List Nat) {rs:List ResultVar} {v:AV} {h1:List (Nat×AO)} {ps:List Prop} (hp:cu ps) (h:KA Tryz.prog rs cs ks (path Tryz.prog n sg c fs s)=some (ps,v,h1):=by kernel_rfl):fE Tryz.prog c (cJ Tryz.prog fs (IQ Tryz.prog rs v h1)) s:=LZ Tryz.mo n sg cs ks hp h
theorem pB (n:Nat) (sg:List Sg) (cs:List Cd) (S:AS) {ps:List Prop} (hp:cu ps) (h:Lf cs (path Tryz.prog n sg c fs s)=some (ps,S,S):=by kernel_rfl):fE Tryz.prog c (cJ Tryz.prog fs Q) s:=LH Tryz.mo n sg cs S hp h
theorem pA (n:Nat) (sg:List Sg) (cs:List Cd) (m:Nat) (bs:List Bool) (S:AS) {ps:List Prop} (hp:cu ps) (ht:fE Tryz.prog (qh m bs c fs).1 (cJ Tryz.prog (qh m bs c fs).2 Q) S)
 (h:Lw cs (path Tryz.prog n sg c fs s)=some (ps,(qh m bs c fs).1,(qh m bs c fs).2,S):=by kernel_rfl):fE Tryz.prog c (cJ Tryz.prog fs Q) s:=Ly Tryz.mo n sg cs m bs S hp h ht
def kS (x:Option (List Prop×Code×List Fr×AS)):AS:=match x with | some r=>r.2.2.2 | none=>⟨0,[],[]⟩
theorem pD (n:Nat) (sg:List Sg) (cs:List Cd) (m:Nat) (bs:List Bool) {ps:List Prop} (hp:cu ps) (ht:fE Tryz.prog (qh m bs c fs).1 (cJ Tryz.prog (qh m bs c fs).2 Q) (kS (Lw cs (path Tryz.prog n sg c fs s))))
 (h:Lw cs (path Tryz.prog n sg c fs s)=some (ps,(qh m bs c fs).1,(qh m bs c fs).2,kS (Lw cs (path Tryz.prog n sg c fs s))):=by kernel_rfl):fE Tryz.prog c (cJ Tryz.prog fs Q) s:=Ly Tryz.mo n sg cs m bs _ hp h ht
theorem aX {f:FuncId} {fn:Func} {args:List AV} {h h1:List (Nat×AO)} {v:AV} (hf:Tryz.prog.funcs[f]? = some fn) (n:Nat) (rs:List ResultVar) (ht:fE Tryz.prog (wP fn) (cJ Tryz.prog [] (IQ Tryz.prog rs v h1)) ⟨n,pb args 0,h⟩)
 (hok:(tZ fn&&Nat.beq fn.ntmps n&&Nat.ble args.length n)=true:=by kernel_rfl) (hrs:fn.results.toList=rs:=by kernel_rfl):cg Tryz.prog f args h (fun r h'=>r=v∧h'=h1):=Kj hf n rs hok hrs ht
theorem pJ {ε ρ:Type} (k:Nat) (S:ε→AS) (R:Out ε ρ) (h1:fE Tryz.prog c (cJ Tryz.prog (Bq k (LV S R) fs) Q) s) (h2:∀ e,R = .brk e→fE Tryz.prog (xR k fs) (cJ Tryz.prog (fs.drop (k+1)) Q) (S e)) (hk:uo k fs=true:=by kernel_rfl):fE Tryz.prog c (cJ Tryz.prog fs Q) s:=I3 k S R hk h1 h2
theorem pC {σ ε ρ:Type} {body:Nat→σ→Option (eR σ ε ρ)} {fin:Nat→σ→ε} {N i0:Nat} {st0:σ} {R:Out ε ρ} (S:Nat→σ→AS) (H:dn body fin (N-i0) i0 st0=some R)
 (zero:∀ i st,N≤i→R = .brk (fin i st)→fE Tryz.prog (qb c) (cJ Tryz.prog (.bar dead::fs) Q) (S i st))
 (succ:∀ i st,i<N→∀ q,body i st=some q→vK q R→fE Tryz.prog (qb c) (cJ Tryz.prog (.bar (Mp (S (i+1)) q)::fs) Q) (S i st)) (hc:Bc c=true:=by kernel_rfl):fE Tryz.prog c (cJ Tryz.prog fs Q) (S i0 st0):=L1 S hc H zero succ
end
theorem aO (n:Int) {ps:List Prop} (h2:cu ps) (h:tE n:=by unfold tE;omega):cu (tE n::ps):=all_cons h h2
theorem aI {α:Type} {f:α→List AV} {sz:Nat} (hf:∀ x,(f x).length=sz) (l:List α) (n:Nat) (d:α) {ps:List Prop} (h2:cu ps) (h:n<l.length:=by omega) (h0:0<sz:=by decide) :
 cu ((((0:Int)≤(n:Int)∧(n:Int)<((l.map f).length:Int))∧(((l.map f).getD (n:Int).toNat []).length=sz∧0<sz))::(AV.dptr ((l.map f).getD (n:Int).toNat []) = .dptr (f (l.getD n d)))::ps):=bp (ix d hf h0 h) h2
theorem aH (n:Nat) {ps:List Prop} (h2:cu ps) (h:n<9223372036854775807:=by omega):cu (tE (((n:Nat):Int)+1)::ps):=all_cons (pI n h) h2
def V:Nat→List uI→List uI
 | 0,l=>l
 | n+1,l=>.v::V n l
def V1:Sg:=r0 [.v]
def V2:Sg:=r0 [.v,.v]
def V3:Sg:=r0 [.v,.v,.v]
def V4:Sg:=r0 (V 4 [])
def V5:Sg:=r0 (V 5 [])
def V6:Sg:=r0 (V 6 [])
theorem sI {α:Type} {x r:α} (h:some x=some r):x=r:=MQ h
theorem mo:Tryz.prog.follows .mixedOrders=true:=Tryz.mo
structure au where
 Var:aJ
 C:Int
 deriving DecidableEq
def aq (x:au):List AV:=[.str x.Var,.int .i64 x.C]
theorem aZ (x:au):(aq x).length=2:=rfl
theorem iw (x:au):(aq x).length=2∧(aq x).all (fun v=>v.one&&v.fl)=true:=⟨rfl,rfl⟩
structure Linear where
 Const:Int
 Terms:(List au)
 deriving DecidableEq
def aw (x:Linear):List AV:=[.int .i64 x.Const,.dslice (x.Terms.map aq)]
theorem bo (x:Linear):(aw x).length=2:=rfl
theorem xK (x:Linear):(aw x).length=2∧(aw x).all (fun v=>v.one&&v.fl)=true:=⟨rfl,rfl⟩
abbrev ay:au:=⟨[],0⟩
structure Shape where
 Row:aJ
 Dims:(List Linear)
 deriving DecidableEq
def DR (x:Shape):List AV:=[.str x.Row,.dslice (x.Dims.map aw)]
theorem Ko (x:Shape):(DR x).length=2:=rfl
theorem Lr (x:Shape):(DR x).length=2∧(DR x).all (fun v=>v.one&&v.fl)=true:=⟨rfl,rfl⟩
structure Bind where
 Kind:Int
 Var:aJ
 Dim:Linear
 Row:Shape
 Elem:aJ
 deriving DecidableEq
def az (x:Bind):List AV:=[.int .i64 x.Kind,.str x.Var,.int .i64 x.Dim.Const,.dslice (x.Dim.Terms.map aq),.str x.Row.Row,.dslice (x.Row.Dims.map aw),.str x.Elem]
theorem bb (x:Bind):(az x).length=7:=rfl
theorem ru (x:Bind):(az x).length=7∧(az x).all (fun v=>v.one&&v.fl)=true:=⟨rfl,rfl⟩
structure al where
 Mults:(List Int)
 Mod:Int
 deriving DecidableEq
def ao (x:Int):List AV:=[.int .i64 x]
theorem bK (x:Int):(ao x).length=1:=rfl
theorem hU (x:Int):(ao x).length=1∧(ao x).all (fun v=>v.one&&v.fl)=true:=⟨rfl,rfl⟩
def gH (x:al):List AV:=[.dslice (x.Mults.map ao),.int .i64 x.Mod]
theorem yD (x:al):(gH x).length=2:=rfl
theorem yI (x:al):(gH x).length=2∧(gH x).all (fun v=>v.one&&v.fl)=true:=⟨rfl,rfl⟩
abbrev aG:Linear:=⟨0,[]⟩
def z7 (x:UInt8):List AV:=[.int .u8 ((x).toNat:Int)]
theorem FO (x:UInt8):(z7 x).length=1:=rfl
theorem L7 (x:UInt8):(z7 x).length=1∧(z7 x).all (fun v=>v.one&&v.fl)=true:=⟨rfl,rfl⟩
def ox (x:Bool):List AV:=[.bool x]
theorem Lo (x:Bool):(ox x).length=1:=rfl
theorem HQ (x:Bool):(ox x).length=1∧(ox x).all (fun v=>v.one&&v.fl)=true:=⟨rfl,rfl⟩
def bq (x:aJ):List AV:=[.str x]
theorem mY (x:aJ):(bq x).length=1:=rfl
theorem tQ (x:aJ):(bq x).length=1∧(bq x).all (fun v=>v.one&&v.fl)=true:=⟨rfl,rfl⟩
structure aj where
 q:Linear
 mults:(List (Int×Int))
 scale:Int
 lost:Bool
 deriving DecidableEq
def ah (x:aj):List AV:=[.int .i64 x.q.Const,.dslice (x.q.Terms.map aq),.dmap (x.mults.map (dR ao)),.int .i64 x.scale,.bool x.lost]
theorem Dr (x:aj):(ah x).length=5:=rfl
theorem uG (x:aj):(ah x).length=5∧(ah x).all (fun v=>v.one&&v.fl)=true:=⟨rfl,rfl⟩
abbrev aa:aj:=⟨aG,[],0,false⟩
abbrev Le:Shape:=⟨[],[]⟩
abbrev ax:Bind:=⟨0,[],aG,Le,[]⟩
def cH (x:Bind):List AV:=[.int .i64 x.Kind,.str x.Var,.int .i64 x.Dim.Const,Ki aq x.Dim.Terms,.str x.Row.Row,Ki aw x.Row.Dims,.str x.Elem]
theorem Kz (x:Bind):(cH x).length=7:=rfl
theorem Lt (x:Bind):(cH x).length=7∧(cH x).all (fun v=>v.one&&v.fl)=true:=⟨rfl,by unfold cH;simp only [List.all_cons,List.all_nil,Ja];rfl⟩
theorem FL (x:Bind):(cH x).map AV.ez=az x:=by unfold cH az;simp only [List.map_cons,List.map_nil,KQ];rfl
structure Value where
 Var:aJ
 N:Int
 deriving DecidableEq
def bj (x:Value):List AV:=[.str x.Var,.int .i64 x.N]
theorem ti (x:Value):(bj x).length=2:=rfl
theorem sD (x:Value):(bj x).length=2∧(bj x).all (fun v=>v.one&&v.fl)=true:=⟨rfl,rfl⟩
abbrev bu:Value:=⟨[],0⟩
structure ak where
 q:Linear
 mults:(List Int)
 scale:Int
 big:Bool
 deriving DecidableEq
def ai (x:ak):List AV:=[.int .i64 x.q.Const,.dslice (x.q.Terms.map aq),.dslice (x.mults.map ao),.int .i64 x.scale,.bool x.big]
theorem zV (x:ak):(ai x).length=5:=rfl
theorem qp (x:ak):(ai x).length=5∧(ai x).all (fun v=>v.one&&v.fl)=true:=⟨rfl,rfl⟩
abbrev ae:ak:=⟨aG,[],0,false⟩
def yx (x0:Int):Option Linear :=
 some (Linear.mk x0 [])
theorem Eh (x0:Int) (r:Linear) (H:yx x0=some r):bG Tryz.prog 49 [iI x0] (.agg [iI r.Const,dS aq r.Terms]):=by unfold yx at H;refine aX Tryz.func49 5 [.cell 2 34] ?_;obtain rfl:=sI H;exact pR 5 [r0 [.m],r0 [.v,.b,.m]] [.wkH 2 1 []] [] aN
def bQ (x0:Linear) (x1:aJ) (x2:Int):Option Linear :=
 (dn (σ:=(Bool×(List au))) (ε:=(Bool×(List au))) (ρ:=Empty) (fun i0 s0 =>
  ((
   bif s0.1 then (
    some (true,false)
   ) else (
    some (false,!(Op.bytesLess ((x0.Terms.getD i0 ay).Var) x1||((x0.Terms.getD i0 ay).Var)==x1))
   )
  ):Option (Bool×Bool)).bind fun v0 =>
  ((
   bif v0.2 then (
    bf ((s0.2.length+1)*24≤140737488355328) <|
    some (true,(s0.2++[(au.mk x1 x2)]))
   ) else (
    some (v0.1,s0.2)
   )
  ):Option (Bool×(List au))).bind fun v1 =>
  ((
   bif (((x0.Terms.getD i0 ay).Var)==x1) then (
    some (true,(aK (((x0.Terms.getD i0 ay).C)+x2)))
   ) else (
    some (v1.1,((x0.Terms.getD i0 ay).C))
   )
  ):Option (Bool×Int)).bind fun v2 =>
  bf ((v1.2.length+1)*24≤140737488355328) <|
  some (.go (v2.1,(v1.2++[(au.mk ((x0.Terms.getD i0 ay).Var) v2.2)])))
 ) (fun i0 s0=>(s0.1,s0.2)) (x0.Terms.length-0) 0 (false,[])).bind <| ca fun u0 =>
 ((
  bif u0.1 then (
   some u0.2
  ) else (
   bf ((u0.2.length+1)*24≤140737488355328) <|
   some (u0.2++[(au.mk x1 x2)])
  )
 ):Option (List au)).bind fun v3 =>
 (gn (σ:=(Int×Int×(List au))) (ε:=(Int×(List au))) (ρ:=Empty) (fun s1 =>
  bif decide (s1.2.1<((s1.2.2.length:Nat):Int)) then (
   bf (0≤s1.2.1∧s1.2.1<(s1.2.2.length:Int)) <|
   bf (s1.2.1.toNat<s1.2.2.length) <|
   ((
    bif (((s1.2.2.getD s1.2.1.toNat ay).C)==0) then (
     some (s1.1,s1.2.2)
    ) else (
     bf (0≤s1.1∧s1.1<(s1.2.2.length:Int)) <|
     bf (s1.1.toNat<s1.2.2.length) <|
     some ((aK (s1.1+1)),(s1.2.2.set s1.1.toNat (au.mk ((s1.2.2.getD s1.2.1.toNat ay).Var) ((s1.2.2.getD s1.2.1.toNat ay).C))))
    )
   ):Option (Int×(List au))).bind fun v4 =>
   some (.go (v4.1,(aK (s1.2.1+1)),v4.2))
  ) else (
   some (.brk (s1.1,s1.2.2))
  )
 ) 4294967296 (0,0,v3)).bind <| ca fun u1 =>
 bf (0≤u1.1∧u1.1≤(u1.2.length:Int)) <|
 some (Linear.mk x0.Const (u1.2.take u1.1.toNat))
def pd (x0:Linear) (x1:aJ) (x2:Int) (i0:Nat) (s0:Bool×(List au)):AS:=⟨100,[(1,.str x1),(2,iI x2),(3,.hptr 3 0),(6,.hptr 6 0),(7,.hptr 7 0),(8,.bool s0.1),(9,nI i0)],[(3,.cells 34 [iI x0.Const,dS aq x0.Terms]),(6,.cells 34 [iI 0,.eslice]),(7,.cells 34 [iI x0.Const,.rslice 57]),(57,.row 88 2 (s0.2.map aq))]⟩
def ta (x0:Linear) (x1:aJ) (x2:Int) (u2:Bool×(List au)):AS:=⟨100,[(1,.str x1),(2,iI x2),(6,.hptr 6 0),(7,.hptr 7 0),(8,.bool u2.1)],[(6,.cells 34 [iI 0,.eslice]),(7,.cells 34 [iI x0.Const,.rslice 57]),(57,.row 88 2 (u2.2.map aq))]⟩
def po (x0:Linear) (x1:aJ) (x2:Int) (i0:Nat) (s0:Bool×(List au)) (v0:Bool×Bool):AS:=⟨100,[(1,.str x1),(2,iI x2),(3,.hptr 3 0),(6,.hptr 6 0),(7,.hptr 7 0),(8,.bool v0.1),(9,nI i0),(10,.hptr 10 0),(35,.bool v0.2)],[(3,.cells 34 [iI x0.Const,dS aq x0.Terms]),(6,.cells 34 [iI 0,.eslice]),(7,.cells 34 [iI x0.Const,.rslice 57]),(10,.cells 88 [.str ((x0.Terms.getD i0 ay).Var),iI ((x0.Terms.getD i0 ay).C)]),(57,.row 88 2 (s0.2.map aq))]⟩
def oU (x0:Linear) (x1:aJ) (x2:Int) (i0:Nat) (v1:Bool×(List au)):AS:=⟨100,[(1,.str x1),(2,iI x2),(3,.hptr 3 0),(6,.hptr 6 0),(7,.hptr 7 0),(8,.bool v1.1),(9,nI i0),(10,.hptr 10 0)],[(3,.cells 34 [iI x0.Const,dS aq x0.Terms]),(6,.cells 34 [iI 0,.eslice]),(7,.cells 34 [iI x0.Const,.rslice 57]),(10,.cells 88 [.str ((x0.Terms.getD i0 ay).Var),iI ((x0.Terms.getD i0 ay).C)]),(57,.row 88 2 (v1.2.map aq))]⟩
def pc (x0:Linear) (x1:aJ) (x2:Int) (i0:Nat) (v1:Bool×(List au)) (v2:Bool×Int):AS:=⟨100,[(1,.str x1),(2,iI x2),(3,.hptr 3 0),(6,.hptr 6 0),(7,.hptr 7 0),(8,.bool v2.1),(9,nI i0),(10,.hptr 10 0)],[(3,.cells 34 [iI x0.Const,dS aq x0.Terms]),(6,.cells 34 [iI 0,.eslice]),(7,.cells 34 [iI x0.Const,.rslice 57]),(10,.cells 88 [.str ((x0.Terms.getD i0 ay).Var),iI v2.2]),(57,.row 88 2 (v1.2.map aq))]⟩
def o5 (x0:Linear) (v3:List au):AS:=⟨100,[(6,.hptr 6 0),(7,.hptr 7 0)],[(6,.cells 34 [iI 0,.eslice]),(7,.cells 34 [iI x0.Const,.rslice 67]),(67,.row 88 2 (v3.map aq))]⟩
def oW (x0:Linear) (s1:Int×Int×(List au)):AS:=⟨100,[(6,.hptr 6 0),(7,.hptr 7 0),(11,iI s1.1),(12,iI s1.2.1)],[(6,.cells 34 [iI 0,.eslice]),(7,.cells 34 [iI x0.Const,.rslice 67]),(67,.row 88 2 (s1.2.2.map aq))]⟩
def tf (x0:Linear) (u3:Int×(List au)):AS:=⟨100,[(6,.hptr 6 0),(7,.hptr 7 0),(11,iI u3.1)],[(6,.cells 34 [iI 0,.eslice]),(7,.cells 34 [iI x0.Const,.rslice 67]),(67,.row 88 2 (u3.2.map aq))]⟩
def o8 (x0:Linear) (s1:Int×Int×(List au)) (v4:Int×(List au)):AS:=⟨100,[(6,.hptr 6 0),(7,.hptr 7 0),(11,iI v4.1),(12,iI s1.2.1)],[(6,.cells 34 [iI 0,.eslice]),(7,.cells 34 [iI x0.Const,.rslice 67]),(67,.row 88 2 (v4.2.map aq))]⟩
theorem dy (x0:Linear) (x1:aJ) (x2:Int) (r:Linear) (H:bQ x0 x1 x2=some r):bG Tryz.prog 17 [.agg [iI x0.Const,dS aq x0.Terms],.str x1,iI x2] (.agg [iI r.Const,dS aq r.Terms]):=by
 unfold bQ at H;refine aX Tryz.func17 100 [.cell 6 34] ?_;refine pA 10 [r0 [.m,.m],r0 [.v,.v,.b,.m,.m],V1,V1] [.erH 7 1 57 88 2,.only [1,2,3,6,7,8,9] [3,6,7,57]] 10 [] (pd x0 x1 x2 0 (false,[])) aN ?_;refine aR H fun R0 h0 H0 => ?_;refine pJ 1 (ta x0 x1 x2) R0 ?_ (fun u0 e0 => ?_)
 ·refine pC (pd x0 x1 x2) h0 (fun i0 s0 h1 e1 => ?_) (fun i0 s0 h2 q0 h3 h4 => ?_)
  ·have c0:=lF i0 x0.Terms.length (by omega);subst e1;exact pB 5 [r0 [.v,.v,.v,.e (nI x0.Terms.length),.e bF]] [.only [1,2,6,7,8] [6,7,57]] (ta x0 x1 x2 (s0.1,s0.2)) (aT (aC (aQ aq x0.Terms) (aB c0 aN)))
  ·have c1:=lT i0 x0.Terms.length (by omega);refine pD 11 [r0 [.v,.v,.v,.e (nI x0.Terms.length),.e bT],r0 [.v,.v,.v,.e (.dptr (aq (x0.Terms.getD i0 ay))),.v,.m,.m]] [.only [1,2,3,6,7,8,9,10] [3,6,7,10,57]] 11 [true] (aT (aC (aQ aq x0.Terms) (aB c1 (aI aZ x0.Terms i0 ay aN)))) ?_;refine aR h3 fun v0 h5 H1 => ?_;refine bV 0 (po x0 x1 x2 i0 s0 v0) (by kernel_rfl) ?_ ?_
   ·refine aV h5 (fun c2 H2 => ?_) (fun c3 H3 => ?_)
    ·obtain rfl:=sI H2;exact pB 2 [.eqT 8 bT,r0 [.v,.v,.v,.s,.s,.s,.s,.v]] [.only [1,2,3,6,7,8,9,10,35] [3,6,7,10,57]] (po x0 x1 x2 i0 s0 (true,false)) (aB c2 (aT aN))
    ·obtain rfl:=sI H3;exact pB 2 [.eqT 8 bF,r0 (V 8 [])] [.only [1,2,3,6,7,8,9,10,35] [3,6,7,10,57]] (po x0 x1 x2 i0 s0 (false,!(Op.bytesLess ((x0.Terms.getD i0 ay).Var) x1||((x0.Terms.getD i0 ay).Var)==x1))) (aB c3 (aT aN))
   ·refine aR H1 fun v1 h6 H4 => ?_;refine bV 0 (oU x0 x1 x2 i0 v1) (by kernel_rfl) ?_ ?_
    ·refine aV h6 (fun c4 H5 => ?_) (fun c5 H6 => ?_)
     ·refine aL H5 fun g0 H7 => ?_;obtain rfl:=sI H7;exact pB 5 [.eqT 35 bT,r0 (V 4 [.b,.b,.ap,.rwH 42 (.row 88 2 ((s0.2++[(au.mk x1 x2)]).map aq)),.v,.m]),V1] [.ren [(3,3),(6,6),(7,7),(10,10),(42,57)],.only [1,2,3,6,7,8,9,10] [3,6,7,10,57]] (oU x0 x1 x2 i0 (true,(s0.2++[(au.mk x1 x2)]))) (aB c4 (bp (tT (c:=aq) iw s0.2 [(au.mk x1 x2)] 24 (by decide) (by first | (simp;done) | simpa using g0)) (aC (wA 88 2 aq s0.2 [(au.mk x1 x2)]) aN)))
     ·obtain rfl:=sI H6;exact pB 3 [.eqT 35 bF] [.only [1,2,3,6,7,8,9,10] [3,6,7,10,57]] (oU x0 x1 x2 i0 (v0.1,s0.2)) (aB c5 aN)
    ·refine pD 3 [.rg 0 [] (V 4 [])] [.only [1,2,3,6,7,8,9,10,47] [3,6,7,10,57]] 3 [] aN ?_;refine aR H4 fun v2 h7 H8 => ?_;refine bV 0 (pc x0 x1 x2 i0 v1 v2) (by kernel_rfl) ?_ ?_
     ·refine aV h7 (fun c6 H9 => ?_) (fun c7 H10 => ?_)
      ·obtain rfl:=sI H9;exact pB 5 [.eqT 47 bT,r0 [.v,.v,.v,.w,.v,.m],V1] [.only [1,2,3,6,7,8,9,10] [3,6,7,10,57]] (pc x0 x1 x2 i0 v1 (true,(aK (((x0.Terms.getD i0 ay).C)+x2)))) (aB c6 aN)
      ·obtain rfl:=sI H10;exact pB 3 [.eqT 47 bF] [.only [1,2,3,6,7,8,9,10] [3,6,7,10,57]] (pc x0 x1 x2 i0 v1 (v1.1,((x0.Terms.getD i0 ay).C))) (aB c7 aN)
     ·refine aL H8 fun g1 H11 => ?_;refine gX 3 1 (ps:=[(x0.Terms.map aq).length≤9223372036854775807]) (by kernel_rfl) (fun l0 => ?_);have l1:x0.Terms.length≤9223372036854775807:=by simpa only [cu,MM] using l0
      clear l0;obtain rfl:=sI H11;exact pB 2 [r0 [.v,.v,.v,.b,.ap,.rwH 57 (.row 88 2 ((v1.2++[(au.mk ((x0.Terms.getD i0 ay).Var) v2.2)]).map aq)),.v,.m],V3] [.only [1,2,3,6,7,8,9] [3,6,7,57]] (pd x0 x1 x2 (i0+1) (v2.1,(v1.2++[(au.mk ((x0.Terms.getD i0 ay).Var) v2.2)]))) (bp (tT (c:=aq) iw v1.2 [(au.mk ((x0.Terms.getD i0 ay).Var) v2.2)] 24 (by decide) (by first | (simp;done) | simpa using g1)) (aC (wA 88 2 aq v1.2 [(au.mk ((x0.Terms.getD i0 ay).Var) v2.2)]) (aH i0 aN)))
 ·subst e0;have H12:=a8 H0;refine pD 3 [V2] [.only [1,2,6,7,60] [6,7,57]] 3 [] (aT aN) ?_;refine aR H12 fun v3 h8 H13 => ?_;refine bV 0 (o5 x0 v3) (by kernel_rfl) ?_ ?_
  ·refine aV h8 (fun c8 H14 => ?_) (fun c9 H15 => ?_)
   ·obtain rfl:=sI H14;exact pB 3 [.eqT 60 bF] [.ren [(6,6),(7,7),(57,67)],.only [6,7] [6,7,67]] (o5 x0 u0.2) (aM c8 aN)
   ·refine aL H15 fun g2 H16 => ?_;obtain rfl:=sI H16;exact pB 3 [.eqT 60 bT,r0 (V 4 [.b,.b,.ap,.rwH 67 (.row 88 2 ((u0.2++[(au.mk x1 x2)]).map aq)),.v,.m])] [.only [6,7] [6,7,67]] (o5 x0 (u0.2++[(au.mk x1 x2)])) (aM c9 (bp (tT (c:=aq) iw u0.2 [(au.mk x1 x2)] 24 (by decide) (by first | (simp;done) | simpa using g2)) (aC (wA 88 2 aq u0.2 [(au.mk x1 x2)]) aN)))
  ·refine pA 6 [.rg 0 [] [.v],.rg 0 [] [.v]] [.only [6,7,11,12] [6,7,67]] 6 [] (oW x0 (0,0,v3)) aN ?_;refine aR H13 fun R1 h9 H17 => ?_;refine pJ 1 (tf x0) R1 ?_ (fun u1 e2 => ?_)
   ·refine lB (oW x0) (by kernel_rfl) h9 (fun s1 q1 h10 h11 => ?_)
    ·refine aV h10 (fun c10 H18 => ?_) (fun c11 H19 => ?_)
     ·have c10p:=MJ c10;refine aL H18 fun g3 H20 => ?_;refine aL H20 fun g4 H21 => ?_;refine pD 10 [r0 [.v,.v,.v,.e (nI s1.2.2.length),.v],.eqT 73 bT,r0 (V 5 [.rl s1.2.1.toNat 1 (iI ((s1.2.2.getD s1.2.1.toNat ay).C)),.v])] [.only [6,7,11,12,82] [6,7,67]] 9 [true] (aT (aC (aQ aq s1.2.2) (aB c10 (aC (show (0:Int)≤s1.2.1∧s1.2.1<((s1.2.2.map aq).length:Int) from by rw [MM];exact g3) (aC (dI (f:=aq) (l:=s1.2.2) (n:=s1.2.1.toNat) 2 1 1 (by omega) (by decide)) (aC (ot (f:=aq) (l:=s1.2.2) (n:=s1.2.1.toNat) ay 1 (by omega)) aN)))))) ?_;refine aR H21 fun v4 h12 H22 => ?_;refine bV 1 (o8 x0 s1 v4) (by kernel_rfl) ?_ ?_
      ·refine aV h12 (fun c12 H23 => ?_) (fun c13 H24 => ?_)
       ·obtain rfl:=sI H23;exact pB 3 [.eqT 82 bF] [.only [6,7,11,12] [6,7,67]] (o8 x0 s1 (s1.1,s1.2.2)) (aM c12 aN)
       ·refine aL H24 fun g5 H25 => ?_;refine aL H25 fun g6 H26 => ?_;obtain rfl:=sI H26;exact pB 5 [.eqT 82 bT,.rg 8 (V 7 [.rl s1.2.1.toNat 0 (.agg (aq (s1.2.2.getD s1.2.1.toNat ay)))]) [.v,.rs s1.1.toNat 0,.rwH 67 (.row 88 2 ((s1.2.2.set s1.1.toNat (au.mk ((s1.2.2.getD s1.2.1.toNat ay).Var) ((s1.2.2.getD s1.2.1.toNat ay).C))).map aq))],r0 [.v,.w,.v]] [.only [6,7,11,12] [6,7,67]] (o8 x0 s1 ((aK (s1.1+1)),(s1.2.2.set s1.1.toNat (au.mk ((s1.2.2.getD s1.2.1.toNat ay).Var) ((s1.2.2.getD s1.2.1.toNat ay).C))))) (aM c13 (aC (show (0:Int)≤s1.2.1∧s1.2.1<((s1.2.2.map aq).length:Int) from by rw [MM];exact g3) (aC (dI (f:=aq) (l:=s1.2.2) (n:=s1.2.1.toNat) 2 0 2 (by omega) (by decide)) (aC (yK (f:=aq) (l:=s1.2.2) (n:=s1.2.1.toNat) ay 0 2 (by omega)) (aC (show (0:Int)≤s1.1∧s1.1<((s1.2.2.map aq).length:Int) from by rw [MM];exact g5) (aC (dI (f:=aq) (l:=s1.2.2) (n:=s1.1.toNat) 2 0 2 (by omega) (by decide)) (aC (qS (f:=aq) 88 2 s1.2.2 s1.1.toNat ay (au.mk ((s1.2.2.getD s1.2.1.toNat ay).Var) ((s1.2.2.getD s1.2.1.toNat ay).C)) 0 (aq (s1.2.2.getD s1.2.1.toNat ay)) (by omega) rfl) aN)))))))
      ·obtain rfl:=sI H22;exact pB 1 [r0 [.v,.w,.v]] [.only [6,7,11,12] [6,7,67]] (oW x0 (v4.1,(aK (s1.2.1+1)),v4.2)) aN
     ·obtain rfl:=sI H19;obtain rfl:=dM h11;exact pB 6 [r0 [.v,.v,.v,.e (nI s1.2.2.length),.v],.eqT 73 bF] [.only [6,7,11] [6,7,67]] (tf x0 (s1.1,s1.2.2)) (aT (aC (aQ aq s1.2.2) (aB c11 aN)))
   ·subst e2;have H27:=a8 H17;refine aL H27 fun g7 H28 => ?_;obtain rfl:=sI H28;exact pR 5 [r0 [.v,.v,.v,.fz 67,.e (.dslice ((u1.2.take u1.1.toNat).map aq)),.v,.m],r0 [.v,.m]] [] [] (aC (show ((0:Int)≤0∧0≤u1.1∧u1.1≤((u1.2.map aq).length:Int))∧UL 2 (u1.2.map aq) from ⟨by first | omega | (simp only [MM];omega),UL.map aZ _⟩) (aC (HN aq u1.2 u1.1.toNat) aN))
def gC (x0 x1 x2:Int):Option Linear :=
 (yx x2).bind fun y0 =>
 (bQ y0 [110] x0).bind fun y1 =>
 (bQ y1 [109] x1).bind fun y2 =>
 some y2
theorem oA (x0 x1 x2:Int) (r:Linear) (H:gC x0 x1 x2=some r):bG Tryz.prog 21 [iI x0,iI x1,iI x2] (.agg [iI r.Const,dS aq r.Terms]):=by unfold gC at H;refine aX Tryz.func21 13 [.cell 6 34] ?_;refine aR H fun y0 h0 H0 => ?_;refine aR H0 fun y1 h1 H1 => ?_;refine aR H1 fun y2 h2 H2 => ?_;refine bZ H2 fun e0 => ?_;subst e0;exact pR 5 [r0 [.m],r0 [.v,.c true (.agg [iI y0.Const,dS aq y0.Terms]),.v,.c true (.agg [iI y1.Const,dS aq y1.Terms]),.v,.c true (.agg [iI y2.Const,dS aq y2.Terms]),.m]] [] [] (aC Tryz.call49 (aF (Eh _ _ h0) (aC Tryz.call17 (aF (dy _ _ _ _ h1) (aC Tryz.call17 (aF (dy _ _ _ _ h2) aN))))))
def cC (x0 x1:aJ):Option Bool :=
 bif decide (((x0.length:Nat):Int)≥((x1.length:Nat):Int)) then (
  bf (x1.length≤x0.length) <|
  some ((x0.take x1.length)==x1)
 ) else (
  some false
 )
theorem jV (x0 x1:aJ) (r:Bool) (H:cC x0 x1=some r):bG Tryz.prog 123 [.str x0,.str x1] (.bool r):=by
 unfold cC at H;refine aX Tryz.func123 18 [.tmp 4] ?_;refine aV H (fun c0 H0 => ?_) (fun c1 H1 => ?_)
 ·have c0p:=MJ c0;refine aL H0 fun g0 H2 => ?_;obtain rfl:=sI H2;exact pR 5 [V1,r0 (V 4 [.e bT,.v,.v,.v,.v,.e (.str (x0.take x1.length)),.v,.v,.v,.v])] [] [] (aT (aT (aB c0 (aT (aC (show (0:Int)≤0∧0≤((x1.length:Nat):Int)∧((x1.length:Nat):Int)≤(x0.length:Int) from by omega) (aC (JK x0 x1.length) aN))))))
 ·obtain rfl:=sI H1;exact pR 5 [V1,r0 (V 4 [.e bF,.v,.s,.s,.s,.s,.s,.s,.v,.v])] [] [] (aT (aT (aB c1 aN)))
def dO (x0 x1:aJ):Option Bool :=
 (cC x0 x1).bind fun y0 =>
 some y0
theorem fJ (x0 x1:aJ) (r:Bool) (H:dO x0 x1=some r):bG Tryz.prog 88 [.str x0,.str x1] (.bool r):=by unfold dO at H;refine aX Tryz.func88 8 [.tmp 4] ?_;refine aR H fun y0 h0 H0 => ?_;refine bZ H0 fun e0 => ?_;subst e0;exact pR 5 [V1,r0 [.v,.v,.c true (.bool y0),.v]] [] [] (aC Tryz.call123 (aF (jV _ _ _ h0) aN))
def lE (x0:aJ):Option Bool :=
 (dO x0 [95]).bind fun y0 =>
 bif y0 then (
  bf (1≤x0.length) <|
  (nQ (x0.drop 1)).bind fun y1 =>
  bif y1.2 then (
   bif decide (y1.1>0) then (
    bif decide (((x0.length:Nat):Int)≤10) then (
     (jc y1.1).bind fun y2 =>
     some (y2==(x0.drop 1))
    ) else (
     some false
    )
   ) else (
    some false
   )
  ) else (
   some false
  )
 ) else (
  (dn (σ:=Unit) (ε:=Unit) (ρ:=Bool) (fun i0 s0 =>
   ((
    bif decide ((((x0.getD i0 0)).toNat:Int)<97) then (
     bif (((i0:Nat):Int)==0) then (
      some (.ret (.ret false))
     ) else (
      bif decide ((((x0.getD i0 0)).toNat:Int)<48) then (
       some (.ret (.ret false))
      ) else (
       bif decide ((((x0.getD i0 0)).toNat:Int)>57) then (
        some (.ret (.ret false))
       ) else (
        some (.brk ())
       )
      )
     )
    ) else (
     bif decide ((((x0.getD i0 0)).toNat:Int)>122) then (
      bif (((i0:Nat):Int)==0) then (
       some (.ret (.ret false))
      ) else (
       bif decide ((((x0.getD i0 0)).toNat:Int)<48) then (
        some (.ret (.ret false))
       ) else (
        bif decide ((((x0.getD i0 0)).toNat:Int)>57) then (
         some (.ret (.ret false))
        ) else (
         some (.brk ())
        )
       )
      )
     ) else (
      some (.brk ())
     )
    )
   ):Option (Out Unit (eR Unit Unit Bool))).bind (aft fun u0 =>
    some (.go ())
   )
  ) (fun i0 s0=>()) (x0.length-0) 0 ()).bind <| aft fun u1 =>
  bif (x0==[]) then (
   some false
  ) else (
   some (decide (((x0.length:Nat):Int)≤30))
  )
 )
def np (x0:aJ) (i0:Nat) (s0:Unit):AS:=⟨67,[(0,.str x0),(2,.bool false),(34,dS z7 x0),(35,nI x0.length),(36,nI i0)],[]⟩
def re (x0:aJ) (u2:Unit):AS:=⟨67,[(0,.str x0),(2,.bool false)],[]⟩
def ku (x0:aJ) (i0:Nat) (u0:Unit):AS:=⟨67,[(0,.str x0),(2,.bool false),(34,dS z7 x0),(35,nI x0.length),(36,nI i0)],[]⟩
theorem iX (x0:aJ) (r:Bool) (H:lE x0=some r):bG Tryz.prog 83 [.str x0] (.bool r):=by
 unfold lE at H;refine aX Tryz.func83 67 [.tmp 2] ?_;refine aR H fun y0 h0 H0 => ?_;refine aV H0 (fun c0 H1 => ?_) (fun c1 H2 => ?_)
 ·refine aL H1 fun g0 H3 => ?_;refine aR H3 fun y1 h1 H4 => ?_;refine pD 10 [V1,r0 [.v,.c true (.bool y0)],.eqT 8 bT,r0 [.v,.e (.str (x0.drop 1)),.cf true (.tup [iI y1.1,yQ 190 y1.2]),.v,.v,.v,.v,.v]] [.only [0,2,3,4] []] 9 [true] (aC Tryz.call88 (aF (fJ _ _ _ h0) (aB c0 (aC (show (0:Int)≤1∧1≤(x0.length:Int)∧(x0.length:Int)≤(x0.length:Int) from by omega) (aC (AJ x0 1) (aC Tryz.call89 (aF (yB (x0.drop 1) y1 h1) (aC (show wY true (.tup [iI y1.1,yQ 190 y1.2])=true from by cases h2:y1.2<;>rfl) aN)))))))) ?_;refine aV H4 (fun c2 H5 => ?_) (fun c3 H6 => ?_)
  ·refine aV H5 (fun c4 H7 => ?_) (fun c5 H8 => ?_)
   ·have c4p:=MJ c4;refine aV H7 (fun c6 H9 => ?_) (fun c7 H10 => ?_)
    ·have c6p:=MJ c6;refine aR H9 fun y2 h3 H11 => ?_;obtain rfl:=sI H11;exact pR 3 [.eqT 4 (.nilI),.rg 16 (V 4 [.e bT,.v,.v,.v,.v,.e bT,.v,.v,.v,.c true (.str y2),.v,.e (.str (x0.drop 1))]) [.v,.v,.v]] [] [] (aC (congrArg (yQ 190) c2) (aB c4 (aT (aB c6 (aC Tryz.call94 (aF (wR y1.1 y2 h3) (aC (show (0:Int)≤1∧1≤(x0.length:Int)∧(x0.length:Int)≤(x0.length:Int) from by omega) (aC (AJ x0 1) aN))))))))
    ·obtain rfl:=sI H10;exact pR 3 [.eqT 4 (.nilI),.rg 16 (V 4 [.e bT,.v,.v,.v,.v,.e bF,.v,.v,.s,.s,.s,.s]) [.s,.v,.v]] [] [] (aC (congrArg (yQ 190) c2) (aB c4 (aT (aB c7 aN))))
   ·obtain rfl:=sI H8;exact pR 3 [.eqT 4 (.nilI),.rg 16 (V 4 [.e bF,.v,.v,.s,.s,.s,.v,.v,.s,.s,.s,.s]) [.s,.v,.v]] [] [] (aC (congrArg (yQ 190) c2) (aB c5 aN))
  ·obtain rfl:=sI H6;exact pR 3 [.eqT 4 (.iface 190 (.any)),.rg 16 [.v,.v,.v,.s,.s,.v,.v,.s,.s,.s,.v,.v,.s,.s,.s,.s] [.s,.v,.v]] [] [] (aC (congrArg (yQ 190) c3) aN)
 ·refine pA 12 [.rg 0 [] [.v],.rg 0 [] [.v,.c true (.bool y0)],.eqT 8 bF,.rg 0 [] [.v,.m,.e (.int .i64 ((x0.length:Nat):Int)),.v]] [.only [0,2,34,35,36] []] 11 [false] (np x0 0 ()) (aC Tryz.call88 (aF (fJ _ _ _ h0) (aB c1 (aT (aC (aQ z7 x0) aN))))) ?_;refine aR H2 fun R0 h4 H12 => ?_;refine pJ 1 (re x0) R0 ?_ (fun u1 e0 => ?_)
  ·refine pC (np x0) h4 (fun i0 s0 h5 e1 => ?_) (fun i0 s0 h6 q0 h7 h8 => ?_)
   ·have c8:=lF i0 x0.length (by omega);subst e1;exact pB 5 [r0 [.e bF]] [.only [0,2] []] (re x0 ()) (aB c8 aN)
   ·have c9:=lT i0 x0.length (by omega);refine pD 10 [r0 [.e bT],r0 [.v,.e (.dptr [.int .u8 (((x0.getD i0 0)).toNat:Int)]),.v,.v,.v]] [.only [0,2,5,6,34,35,36] []] 10 [true] (aB c9 (aI FO x0 i0 0 aN)) ?_;refine aR h7 fun v0 h9 H13 => ?_;refine pJ 2 (ku x0 i0) v0 ?_ (fun u0 e2 => ?_)
    ·refine aV h9 (fun c10 H14 => ?_) (fun c11 H15 => ?_)
     ·refine aV H14 (fun c12 H16 => ?_) (fun c13 H17 => ?_)
      ·obtain rfl:=sI H16;obtain rfl:=sI (aP H13);obtain rfl:=aW h8;obtain rfl:=sI (aP H12);exact pR 5 [r0 [.v,.e bT,.v,.s,.s,.v,.v,.v,.e bT,.v,.s,.s,.v,.v,.s,.s,.v,.v],V1] [] [] (aB c10 (aB c12 aN))
      ·refine aV H17 (fun c14 H18 => ?_) (fun c15 H19 => ?_)
       ·obtain rfl:=sI H18;obtain rfl:=sI (aP H13);obtain rfl:=aW h8;obtain rfl:=sI (aP H12);exact pR 5 [r0 [.v,.e bT,.v,.s,.s,.v,.v,.v,.e bF,.v,.v,.e bT,.v,.v,.s,.s,.v,.v],V1] [] [] (aB c10 (aB c13 (aB c14 aN)))
       ·refine aV H19 (fun c16 H20 => ?_) (fun c17 H21 => ?_)
        ·obtain rfl:=sI H20;obtain rfl:=sI (aP H13);obtain rfl:=aW h8;obtain rfl:=sI (aP H12);exact pR 6 [r0 [.v,.e bT,.v,.s,.s,.v,.v,.v,.e bF,.v,.v,.e bF,.v,.v,.v,.v,.v,.v],.eqT 58 bT,V1] [] [] (aB c10 (aB c13 (aB c15 (aB c16 aN))))
        ·obtain rfl:=sI H21;exact pB 4 [r0 [.v,.e bT,.v,.s,.s,.v,.v,.v,.e bF,.v,.v,.e bF,.v,.v,.v,.v,.v,.v],.eqT 58 bF] [.only [0,2,34,35,36] []] (ku x0 i0 ()) (aB c10 (aB c13 (aB c15 (aB c17 aN))))
     ·refine aV H15 (fun c18 H22 => ?_) (fun c19 H23 => ?_)
      ·refine aV H22 (fun c20 H24 => ?_) (fun c21 H25 => ?_)
       ·obtain rfl:=sI H24;obtain rfl:=sI (aP H13);obtain rfl:=aW h8;obtain rfl:=sI (aP H12);exact pR 5 [r0 [.v,.e bF,.v,.v,.e bT,.v,.v,.v,.e bT,.v,.s,.s,.v,.v,.s,.s,.v,.v],V1] [] [] (aB c11 (aB c18 (aB c20 aN)))
       ·refine aV H25 (fun c22 H26 => ?_) (fun c23 H27 => ?_)
        ·obtain rfl:=sI H26;obtain rfl:=sI (aP H13);obtain rfl:=aW h8;obtain rfl:=sI (aP H12);exact pR 5 [r0 [.v,.e bF,.v,.v,.e bT,.v,.v,.v,.e bF,.v,.v,.e bT,.v,.v,.s,.s,.v,.v],V1] [] [] (aB c11 (aB c18 (aB c21 (aB c22 aN))))
        ·refine aV H27 (fun c24 H28 => ?_) (fun c25 H29 => ?_)
         ·obtain rfl:=sI H28;obtain rfl:=sI (aP H13);obtain rfl:=aW h8;obtain rfl:=sI (aP H12);exact pR 6 [r0 [.v,.e bF,.v,.v,.e bT,.v,.v,.v,.e bF,.v,.v,.e bF,.v,.v,.v,.v,.v,.v],.eqT 58 bT,V1] [] [] (aB c11 (aB c18 (aB c21 (aB c23 (aB c24 aN)))))
         ·obtain rfl:=sI H29;exact pB 4 [r0 [.v,.e bF,.v,.v,.e bT,.v,.v,.v,.e bF,.v,.v,.e bF,.v,.v,.v,.v,.v,.v],.eqT 58 bF] [.only [0,2,34,35,36] []] (ku x0 i0 ()) (aB c11 (aB c18 (aB c21 (aB c23 (aB c25 aN)))))
      ·obtain rfl:=sI H23;exact pB 3 [r0 [.v,.e bF,.v,.v,.e bF,.v,.v,.s,.s,.s,.s,.s,.s,.s,.s,.s,.s,.v]] [.only [0,2,34,35,36] []] (ku x0 i0 ()) (aB c11 (aB c19 aN))
    ·subst e2;have H30:=bl H13;refine bO 0 (ps:=[x0.length≤9223372036854775807]) (by kernel_rfl) (fun l0 => ?_);have l1:x0.length≤9223372036854775807:=by simpa only [cu,MM] using l0
     clear l0;obtain rfl:=sI H30;exact pB 1 [V2] [.only [0,2,34,35,36] []] (np x0 (i0+1) ()) (aH i0 aN)
  ·subst e0;have H31:=bl H12;refine aV H31 (fun c26 H32 => ?_) (fun c27 H33 => ?_)
   ·obtain rfl:=sI H32;exact pR 3 [r0 [.v,.e bF,.v,.s,.s,.s,.v,.v]] [] [] (aM c26 aN)
   ·obtain rfl:=sI H33;exact pR 3 [r0 [.v,.e bT,.v,.v,.v,.v,.v,.v]] [] [] (aM c27 (aT aN))
def mB (x0:Int):Option Bool :=
 bif decide (x0≥(-1000000)) then (
  some (decide (x0≤1000000))
 ) else (
  some false
 )
theorem ls (x0:Int) (r:Bool) (H:mB x0=some r):bG Tryz.prog 84 [iI x0] (.bool r):=by
 unfold mB at H;refine aX Tryz.func84 9 [.tmp 2] ?_;refine aV H (fun c0 H0 => ?_) (fun c1 H1 => ?_)
 ·obtain rfl:=sI H0;exact pR 5 [V1,r0 [.v,.e bT,.v,.v,.v,.v,.v]] [] [] (aB c0 aN)
 ·obtain rfl:=sI H1;exact pR 5 [V1,r0 [.v,.e bF,.v,.s,.s,.v,.v]] [] [] (aB c1 aN)
def cb (x0:Linear):Option Bool :=
 (dn (σ:=Unit) (ε:=Unit) (ρ:=Bool) (fun i0 s0 =>
  (lE ((x0.Terms.getD i0 ay).Var)).bind fun y0 =>
  ((
   bif y0 then (
    bif (((x0.Terms.getD i0 ay).C)==0) then (
     some (.ret (.ret false))
    ) else (
     (mB ((x0.Terms.getD i0 ay).C)).bind fun y1 =>
     bif y1 then (
      bif decide (((i0:Nat):Int)>0) then (
       bf (0≤(aK (((i0:Nat):Int)-1))∧(aK (((i0:Nat):Int)-1))<(x0.Terms.length:Int)) <|
       bif (Op.bytesLess ((x0.Terms.getD (aK (((i0:Nat):Int)-1)).toNat ay).Var) ((x0.Terms.getD i0 ay).Var)) then (
        some (.brk ())
       ) else (
        some (.ret (.ret false))
       )
      ) else (
       some (.brk ())
      )
     ) else (
      some (.ret (.ret false))
     )
    )
   ) else (
    some (.ret (.ret false))
   )
  ):Option (Out Unit (eR Unit Unit Bool))).bind (aft fun u0 =>
   some (.go ())
  )
 ) (fun i0 s0=>()) (x0.Terms.length-0) 0 ()).bind <| aft fun u1 =>
 (mB x0.Const).bind fun y2 =>
 bif y2 then (
  some (decide (((x0.Terms.length:Nat):Int)≤12))
 ) else (
  some false
 )
def lX (x0:Linear) (i0:Nat) (s0:Unit):AS:=⟨54,[(1,.hptr 1 0),(2,.bool false),(6,dS aq x0.Terms),(7,nI x0.Terms.length),(8,nI i0)],[(1,.cells 34 [iI x0.Const,dS aq x0.Terms])]⟩
def qL (x0:Linear) (u2:Unit):AS:=⟨54,[(1,.hptr 1 0),(2,.bool false)],[(1,.cells 34 [iI x0.Const,dS aq x0.Terms])]⟩
def lZ (x0:Linear) (i0:Nat) (u0:Unit):AS:=⟨54,[(1,.hptr 1 0),(2,.bool false),(6,dS aq x0.Terms),(7,nI x0.Terms.length),(8,nI i0)],[(1,.cells 34 [iI x0.Const,dS aq x0.Terms])]⟩
theorem b8 (x0:Linear) (r:Bool) (H:cb x0=some r):bG Tryz.prog 50 [.agg [iI x0.Const,dS aq x0.Terms]] (.bool r):=by
 unfold cb at H;refine aX Tryz.func50 54 [.tmp 2] ?_;refine pA 6 [r0 [.m,.v],r0 [.v,.v,.e (nI x0.Terms.length),.v]] [.only [1,2,6,7,8] [1]] 6 [] (lX x0 0 ()) (aT (aC (aQ aq x0.Terms) aN)) ?_;refine aR H fun R0 h0 H0 => ?_;refine pJ 1 (qL x0) R0 ?_ (fun u1 e0 => ?_)
 ·refine pC (lX x0) h0 (fun i0 s0 h1 e1 => ?_) (fun i0 s0 h2 q0 h3 h4 => ?_)
  ·have c0:=lF i0 x0.Terms.length (by omega);subst e1;exact pB 5 [r0 [.e bF]] [.only [1,2] [1]] (qL x0 ()) (aB c0 aN)
  ·have c1:=lT i0 x0.Terms.length (by omega);refine aR h3 fun y0 h5 H1 => ?_;refine pD 10 [r0 [.e bT],r0 [.v,.e (.dptr (aq (x0.Terms.getD i0 ay))),.v,.m,.v,.m]] [.only [1,2,3,4,6,7,8] [1,4]] 10 [true] (aB c1 (aI aZ x0.Terms i0 ay aN)) ?_;refine aR H1 fun v0 h6 H2 => ?_;refine pJ 2 (lZ x0 i0) v0 ?_ (fun u0 e2 => ?_)
   ·refine aV h6 (fun c2 H3 => ?_) (fun c3 H4 => ?_)
    ·refine aV H3 (fun c4 H5 => ?_) (fun c5 H6 => ?_)
     ·obtain rfl:=sI H5;obtain rfl:=sI (aP H2);obtain rfl:=aW h4;obtain rfl:=sI (aP H0);exact pR 5 [.rg 28 [.v,.v,.c true bT,.v,.v,.v,.v,.e bT,.v,.v,.s,.s,.s,.s,.v,.v,.s,.s,.s,.s,.s,.s,.s,.s,.s,.s,.s,.s] [.s,.s,.v],V1] [] [] (aC Tryz.call83 (aC (bG.eq (iX _ _ h5) (cB c2)) (aT (aB c4 aN))))
     ·refine aR H6 fun y1 h7 H7 => ?_;refine aV H7 (fun c6 H8 => ?_) (fun c7 H9 => ?_)
      ·refine aV H8 (fun c8 H10 => ?_) (fun c9 H11 => ?_)
       ·refine aL H10 fun g0 H12 => ?_;refine pD 1 [.rg 28 [.v,.v,.c true bT,.v,.v,.v,.v,.e bF,.v,.v,.v,.v,.c true bT,.v,.v,.v,.v,.e bT,.v,.v,.v,.v,.w,.e (.dptr (aq (x0.Terms.getD (aK (((i0:Nat):Int)-1)).toNat ay))),.v,.v,.v,.v] [.v,.v,.v]] [.only [1,2,6,7,8,43] [1]] 1 [] (aC Tryz.call83 (aC (bG.eq (iX _ _ h5) (cB c2)) (aT (aB c5 (aC Tryz.call84 (aC (bG.eq (ls _ _ h7) (cB c6)) (aT (aB c8 (bp (IZ (f:=aq) (l:=x0.Terms) (n:=(aK (((i0:Nat):Int)-1))) ay aZ (by decide) (by exact g0)) aN))))))))) ?_;refine aV H12 (fun c10 H13 => ?_) (fun c11 H14 => ?_)
        ·obtain rfl:=sI H13;exact pB 3 [.eqT 43 bF] [.only [1,2,6,7,8] [1]] (lZ x0 i0 ()) (aM c10 aN)
        ·obtain rfl:=sI H14;obtain rfl:=sI (aP H2);obtain rfl:=aW h4;obtain rfl:=sI (aP H0);exact pR 5 [.eqT 43 bT,V1] [] [] (aM c11 aN)
       ·obtain rfl:=sI H11;exact pB 3 [.rg 28 [.v,.v,.c true bT,.v,.v,.v,.v,.e bF,.v,.v,.v,.v,.c true bT,.v,.v,.v,.v,.e bF,.v,.s,.s,.s,.s,.s,.s,.s,.s,.s] [.s,.v,.v]] [.only [1,2,6,7,8] [1]] (lZ x0 i0 ()) (aC Tryz.call83 (aC (bG.eq (iX _ _ h5) (cB c2)) (aT (aB c5 (aC Tryz.call84 (aC (bG.eq (ls _ _ h7) (cB c6)) (aT (aB c9 aN))))))))
      ·obtain rfl:=sI H9;obtain rfl:=sI (aP H2);obtain rfl:=aW h4;obtain rfl:=sI (aP H0);exact pR 5 [.rg 28 [.v,.v,.c true bT,.v,.v,.v,.v,.e bF,.v,.v,.v,.v,.c true bF,.v,.v,.v,.s,.s,.s,.s,.s,.s,.s,.s,.s,.s,.s,.s] [.s,.s,.v],V1] [] [] (aC Tryz.call83 (aC (bG.eq (iX _ _ h5) (cB c2)) (aT (aB c5 (aC Tryz.call84 (aC (bG.eq (ls _ _ h7) (cB c7)) (aT aN)))))))
    ·obtain rfl:=sI H4;obtain rfl:=sI (aP H2);obtain rfl:=aW h4;obtain rfl:=sI (aP H0);exact pR 5 [.rg 28 [.v,.v,.c true bF,.v,.v,.s,.s,.s,.v,.v,.s,.s,.s,.s,.v,.v,.s,.s,.s,.s,.s,.s,.s,.s,.s,.s,.s,.s] [.s,.s,.v],V1] [] [] (aC Tryz.call83 (aC (bG.eq (iX _ _ h5) (cB c3)) (aT aN)))
   ·subst e2;have H15:=bl H2;refine bO 6 (ps:=[(x0.Terms.map aq).length≤9223372036854775807]) (by kernel_rfl) (fun l0 => ?_);have l1:x0.Terms.length≤9223372036854775807:=by simpa only [cu,MM] using l0
    clear l0;obtain rfl:=sI H15;exact pB 1 [V2] [.only [1,2,6,7,8] [1]] (lX x0 (i0+1) ()) (aH i0 aN)
 ·subst e0;have H16:=bl H0;refine aR H16 fun y2 h8 H17 => ?_;refine aV H17 (fun c12 H18 => ?_) (fun c13 H19 => ?_)
  ·obtain rfl:=sI H18;exact pR 3 [r0 [.v,.v,.c true bT,.v,.v,.v,.e (nI x0.Terms.length),.v,.v,.v]] [] [] (aC Tryz.call84 (aC (bG.eq (ls _ _ h8) (cB c12)) (aT (aC (aQ aq x0.Terms) aN))))
  ·obtain rfl:=sI H19;exact pR 3 [r0 [.v,.v,.c true bF,.v,.s,.s,.s,.s,.v,.v]] [] [] (aC Tryz.call84 (aC (bG.eq (ls _ _ h8) (cB c13)) aN))
def gY (x0:Linear):Option Bool :=
 (cb x0).bind fun y0 =>
 some (!y0)
theorem sN (x0:Linear) (r:Bool) (H:gY x0=some r):bG Tryz.prog 55 [.agg [iI x0.Const,dS aq x0.Terms]] (.bool r):=by unfold gY at H;refine aX Tryz.func55 6 [.tmp 2] ?_;refine aR H fun y0 h0 H0 => ?_;obtain rfl:=sI H0;exact pR 5 [r0 [.m,.v],r0 [.v,.c true (.bool y0),.v,.v]] [] [] (aC Tryz.call50 (aF (b8 _ _ h0) (aT aN)))
def ct (x0:List Linear):Option Int :=
 (dn (σ:=Unit) (ε:=Unit) (ρ:=Int) (fun i0 s0 =>
  (gY (Linear.mk ((x0.getD i0 aG).Const) ((x0.getD i0 aG).Terms))).bind fun y0 =>
  bif y0 then (
   some (.ret ((i0:Nat):Int))
  ) else (
   some (.go ())
  )
 ) (fun i0 s0=>()) (x0.length-0) 0 ()).bind <| aft fun u0 =>
 some (-1)
def dv (x0:List Linear) (i0:Nat) (s0:Unit):AS:=⟨19,[(0,dS aw x0),(1,.fn 55 []),(4,iI 0),(7,nI x0.length),(8,nI i0)],[]⟩
def fU (u1:Unit):AS:=⟨19,[(4,iI 0)],[]⟩
theorem lz (x0:List Linear) (r:Int) (H:ct x0=some r):bG Tryz.prog 87 [dS aw x0,.fn 55 []] (iI r):=by
 unfold ct at H;refine aX Tryz.func87 19 [.tmp 4] ?_;refine pA 6 [V1,r0 [.v,.e (nI x0.length),.v]] [.only [0,1,4,7,8] []] 6 [] (dv x0 0 ()) (aT (aC (aQ aw x0) aN)) ?_;refine aR H fun R0 h0 H0 => ?_;refine pJ 1 (fU) R0 ?_ (fun u0 e0 => ?_)
 ·refine pC (dv x0) h0 (fun i0 s0 h1 e1 => ?_) (fun i0 s0 h2 q0 h3 h4 => ?_)
  ·have c0:=lF i0 x0.length (by omega);subst e1;exact pB 5 [r0 [.e bF]] [.only [4] []] (fU ()) (aB c0 aN)
  ·have c1:=lT i0 x0.length (by omega);refine aR h3 fun y0 h5 H1 => ?_;refine pD 11 [r0 [.e bT],V2,r0 [.v,.v,.v,.e (.dptr (aw (x0.getD i0 aG))),.v,.c true (.bool y0)]] [.only [0,1,4,5,7,8,16] []] 11 [true] (aB c1 (aI bo x0 i0 aG (aC Tryz.call55 (aF (sN _ _ h5) aN)))) ?_;refine aV H1 (fun c2 H2 => ?_) (fun c3 H3 => ?_)
   ·obtain rfl:=sI H2;obtain rfl:=aW h4;obtain rfl:=sI (aP H0);exact pR 5 [.eqT 16 bT,V2] [] [] (aB c2 aN)
   ·refine bO 0 (ps:=[(x0.map aw).length≤9223372036854775807]) (by kernel_rfl) (fun l0 => ?_);have l1:x0.length≤9223372036854775807:=by simpa only [cu,MM] using l0
    clear l0;obtain rfl:=sI H3;exact pB 4 [.eqT 16 bF,V2] [.only [0,1,4,7,8] []] (dv x0 (i0+1) ()) (aB c3 (aH i0 aN))
 ·subst e0;have H4:=bl H0;obtain rfl:=sI H4;exact pR 3 [V1] [] [] aN
def cz (x0:List Linear):Option Bool :=
 (ct x0).bind fun y0 =>
 some (decide (y0≥0))
theorem jW (x0:List Linear) (r:Bool) (H:cz x0=some r):bG Tryz.prog 54 [dS aw x0,.fn 55 []] (.bool r):=by unfold cz at H;refine aX Tryz.func54 9 [.tmp 4] ?_;refine aR H fun y0 h0 H0 => ?_;obtain rfl:=sI H0;exact pR 5 [V1,r0 [.v,.v,.c true (iI y0),.v,.v]] [] [] (aC Tryz.call87 (aF (lz _ _ h0) aN))
def ck (x0:List Linear):Option Bool :=
 (cz x0).bind fun y0 =>
 some (!y0)
theorem be (x0:List Linear) (r:Bool) (H:ck x0=some r):bG Tryz.prog 27 [dS aw x0] (.bool r):=by unfold ck at H;refine aX Tryz.func27 6 [.tmp 2] ?_;refine aR H fun y0 h0 H0 => ?_;obtain rfl:=sI H0;exact pR 5 [V1,r0 [.v,.c true (.bool y0),.v,.v]] [] [] (aC Tryz.call54 (aF (jW _ _ h0) (aT aN)))
def jJ (x0:Linear):Option (List aJ) :=
 (dn (σ:=(List aJ)) (ε:=(List aJ)) (ρ:=Empty) (fun i0 s0 =>
  bf ((s0.length+1)*16≤140737488355328) <|
  some (.go (s0++[((x0.Terms.getD i0 ay).Var)]))
 ) (fun i0 s0=>s0) (x0.Terms.length-0) 0 []).bind <| ca fun u0 =>
 some u0
def nB (x0:Linear) (i0:Nat) (s0:List aJ):AS:=⟨20,[(2,.eslice),(3,.rslice 17),(7,dS aq x0.Terms),(8,nI x0.Terms.length),(9,nI i0)],[(17,.row 9 1 (s0.map bq))]⟩
def sr (u1:List aJ):AS:=⟨20,[(2,.eslice),(3,.rslice 17)],[(17,.row 9 1 (u1.map bq))]⟩
theorem za (x0:Linear) (r:List aJ) (H:jJ x0=some r):bG Tryz.prog 62 [.agg [iI x0.Const,dS aq x0.Terms]] (dS bq r):=by
 unfold jJ at H;refine aX Tryz.func62 20 [.tmp 2] ?_;refine pA 8 [r0 [.m,.v],V1,r0 [.v,.v,.e (nI x0.Terms.length),.v]] [.er 3 17 9 1,.only [2,3,7,8,9] [17]] 8 [] (nB x0 0 []) (aT (aC (aQ aq x0.Terms) aN)) ?_;refine aR H fun R0 h0 H0 => ?_;refine pJ 1 (sr) R0 ?_ (fun u0 e0 => ?_)
 ·refine pC (nB x0) h0 (fun i0 s0 h1 e1 => ?_) (fun i0 s0 h2 q0 h3 h4 => ?_)
  ·have c0:=lF i0 x0.Terms.length (by omega);subst e1;exact pB 5 [r0 [.e bF]] [.only [2,3] [17]] (sr s0) (aB c0 aN)
  ·have c1:=lT i0 x0.Terms.length (by omega);refine aL h3 fun g0 H1 => ?_;refine bO 7 (ps:=[(x0.Terms.map aq).length≤9223372036854775807]) (by kernel_rfl) (fun l0 => ?_);have l1:x0.Terms.length≤9223372036854775807:=by simpa only [cu,MM] using l0
   clear l0;obtain rfl:=sI H1;exact pB 11 [r0 [.e bT],r0 [.e (.dptr (aq (x0.Terms.getD i0 ay))),.v,.m,.m],r0 [.v,.v,.v,.b,.ap,.rwH 17 (.row 9 1 ((s0++[((x0.Terms.getD i0 ay).Var)]).map bq)),.v],V2] [.only [2,3,7,8,9] [17]] (nB x0 (i0+1) (s0++[((x0.Terms.getD i0 ay).Var)])) (aB c1 (aI aZ x0.Terms i0 ay (bp (tT (c:=bq) tQ s0 [((x0.Terms.getD i0 ay).Var)] 16 (by decide) (by first | (simp;done) | simpa using g0)) (aC (wA 9 1 bq s0 [((x0.Terms.getD i0 ay).Var)]) (aH i0 aN)))))
 ·subst e0;have H2:=a8 H0;refine bZ H2 fun e2 => ?_;subst e2;exact pR 3 [V2] [.fz 17] [] aN
noncomputable def bB (x0:List Linear):Option (List aJ) :=
 (dn (σ:=(List (aJ×Bool))) (ε:=(List (aJ×Bool))) (ρ:=Empty) (fun i0 s0 =>
  (jJ (Linear.mk ((x0.getD i0 aG).Const) ((x0.getD i0 aG).Terms))).bind fun y0 =>
  (dn (σ:=(List (aJ×Bool))) (ε:=(List (aJ×Bool))) (ρ:=Empty) (fun i1 s1 =>
   some (.go (bW (y0.getD i1 []) true s1))
  ) (fun i1 s1=>s1) (y0.length-0) 0 s0).bind <| ca fun u0 =>
  some (.go u0)
 ) (fun i0 s0=>s0) (x0.length-0) 0 []).bind <| ca fun u1 =>
 nL (σ:=(List aJ)) (ε:=Empty) (β:=(List aJ)) u1 (fun e0 s2 =>
  bf ((s2.length+1)*16≤140737488355328) <|
  some (.go (s2++[e0.1]))
 ) [] (fun s2 =>
  (lp s2).bind fun y1 =>
  some y1
 )
def gj (x0:List Linear) (i0:Nat) (s0:List (aJ×Bool)):AS:=⟨41,[(2,.eslice),(3,.amap 10),(11,dS aw x0),(12,nI x0.length),(13,nI i0)],[(10,.smap 0 4 (s0.map (lC ox)))]⟩
def jZ (u2:List (aJ×Bool)):AS:=⟨41,[(2,.eslice),(3,.amap 10)],[(10,.smap 0 4 (u2.map (lC ox)))]⟩
def gb (x0:List Linear) (i0:Nat) (y0:List aJ) (i1:Nat) (s1:List (aJ×Bool)):AS:=⟨41,[(2,.eslice),(3,.amap 10),(11,dS aw x0),(12,nI x0.length),(13,nI i0),(18,dS bq y0),(19,nI y0.length),(20,nI i1)],[(10,.smap 0 4 (s1.map (lC ox)))]⟩
def j8 (x0:List Linear) (i0:Nat) (u3:List (aJ×Bool)):AS:=⟨41,[(2,.eslice),(3,.amap 10),(11,dS aw x0),(12,nI x0.length),(13,nI i0)],[(10,.smap 0 4 (u3.map (lC ox)))]⟩
def gm (u1:List (aJ×Bool)) (i2:List Nat) (s2:List aJ):AS:=⟨41,[(2,.eslice),(8,.rslice 37),(29,.hptr 29 0)],[(29,.iter (u1.map (lC ox)) i2),(37,.row 9 1 (s2.map bq))]⟩
theorem dp (x0:List Linear) (r:List aJ) (H:bB x0=some r):bG Tryz.prog 31 [dS aw x0] (dS bq r):=by
 unfold bB at H;refine aX Tryz.func31 41 [.tmp 2] ?_;refine pA 8 [V1,r0 [.m,.v],r0 [.v,.e (nI x0.length),.v]] [.only [2,3,11,12,13] [10]] 8 [] (gj x0 0 []) (aT (aC (aQ aw x0) aN)) ?_;refine aR H fun R0 h0 H0 => ?_;refine pJ 1 (jZ) R0 ?_ (fun u1 e1 => ?_)
 ·refine pC (gj x0) h0 (fun i0 s0 h1 e2 => ?_) (fun i0 s0 h2 q0 h3 h4 => ?_)
  ·have c0:=lF i0 x0.length (by omega);subst e2;exact pB 5 [r0 [.e bF]] [.only [2,3] [10]] (jZ s0) (aB c0 aN)
  ·have c1:=lT i0 x0.length (by omega);refine aR h3 fun y0 h5 H1 => ?_;refine pA 12 [r0 [.e bT],r0 [.e (.dptr (aw (x0.getD i0 aG))),.v,.m,.m],r0 [.v,.c true (dS bq y0),.e (nI y0.length),.v]] [.only [2,3,11,12,13,18,19,20] [10]] 12 [true] (gb x0 i0 y0 0 s0) (aB c1 (aI bo x0 i0 aG (aC Tryz.call62 (aF (za _ _ h5) (aT (aC (aQ bq y0) aN)))))) ?_;refine aR H1 fun R1 h6 H2 => ?_;refine pJ 2 (j8 x0 i0) R1 ?_ (fun u0 e3 => ?_)
   ·refine pC (gb x0 i0 y0) h6 (fun i1 s1 h7 e4 => ?_) (fun i1 s1 h8 q1 h9 h10 => ?_)
    ·have c2:=lF i1 y0.length (by omega);subst e4;exact pB 5 [r0 [.e bF]] [.only [2,3,11,12,13] [10]] (j8 x0 i0 s1) (aB c2 aN)
    ·have c3:=lT i1 y0.length (by omega);refine bO 18 (ps:=[(y0.map bq).length≤9223372036854775807]) (by kernel_rfl) (fun l0 => ?_);have l1:y0.length≤9223372036854775807:=by simpa only [cu,MM] using l0
     clear l0;obtain rfl:=sI h9;exact pB 11 [r0 [.e bT],r0 [.e (.dptr [.str (y0.getD i1 [])]),.v,.v],r0 [.v,.v,.m,.rwH 10 (.smap 0 4 ((bW (y0.getD i1 []) true s1).map (lC ox)))],V2] [.only [2,3,11,12,13,18,19,20] [10]] (gb x0 i0 y0 (i1+1) (bW (y0.getD i1 []) true s1)) (aB c3 (aI mY y0 i1 [] (aC (congrArg (AO.smap 0 4) (kP (c:=ox) (y0.getD i1 []) true s1)) (aH i1 aN))))
   ·subst e3;have H3:=a8 H2;refine bO 11 (ps:=[(x0.map aw).length≤9223372036854775807]) (by kernel_rfl) (fun l2 => ?_);have l3:x0.length≤9223372036854775807:=by simpa only [cu,MM] using l2
    clear l2;obtain rfl:=sI H3;exact pB 1 [V2] [.only [2,3,11,12,13] [10]] (gj x0 (i0+1) u0) (aH i0 aN)
 ·subst e1;have H4:=a8 H0;refine pA 6 [V1,r0 [.v,.fm 10,.m]] [.er 8 37 9 1,.only [2,8,29] [29,37]] 6 [] (gm u1 [] []) (aC (wH HQ u1) aN) ?_;refine sw (cc:=ox) 29 (gm u1) (by kernel_rfl) H4 [.v] (fun i2 s2=>⟨by kernel_rfl,by kernel_rfl⟩) (fun i2 s2=>⟨41,[(2,.eslice),(8,.rslice 37),(29,.hptr 29 0),(30,.tup [.bool false]),(31,.bool false)],[(29,.iter (u1.map (lC ox)) i2),(37,.row 9 1 (s2.map bq))]⟩) (fun i2 s2=>by kernel_rfl) (fun i2 s2 n0 e0=>⟨41,[(2,.eslice),(8,.rslice 37),(29,.hptr 29 0),(30,.tup [.bool true,.str e0.1,.bool e0.2]),(31,.bool true)],[(29,.iter (u1.map (lC ox)) (i2++[n0])),(37,.row 9 1 (s2.map bq))]⟩) (fun i2 s2 n0 e0=>by kernel_rfl) (fun i2 s2 H5 => ?_) (fun i2 s2 n0 e0 h11 q2 h12 h13 => ?_)
  ·refine aR H5 fun y1 h14 H6 => ?_;refine bZ H6 fun e5 => ?_;subst e5;exact pR 8 [r0 [.v,.hR [(37,1000)] 39 (.tup []) [(1000,.row 9 1 (y1.map bq))]],V2] [.fz 37] [] (aC Tryz.call63 (aC (xh s2 y1 h14) aN))
  ·refine aL h12 fun g0 H7 => ?_;obtain rfl:=sI H7;exact pB 7 [r0 [.en n0 (.tup [.str e0.1,.bool e0.2]),.v,.v],r0 [.v,.v,.b,.ap,.rwH 37 (.row 9 1 ((s2++[e0.1]).map bq)),.v]] [.only [2,8,29] [29,37]] (gm u1 (i2++[n0]) (s2++[e0.1])) (aC (kH i2 n0) (aC (yk (cc:=ox) h11) (bp (tT (c:=bq) tQ s2 [e0.1] 16 (by decide) (by first | (simp;done) | simpa using g0)) (aC (wA 9 1 bq s2 [e0.1]) aN))))
def dP (x0:aJ):Option Int :=
 (dO x0 [95]).bind fun y0 =>
 bif y0 then (
  bf (1≤x0.length) <|
  (nQ (x0.drop 1)).bind fun y1 =>
  some y1.1
 ) else (
  some 0
 )
theorem ki (x0:aJ) (r:Int) (H:dP x0=some r):bG Tryz.prog 56 [.str x0] (iI r):=by
 unfold dP at H;refine aX Tryz.func56 15 [.tmp 2] ?_;refine aR H fun y0 h0 H0 => ?_;refine aV H0 (fun c0 H1 => ?_) (fun c1 H2 => ?_)
 ·refine aL H1 fun g0 H3 => ?_;refine aR H3 fun y1 h1 H4 => ?_;obtain rfl:=sI H4;exact pR 13 [V1,r0 [.v,.c true (.bool y0),.v],.eqT 7 bF,r0 [.v,.e (.str (x0.drop 1)),.cf true (.tup [iI y1.1,yQ 190 y1.2]),.v,.v,.v,.v,.v],V2] [] [] (aC Tryz.call88 (aF (fJ _ _ _ h0) (aT (aM c0 (aC (show (0:Int)≤1∧1≤(x0.length:Int)∧(x0.length:Int)≤(x0.length:Int) from by omega) (aC (AJ x0 1) (aC Tryz.call89 (aF (yB (x0.drop 1) y1 h1) (aC (show wY true (.tup [iI y1.1,yQ 190 y1.2])=true from by cases h2:y1.2<;>rfl) aN)))))))))
 ·obtain rfl:=sI H2;exact pR 10 [V1,r0 [.v,.c true (.bool y0),.v],.eqT 7 bT,V1] [] [] (aC Tryz.call88 (aF (fJ _ _ _ h0) (aT (aM c1 aN))))
noncomputable def cy (x0:List Linear):Option Int :=
 (bB x0).bind fun y0 =>
 (dn (σ:=Int) (ε:=Int) (ρ:=Empty) (fun i0 s0 =>
  (dP (y0.getD i0 [])).bind fun y1 =>
  some (.go (if y1>s0 then y1 else s0))
 ) (fun i0 s0=>s0) (y0.length-0) 0 0).bind <| ca fun u0 =>
 some u0
def gK (y0:List aJ) (i0:Nat) (s0:Int):AS:=⟨19,[(2,iI 0),(3,iI s0),(7,dS bq y0),(8,nI y0.length),(9,nI i0)],[]⟩
def kB (u1:Int):AS:=⟨19,[(2,iI 0),(3,iI u1)],[]⟩
theorem lD (x0:List Linear) (r:Int) (H:cy x0=some r):bG Tryz.prog 28 [dS aw x0] (iI r):=by
 unfold cy at H;refine aX Tryz.func28 19 [.tmp 2] ?_;refine aR H fun y0 h0 H0 => ?_;refine pA 8 [V1,V1,r0 [.v,.c true (dS bq y0),.e (nI y0.length),.v]] [.only [2,3,7,8,9] []] 8 [] (gK y0 0 0) (aC Tryz.call31 (aF (dp _ _ h0) (aT (aC (aQ bq y0) aN)))) ?_;refine aR H0 fun R0 h1 H1 => ?_;refine pJ 1 (kB) R0 ?_ (fun u0 e0 => ?_)
 ·refine pC (gK y0) h1 (fun i0 s0 h2 e1 => ?_) (fun i0 s0 h3 q0 h4 h5 => ?_)
  ·have c0:=lF i0 y0.length (by omega);subst e1;exact pB 5 [r0 [.e bF]] [.only [2,3] []] (kB s0) (aB c0 aN)
  ·have c1:=lT i0 y0.length (by omega);refine aR h4 fun y1 h6 H2 => ?_;refine bO 7 (ps:=[(y0.map bq).length≤9223372036854775807]) (by kernel_rfl) (fun l0 => ?_);have l1:y0.length≤9223372036854775807:=by simpa only [cu,MM] using l0
   clear l0;obtain rfl:=sI H2;exact pB 11 [r0 [.e bT],r0 [.e (.dptr [.str (y0.getD i0 [])]),.v,.v],r0 [.v,.v,.c true (iI y1),.v,.v],V2] [.only [2,3,7,8,9] []] (gK y0 (i0+1) (if y1>s0 then y1 else s0)) (aB c1 (aI mY y0 i0 [] (aC Tryz.call56 (aF (ki _ _ h6) (aT (aH i0 aN))))))
 ·subst e0;have H3:=a8 H1;refine bZ H3 fun e2 => ?_;subst e2;exact pR 3 [V2] [] [] aN
def eF (x0:Linear):Option Bool :=
 bif (((x0.Terms.length:Nat):Int)==0) then (
  some (x0.Const==0)
 ) else (
  some false
 )
theorem uQ (x0:Linear) (r:Bool) (H:eF x0=some r):bG Tryz.prog 29 [.agg [iI x0.Const,dS aq x0.Terms]] (.bool r):=by
 unfold eF at H;refine aX Tryz.func29 12 [.tmp 2] ?_;refine aV H (fun c0 H0 => ?_) (fun c1 H1 => ?_)
 ·obtain rfl:=sI H0;exact pR 5 [r0 [.m,.v],r0 [.v,.v,.e (nI x0.Terms.length),.e bT,.v,.v,.v,.v,.v,.v]] [] [] (aT (aC (aQ aq x0.Terms) (aB c0 aN)))
 ·obtain rfl:=sI H1;exact pR 5 [r0 [.m,.v],r0 [.v,.v,.e (nI x0.Terms.length),.e bF,.v,.s,.s,.s,.v,.v]] [] [] (aT (aC (aQ aq x0.Terms) (aB c1 aN)))
def hZ (x0:Linear):Option Int :=
 (cb x0).bind fun y0 =>
 bif y0 then (
  (dn (σ:=Int) (ε:=Int) (ρ:=Empty) (fun i0 s0 =>
   (gn (σ:=(Int×Int)) (ε:=Int) (ρ:=Empty) (fun s1 =>
    bif (s1.2==0) then (
     some (.brk s1.1)
    ) else (
     bf ((s1.2:Int)≠0) <|
     some (.go (s1.2,(s1.1.tmod s1.2)))
    )
   ) 4294967296 (s0,(if (aK (0-((x0.Terms.getD i0 ay).C)))>((x0.Terms.getD i0 ay).C) then (aK (0-((x0.Terms.getD i0 ay).C))) else ((x0.Terms.getD i0 ay).C)))).bind <| ca fun u0 =>
   some (.go u0)
  ) (fun i0 s0=>s0) (x0.Terms.length-0) 0 0).bind <| ca fun u1 =>
  some u1
 ) else (
  some 0
 )
def kl (x0:Linear) (i0:Nat) (s0:Int):AS:=⟨34,[(2,iI 0),(3,iI s0),(12,dS aq x0.Terms),(13,nI x0.Terms.length),(14,nI i0)],[]⟩
def ou (u2:Int):AS:=⟨34,[(2,iI 0),(3,iI u2)],[]⟩
def jX (x0:Linear) (i0:Nat) (s0:Int) (s1:Int×Int):AS:=⟨34,[(2,iI 0),(3,iI s0),(6,iI s1.1),(7,iI s1.2),(12,dS aq x0.Terms),(13,nI x0.Terms.length),(14,nI i0)],[]⟩
def oG (x0:Linear) (i0:Nat) (s0 u3:Int):AS:=⟨34,[(2,iI 0),(3,iI s0),(6,iI u3),(12,dS aq x0.Terms),(13,nI x0.Terms.length),(14,nI i0)],[]⟩
theorem vH (x0:Linear) (r:Int) (H:hZ x0=some r):bG Tryz.prog 57 [.agg [iI x0.Const,dS aq x0.Terms]] (iI r):=by
 unfold hZ at H;refine aX Tryz.func57 34 [.tmp 2] ?_;refine aR H fun y0 h0 H0 => ?_;refine aV H0 (fun c0 H1 => ?_) (fun c1 H2 => ?_)
 ·refine pA 14 [.rg 0 [] [.m,.v],.rg 0 [] [.v],.rg 0 [] [.v,.c true (.bool y0),.v],.eqT 10 bF,.rg 0 [] [.v,.v,.e (.int .i64 ((x0.Terms.length:Nat):Int)),.v]] [.only [2,3,12,13,14] []] 13 [false] (kl x0 0 0) (aC Tryz.call50 (aF (b8 _ _ h0) (aT (aM c0 (aT (aC (aQ aq x0.Terms) aN)))))) ?_;refine aR H1 fun R0 h1 H3 => ?_;refine pJ 1 (ou) R0 ?_ (fun u1 e0 => ?_)
  ·refine pC (kl x0) h1 (fun i0 s0 h2 e1 => ?_) (fun i0 s0 h3 q0 h4 h5 => ?_)
   ·have c2:=lF i0 x0.Terms.length (by omega);subst e1;exact pB 5 [r0 [.e bF]] [.only [2,3] []] (ou s0) (aB c2 aN)
   ·have c3:=lT i0 x0.Terms.length (by omega);refine pA 13 [r0 [.e bT],r0 [.e (.dptr (aq (x0.Terms.getD i0 ay))),.v,.m,.m],.rg 8 (V 5 [.w,.v,.v]) [.v]] [.only [2,3,6,7,12,13,14] []] 13 [true] (jX x0 i0 s0 (s0,(if (aK (0-((x0.Terms.getD i0 ay).C)))>((x0.Terms.getD i0 ay).C) then (aK (0-((x0.Terms.getD i0 ay).C))) else ((x0.Terms.getD i0 ay).C)))) (aB c3 (aI aZ x0.Terms i0 ay (aT aN))) ?_;refine aR h4 fun R1 h6 H4 => ?_;refine pJ 1 (oG x0 i0 s0) R1 ?_ (fun u0 e2 => ?_)
    ·refine lB (jX x0 i0 s0) (by kernel_rfl) h6 (fun s1 q1 h7 h8 => ?_)
     ·refine aV h7 (fun c4 H5 => ?_) (fun c5 H6 => ?_)
      ·obtain rfl:=sI H5;obtain rfl:=dM h8;exact pB 6 [V2,.eqT 26 bF] [.only [2,3,6,12,13,14] []] (oG x0 i0 s0 s1.1) (aM c4 aN)
      ·refine aL H6 fun g0 H7 => ?_;obtain rfl:=sI H7;exact pB 8 [V2,.eqT 26 bT,.rg 5 (V 5 []) [.v]] [.only [2,3,6,7,12,13,14] []] (jX x0 i0 s0 (s1.2,(s1.1.tmod s1.2))) (aM c5 (aC (show (s1.2:Int)≠0 from g0) aN))
    ·subst e2;have H8:=a8 H4;refine bO 12 (ps:=[(x0.Terms.map aq).length≤9223372036854775807]) (by kernel_rfl) (fun l0 => ?_);have l1:x0.Terms.length≤9223372036854775807:=by simpa only [cu,MM] using l0
     clear l0;obtain rfl:=sI H8;exact pB 2 [V2,V2] [.only [2,3,12,13,14] []] (kl x0 (i0+1) u0) (aH i0 aN)
  ·subst e0;have H9:=a8 H3;refine bZ H9 fun e3 => ?_;subst e3;exact pR 3 [V2] [] [] aN
 ·obtain rfl:=sI H2;exact pR 12 [r0 [.m,.v],V1,r0 [.v,.c true (.bool y0),.v],.eqT 10 bT,V1] [] [] (aC Tryz.call50 (aF (b8 _ _ h0) (aT (aM c1 aN))))
def fy (x0:List Int):Option Bool :=
 (dn (σ:=Unit) (ε:=Unit) (ρ:=Bool) (fun i0 s0 =>
  bif decide ((x0.getD i0 0)<(-4611686018427387904)) then (
   some (.ret false)
  ) else (
   bif decide ((x0.getD i0 0)>4611686018427387904) then (
    some (.ret false)
   ) else (
    some (.go ())
   )
  )
 ) (fun i0 s0=>()) (x0.length-0) 0 ()).bind <| aft fun u0 =>
 some true
def o9 (x0:List Int) (i0:Nat) (s0:Unit):AS:=⟨18,[(2,.bool false),(5,dS ao x0),(6,nI x0.length),(7,nI i0)],[]⟩
def th (u1:Unit):AS:=⟨18,[(2,.bool false)],[]⟩
theorem bX (x0:List Int) (r:Bool) (H:fy x0=some r):bG Tryz.prog 80 [dS ao x0] (.bool r):=by
 unfold fy at H;refine aX Tryz.func80 18 [.tmp 2] ?_;refine pA 6 [V1,r0 [.v,.e (nI x0.length),.v]] [.only [2,5,6,7] []] 6 [] (o9 x0 0 ()) (aT (aC (aQ ao x0) aN)) ?_;refine aR H fun R0 h0 H0 => ?_;refine pJ 1 (th) R0 ?_ (fun u0 e0 => ?_)
 ·refine pC (o9 x0) h0 (fun i0 s0 h1 e1 => ?_) (fun i0 s0 h2 q0 h3 h4 => ?_)
  ·have c0:=lF i0 x0.length (by omega);subst e1;exact pB 5 [r0 [.e bF]] [.only [2] []] (th ()) (aB c0 aN)
  ·have c1:=lT i0 x0.length (by omega);refine aV h3 (fun c2 H1 => ?_) (fun c3 H2 => ?_)
   ·have c2p:=MJ c2;obtain rfl:=sI H1;obtain rfl:=aW h4;obtain rfl:=sI (aP H0);exact pR 15 [r0 [.e bT],r0 [.e (.dptr [iI (x0.getD i0 0)]),.v,.v],r0 [.v,.e bT,.v,.s,.s,.v],V1] [] [] (aB c1 (aI bK x0 i0 0 (aB c2 aN)))
   ·have c3p:=MI c3;refine aV H2 (fun c4 H3 => ?_) (fun c5 H4 => ?_)
    ·have c4p:=MJ c4;obtain rfl:=sI H3;obtain rfl:=aW h4;obtain rfl:=sI (aP H0);exact pR 16 [r0 [.e bT],r0 [.e (.dptr [iI (x0.getD i0 0)]),.v,.v],r0 [.v,.e bF,.v,.v,.v,.v],.eqT 16 bT,V1] [] [] (aB c1 (aI bK x0 i0 0 (aB c3 (aB c4 aN))))
    ·have c5p:=MI c5;refine bO 5 (ps:=[(x0.map ao).length≤9223372036854775807]) (by kernel_rfl) (fun l0 => ?_);have l1:x0.length≤9223372036854775807:=by simpa only [cu,MM] using l0
     clear l0;obtain rfl:=sI H4;exact pB 15 [r0 [.e bT],r0 [.e (.dptr [iI (x0.getD i0 0)]),.v,.v],r0 [.v,.e bF,.v,.v,.v,.v],.eqT 16 bF,V2] [.only [2,5,6,7] []] (o9 x0 (i0+1) ()) (aB c1 (aI bK x0 i0 0 (aB c3 (aB c5 (aH i0 aN)))))
 ·subst e0;have H5:=bl H0;obtain rfl:=sI H5;exact pR 3 [V1] [] [] aN
def cO (x0:Int):Option Int :=
 bif decide (x0<0) then (
  some (aK (0-x0))
 ) else (
  some x0
 )
theorem cY (x0 r:Int) (H:cO x0=some r):bG Tryz.prog 91 [iI x0] (iI r):=by
 unfold cO at H;refine aX Tryz.func91 8 [.tmp 2] ?_;refine aV H (fun c0 H0 => ?_) (fun c1 H1 => ?_)
 ·obtain rfl:=sI H0;exact pR 10 [V1,V2,.eqT 4 bT,r0 [.v,.w,.v]] [] [] (aB c0 aN)
 ·refine bZ H1 fun e0 => ?_;subst e0;exact pR 11 [V1,V2,.eqT 4 bF,V2] [] [] (aB c1 aN)
def fi (x0 x1:Int):Option (Int×Int) :=
 (fy [x0,x1]).bind fun y0 =>
 bif y0 then (
  (cO x0).bind fun y1 =>
  (cO x1).bind fun y2 =>
  (mA (IntKind.wrap .u64 y1) (IntKind.wrap .u64 y2)).bind fun y3 =>
  bif decide (y3.1>0) then (
   some (0,2)
  ) else (
   bif decide (y3.2>4611686018427387904) then (
    some (0,2)
   ) else (
    bif (decide (x0<0)==decide (x1<0)) then (
     some ((IntKind.wrap .i64 y3.2),0)
    ) else (
     some ((aK (0-(IntKind.wrap .i64 y3.2))),0)
    )
   )
  )
 ) else (
  some (0,2)
 )
theorem iU (x0 x1:Int) (r:Int×Int) (H:fi x0 x1=some r):bG Tryz.prog 58 [iI x0,iI x1] (.tup [iI r.1,iI r.2]):=by
 unfold fi at H;refine aX Tryz.func58 39 [.tmp 4,.tmp 5] ?_;refine aR H fun y0 h0 H0 => ?_;refine aV H0 (fun c0 H1 => ?_) (fun c1 H2 => ?_)
 ·refine aR H1 fun y1 h1 H3 => ?_;refine aR H3 fun y2 h2 H4 => ?_;refine aR H4 fun y3 h3 H5 => ?_;refine pD 12 [V2,r0 [.v,.v,.b,.c true (.bool y0),.v],.eqT 12 bF,r0 [.v,.c true (iI y1),.v,.v,.c true (iI y2),.v,.c true (.tup [.int .u64 y3.1,.int .u64 y3.2]),.v,.v,.v,.v,.v]] [.only [0,1,4,5,6,7] []] 11 [false] (aC Tryz.call80 (aF (bX _ _ h0) (aT (aM c0 (aC Tryz.call91 (aF (cY _ _ h1) (aT (aC Tryz.call91 (aF (cY _ _ h2) (aT (aC Tryz.call90 (aF (sa (IntKind.wrap .u64 y1) (IntKind.wrap .u64 y2) y3 h3) aN)))))))))))) ?_;refine aV H5 (fun c2 H6 => ?_) (fun c3 H7 => ?_)
  ·obtain rfl:=sI H6;exact pR 5 [r0 [.v,.e bT,.v,.s,.s,.v],V2] [] [] (aB c2 aN)
  ·refine aV H7 (fun c4 H8 => ?_) (fun c5 H9 => ?_)
   ·obtain rfl:=sI H8;exact pR 6 [r0 [.v,.e bF,.v,.v,.v,.v],.eqT 28 bT,V2] [] [] (aB c3 (aB c4 aN))
   ·refine aV H9 (fun c6 H10 => ?_) (fun c7 H11 => ?_)
    ·obtain rfl:=sI H10;exact pR 13 [r0 [.v,.e bF,.v,.v,.v,.v],.eqT 28 bF,V5,.eqT 33 bF,V4] [] [] (aB c3 (aB c5 (aM c6 (aT aN))))
    ·obtain rfl:=sI H11;exact pR 12 [r0 [.v,.e bF,.v,.v,.v,.v],.eqT 28 bF,V5,.eqT 33 bT,r0 [.v,.v,.w,.v,.v]] [] [] (aB c3 (aB c5 (aM c7 (aT aN))))
 ·obtain rfl:=sI H2;exact pR 10 [V2,r0 [.v,.v,.b,.c true (.bool y0),.v],.eqT 12 bT,V2] [] [] (aC Tryz.call80 (aF (bX _ _ h0) (aT (aM c1 aN))))
def bY (x0 x1:Int):Option Bool :=
 bif (x1==0) then (
  bif decide (x0≥(-1099511627776)) then (
   some (decide (x0≤1099511627776))
  ) else (
   some false
  )
 ) else (
  some false
 )
theorem dc (x0 x1:Int) (r:Bool) (H:bY x0 x1=some r):bG Tryz.prog 45 [iI x0,iI x1] (.bool r):=by
 unfold bY at H;refine aX Tryz.func45 15 [.tmp 4] ?_;refine aV H (fun c0 H0 => ?_) (fun c1 H1 => ?_)
 ·refine aV H0 (fun c2 H2 => ?_) (fun c3 H3 => ?_)
  ·obtain rfl:=sI H2;exact pR 5 [V1,r0 [.v,.e bT,.v,.v,.e bT,.v,.v,.v,.v,.v,.v]] [] [] (aB c0 (aB c2 aN))
  ·obtain rfl:=sI H3;exact pR 5 [V1,r0 [.v,.e bT,.v,.v,.e bF,.v,.v,.s,.s,.v,.v]] [] [] (aB c0 (aB c3 aN))
 ·obtain rfl:=sI H1;exact pR 5 [V1,r0 [.v,.e bF,.v,.s,.s,.v,.v,.s,.s,.v,.v]] [] [] (aB c1 aN)
def dY (x0 x1:au):Option Int :=
 bif ((if (aK (0-x0.C))>x0.C then (aK (0-x0.C)) else x0.C)==(if (aK (0-x1.C))>x1.C then (aK (0-x1.C)) else x1.C)) then (
  (dP x0.Var).bind fun y0 =>
  (dP x1.Var).bind fun y1 =>
  bif (y0==y1) then (
   (sk x1.Var x0.Var).bind fun y2 =>
   some y2
  ) else (
   some (aK (y1-y0))
  )
 ) else (
  some (aK ((if (aK (0-x0.C))>x0.C then (aK (0-x0.C)) else x0.C)-(if (aK (0-x1.C))>x1.C then (aK (0-x1.C)) else x1.C)))
 )
theorem tw (x0 x1:au) (r:Int) (H:dY x0 x1=some r):bG Tryz.prog 93 [.agg [.str x0.Var,iI x0.C],.agg [.str x1.Var,iI x1.C]] (iI r):=by
 unfold dY at H;refine aX Tryz.func93 44 [.tmp 4] ?_;refine aV H (fun c0 H0 => ?_) (fun c1 H1 => ?_)
 ·refine aR H0 fun y0 h0 H2 => ?_;refine aR H2 fun y1 h1 H3 => ?_;refine pD 15 [r0 [.m,.m,.v],.rg 13 (V 4 [.w,.v,.v,.v,.v,.v,.w,.v,.v]) [.v],V3,.eqT 23 bF,.rg 5 [.v,.v,.c true (iI y0),.v,.v] [.c true (iI y1),.v,.v],V3] [.only [2,3,4,7,8,35] [2,3]] 14 [false] (aT (aT (aM c0 (aC Tryz.call56 (aF (ki _ _ h0) (aC Tryz.call56 (aF (ki _ _ h1) aN))))))) ?_;refine aV H3 (fun c2 H4 => ?_) (fun c3 H5 => ?_)
  ·refine aR H4 fun y2 h2 H6 => ?_;refine bZ H6 fun e0 => ?_;subst e0;exact pR 6 [.eqT 35 bF,r0 (V 4 [.c true (iI y2),.v])] [] [] (aM c2 (aC Tryz.call35 (aF (yG x1.Var x0.Var y2 h2) aN)))
  ·obtain rfl:=sI H5;exact pR 5 [.eqT 35 bT,r0 [.v,.v,.w,.v]] [] [] (aM c3 aN)
 ·obtain rfl:=sI H1;exact pR 12 [r0 [.m,.m,.v],.rg 13 (V 4 [.w,.v,.v,.v,.v,.v,.w,.v,.v]) [.v],V3,.eqT 23 bT,r0 [.v,.v,.w,.v]] [] [] (aT (aT (aM c1 aN)))
def dH (x0:List au):Option au :=
 bif decide (((x0.length:Nat):Int)<1) then (
  none
 ) else (
  bf (0<x0.length) <|
  (dn (σ:=(aJ×Int)) (ε:=(aJ×Int)) (ρ:=Empty) (fun i0 s0 =>
   (dY (au.mk ((x0.getD i0 ay).Var) ((x0.getD i0 ay).C)) (au.mk s0.1 s0.2)).bind fun y0 =>
   ((
    bif decide (y0<0) then (
     some (((x0.getD i0 ay).Var),((x0.getD i0 ay).C))
    ) else (
     some (s0.1,s0.2)
    )
   ):Option (aJ×Int)).bind fun v0 =>
   some (.go (v0.1,v0.2))
  ) (fun i0 s0=>(s0.1,s0.2)) (x0.length-1) 1 (((x0.getD 0 ay).Var),((x0.getD 0 ay).C))).bind <| ca fun u0 =>
  some (au.mk u0.1 u0.2)
 )
def eC (x0:List au) (i0:Nat) (s0:aJ×Int):AS:=⟨33,[(0,dS aq x0),(1,.fn 93 []),(4,.hptr 4 0),(5,.hptr 5 0),(6,nI i0)],[(4,.cells 88 [.str [],iI 0]),(5,.cells 88 [.str s0.1,iI s0.2])]⟩
def iu (u1:aJ×Int):AS:=⟨33,[(4,.hptr 4 0),(5,.hptr 5 0)],[(4,.cells 88 [.str [],iI 0]),(5,.cells 88 [.str u1.1,iI u1.2])]⟩
def eK (x0:List au) (i0:Nat) (v0:aJ×Int):AS:=⟨33,[(0,dS aq x0),(1,.fn 93 []),(4,.hptr 4 0),(5,.hptr 5 0),(6,nI i0)],[(4,.cells 88 [.str [],iI 0]),(5,.cells 88 [.str v0.1,iI v0.2])]⟩
theorem oq (x0:List au) (r:au) (H:dH x0=some r):bG Tryz.prog 92 [dS aq x0,.fn 93 []] (.agg [.str r.Var,iI r.C]):=by
 unfold dH at H;refine aX Tryz.func92 33 [.cell 4 88] ?_;refine aV H (fun c0 H0 => ?_) (fun c1 H1 => ?_)
 ·cases H0
 ·have c1p:=MI c1;refine aL H1 fun g0 H2 => ?_;refine pA 14 [r0 [.m],r0 [.v,.e (nI x0.length),.v],.eqT 9 bF,r0 [.v,.e (.dptr (aq (x0.getD 0 ay))),.v,.m,.m],V1] [.only [0,1,4,5,6] [4,5]] 13 [false] (eC x0 1 (((x0.getD 0 ay).Var),((x0.getD 0 ay).C))) (aT (aC (aQ aq x0) (aB c1 (aI aZ x0 0 ay aN)))) ?_;refine aR H2 fun R0 h0 H3 => ?_;refine pJ 1 (iu) R0 ?_ (fun u0 e0 => ?_)
  ·refine pC (eC x0) h0 (fun i0 s0 h1 e1 => ?_) (fun i0 s0 h2 q0 h3 h4 => ?_)
   ·have c2:=lF i0 x0.length (by omega);subst e1;exact pB 5 [r0 [.v,.v,.e (nI x0.length),.e bF]] [.only [4,5] [4,5]] (iu (s0.1,s0.2)) (aT (aC (aQ aq x0) (aB c2 aN)))
   ·have c3:=lT i0 x0.length (by omega);refine aR h3 fun y0 h5 H4 => ?_;refine pD 9 [r0 [.v,.v,.e (nI x0.length),.e bT],.rg 6 [.v,.v,.v,.e (.dptr (aq (x0.getD i0 ay))),.v,.v] [.c true (iI y0),.v]] [.only [0,1,4,5,6,27] [4,5]] 9 [true] (aT (aC (aQ aq x0) (aB c3 (aI aZ x0 i0 ay (aC Tryz.call93 (aF (tw _ _ _ h5) aN)))))) ?_;refine aR H4 fun v0 h6 H5 => ?_;refine bV 1 (eK x0 i0 v0) (by kernel_rfl) ?_ ?_
    ·refine aV h6 (fun c4 H6 => ?_) (fun c5 H7 => ?_)
     ·have c4p:=MJ c4;obtain rfl:=sI H6;exact pB 3 [.eqT 27 bT,r0 [.v,.v,.e (.dptr (aq (x0.getD i0 ay))),.v,.m]] [.only [0,1,4,5,6] [4,5]] (eK x0 i0 (((x0.getD i0 ay).Var),((x0.getD i0 ay).C))) (aB c4 (aI aZ x0 i0 ay aN))
     ·obtain rfl:=sI H7;exact pB 3 [.eqT 27 bF] [.only [0,1,4,5,6] [4,5]] (eK x0 i0 (s0.1,s0.2)) (aB c5 aN)
    ·refine bO 0 (ps:=[(x0.map aq).length≤9223372036854775807]) (by kernel_rfl) (fun l0 => ?_);have l1:x0.length≤9223372036854775807:=by simpa only [cu,MM] using l0
     clear l0;obtain rfl:=sI H5;exact pB 1 [V3] [.only [0,1,4,5,6] [4,5]] (eC x0 (i0+1) (v0.1,v0.2)) (aH i0 aN)
  ·subst e0;have H8:=a8 H3;obtain rfl:=sI H8;exact pR 3 [r0 [.v,.m]] [] [] aN
def fO (x0:Linear):Option au :=
 (dH x0.Terms).bind fun y0 =>
 some y0
theorem pE (x0:Linear) (r:au) (H:fO x0=some r):bG Tryz.prog 59 [.agg [iI x0.Const,dS aq x0.Terms]] (.agg [.str r.Var,iI r.C]):=by unfold fO at H;refine aX Tryz.func59 6 [.cell 2 88] ?_;refine aR H fun y0 h0 H0 => ?_;refine bZ H0 fun e0 => ?_;subst e0;exact pR 5 [r0 [.m,.m],r0 [.v,.v,.c true (.agg [.str y0.Var,iI y0.C]),.m]] [] [] (aC Tryz.call92 (aF (oq _ _ h0) aN))
def cU (x0:Linear) (x1:aJ):Option Int :=
 (dn (σ:=Unit) (ε:=Unit) (ρ:=Int) (fun i0 s0 =>
  bif (((x0.Terms.getD i0 ay).Var)==x1) then (
   some (.ret ((x0.Terms.getD i0 ay).C))
  ) else (
   some (.go ())
  )
 ) (fun i0 s0=>()) (x0.Terms.length-0) 0 ()).bind <| aft fun u0 =>
 some 0
def mK (x0:Linear) (x1:aJ) (i0:Nat) (s0:Unit):AS:=⟨21,[(1,.str x1),(4,iI 0),(8,dS aq x0.Terms),(9,nI x0.Terms.length),(10,nI i0)],[]⟩
def rp (u1:Unit):AS:=⟨21,[(4,iI 0)],[]⟩
theorem jb (x0:Linear) (x1:aJ) (r:Int) (H:cU x0 x1=some r):bG Tryz.prog 46 [.agg [iI x0.Const,dS aq x0.Terms],.str x1] (iI r):=by
 unfold cU at H;refine aX Tryz.func46 21 [.tmp 4] ?_;refine pA 6 [r0 [.m,.v],r0 [.v,.v,.e (nI x0.Terms.length),.v]] [.only [1,4,8,9,10] []] 6 [] (mK x0 x1 0 ()) (aT (aC (aQ aq x0.Terms) aN)) ?_;refine aR H fun R0 h0 H0 => ?_;refine pJ 1 (rp) R0 ?_ (fun u0 e0 => ?_)
 ·refine pC (mK x0 x1) h0 (fun i0 s0 h1 e1 => ?_) (fun i0 s0 h2 q0 h3 h4 => ?_)
  ·have c0:=lF i0 x0.Terms.length (by omega);subst e1;exact pB 5 [r0 [.e bF]] [.only [4] []] (rp ()) (aB c0 aN)
  ·have c1:=lT i0 x0.Terms.length (by omega);refine aV h3 (fun c2 H1 => ?_) (fun c3 H2 => ?_)
   ·obtain rfl:=sI H1;obtain rfl:=aW h4;obtain rfl:=sI (aP H0);exact pR 16 [r0 [.e bT],r0 [.e (.dptr (aq (x0.Terms.getD i0 ay))),.v,.m,.m],V4,.eqT 17 bT,V3] [] [] (aB c1 (aI aZ x0.Terms i0 ay (aB c2 aN)))
   ·refine bO 8 (ps:=[(x0.Terms.map aq).length≤9223372036854775807]) (by kernel_rfl) (fun l0 => ?_);have l1:x0.Terms.length≤9223372036854775807:=by simpa only [cu,MM] using l0
    clear l0;obtain rfl:=sI H2;exact pB 15 [r0 [.e bT],r0 [.e (.dptr (aq (x0.Terms.getD i0 ay))),.v,.m,.m],V4,.eqT 17 bF,V2] [.only [1,4,8,9,10] []] (mK x0 x1 (i0+1) ()) (aB c1 (aI aZ x0.Terms i0 ay (aB c3 (aH i0 aN))))
 ·subst e0;have H3:=bl H0;obtain rfl:=sI H3;exact pR 3 [V1] [] [] aN
def lG (x0 x1:Int):Option Int :=
 (cO x0).bind fun y0 =>
 (cO x1).bind fun y1 =>
 (gn (σ:=(Int×Int)) (ε:=Int) (ρ:=Empty) (fun s0 =>
  bif (s0.2==0) then (
   some (.brk s0.1)
  ) else (
   bf ((s0.2:Int)≠0) <|
   some (.go (s0.2,(s0.1.tmod s0.2)))
  )
 ) 4294967296 (y0,y1)).bind <| ca fun u0 =>
 some u0
def mX (s0:Int×Int):AS:=⟨16,[(0,iI s0.1),(1,iI s0.2),(4,iI 0)],[]⟩
def sf (u1:Int):AS:=⟨16,[(0,iI u1),(4,iI 0)],[]⟩
theorem yN (x0 x1 r:Int) (H:lG x0 x1=some r):bG Tryz.prog 166 [iI x0,iI x1] (iI r):=by
 unfold lG at H;refine aX Tryz.func166 16 [.tmp 4] ?_;refine aR H fun y0 h0 H0 => ?_;refine aR H0 fun y1 h1 H1 => ?_;refine pA 6 [V1,r0 [.v,.c true (iI y0),.v,.c true (iI y1),.v,.v]] [.only [0,1,4] []] 6 [] (mX (y0,y1)) (aC Tryz.call91 (aF (cY _ _ h0) (aC Tryz.call91 (aF (cY _ _ h1) aN)))) ?_;refine aR H1 fun R0 h2 H2 => ?_;refine pJ 1 (sf) R0 ?_ (fun u0 e0 => ?_)
 ·refine lB (mX) (by kernel_rfl) h2 (fun s0 q0 h3 h4 => ?_)
  ·refine aV h3 (fun c0 H3 => ?_) (fun c1 H4 => ?_)
   ·obtain rfl:=sI H3;obtain rfl:=dM h4;exact pB 6 [V2,.eqT 10 bF] [.only [0,4] []] (sf s0.1) (aM c0 aN)
   ·refine aL H4 fun g0 H5 => ?_;obtain rfl:=sI H5;exact pB 8 [V2,.eqT 10 bT,.rg 5 (V 5 []) [.v]] [.only [0,1,4] []] (mX (s0.2,(s0.1.tmod s0.2))) (aM c1 (aC (show (s0.2:Int)≠0 from g0) aN))
 ·subst e0;have H6:=a8 H2;refine bZ H6 fun e1 => ?_;subst e1;exact pR 3 [V2] [] [] aN
def ll (x0 x1:Int):Option (Int×Int) :=
 (fy [x0,x1]).bind fun y0 =>
 bif y0 then (
  bif (x0==0) then (
   some (0,0)
  ) else (
   bif (x1==0) then (
    some (0,0)
   ) else (
    (cO x0).bind fun y1 =>
    (lG x0 x1).bind fun y2 =>
    bf ((y2:Int)≠0) <|
    (cO x1).bind fun y3 =>
    (fi (aK (y1.tdiv y2)) y3).bind fun y4 =>
    some (y4.1,y4.2)
   )
  )
 ) else (
  some (0,2)
 )
theorem zb (x0 x1:Int) (r:Int×Int) (H:ll x0 x1=some r):bG Tryz.prog 132 [iI x0,iI x1] (.tup [iI r.1,iI r.2]):=by
 unfold ll at H;refine aX Tryz.func132 28 [.tmp 4,.tmp 5] ?_;refine aR H fun y0 h0 H0 => ?_;refine aV H0 (fun c0 H1 => ?_) (fun c1 H2 => ?_)
 ·refine aV H1 (fun c2 H3 => ?_) (fun c3 H4 => ?_)
  ·obtain rfl:=sI H3;exact pR 15 [V2,r0 [.v,.v,.b,.c true (.bool y0),.v],.eqT 10 bF,r0 [.v,.e bT,.v,.s,.s,.v],V2] [] [] (aC Tryz.call80 (aF (bX _ _ h0) (aT (aM c0 (aB c2 aN)))))
  ·refine aV H4 (fun c4 H5 => ?_) (fun c5 H6 => ?_)
   ·obtain rfl:=sI H5;exact pR 16 [V2,r0 [.v,.v,.b,.c true (.bool y0),.v],.eqT 10 bF,r0 [.v,.e bF,.v,.v,.v,.v],.eqT 16 bT,V2] [] [] (aC Tryz.call80 (aF (bX _ _ h0) (aT (aM c0 (aB c3 (aB c4 aN))))))
   ·refine aR H6 fun y1 h1 H7 => ?_;refine aR H7 fun y2 h2 H8 => ?_;refine aL H8 fun g0 H9 => ?_;refine aR H9 fun y3 h3 H10 => ?_;refine aR H10 fun y4 h4 H11 => ?_;obtain rfl:=sI H11;exact pR 17 [V2,r0 [.v,.v,.b,.c true (.bool y0),.v],.eqT 10 bF,r0 [.v,.e bF,.v,.v,.v,.v],.eqT 16 bF,.rg 11 [.v,.c true (iI y1),.v,.v,.c true (iI y2),.w,.v,.c true (iI y3),.c true (.tup [iI y4.1,iI y4.2]),.v,.v] [.v,.v]] [] [] (aC Tryz.call80 (aF (bX _ _ h0) (aT (aM c0 (aB c3 (aB c5 (aC Tryz.call91 (aF (cY _ _ h1) (aC Tryz.call166 (aF (yN _ _ _ h2) (aC (show (y2:Int)≠0 from g0) (aC Tryz.call91 (aF (cY _ _ h3) (aC Tryz.call58 (aF (iU _ _ _ h4) aN)))))))))))))))
 ·obtain rfl:=sI H2;exact pR 10 [V2,r0 [.v,.v,.b,.c true (.bool y0),.v],.eqT 10 bT,V2] [] [] (aC Tryz.call80 (aF (bX _ _ h0) (aT (aM c1 aN))))
def dd (x0 x1 x2 x3 x4 x5 x6 x7:Int):Option (Int×Int×Int×Int×Int×Int) :=
 bif (decide (x0<0)==decide (x1<0)) then (
  (cO x0).bind fun y0 =>
  (cO x1).bind fun y1 =>
  (mA (IntKind.wrap .u64 y0) (IntKind.wrap .u64 y1)).bind fun y2 =>
  (eU x2 y2.2 0).bind fun y3 =>
  (eU x3 y2.1 y3.2).bind fun y4 =>
  (eU x4 0 y4.2).bind fun y5 =>
  some (y3.1,y4.1,y5.1,x5,x6,x7)
 ) else (
  (cO x0).bind fun y6 =>
  (cO x1).bind fun y7 =>
  (mA (IntKind.wrap .u64 y6) (IntKind.wrap .u64 y7)).bind fun y8 =>
  (eU x5 y8.2 0).bind fun y9 =>
  (eU x6 y8.1 y9.2).bind fun y10 =>
  (eU x7 0 y10.2).bind fun y11 =>
  some (x2,x3,x4,y9.1,y10.1,y11.1)
 )
theorem sO (x0 x1 x2 x3 x4 x5 x6 x7:Int) (r:Int×Int×Int×Int×Int×Int) (H:dd x0 x1 x2 x3 x4 x5 x6 x7=some r):cg Tryz.prog 81 [.hptr 1000 0,iI x0,iI x1] [(1000,.cells 133 [.int .u64 x2,.int .u64 x3,.int .u64 x4,.int .u64 x5,.int .u64 x6,.int .u64 x7])] (fun r2 h0=>r2=(.tup [])∧h0=[(1000,.cells 133 [.int .u64 r.1,.int .u64 r.2.1,.int .u64 r.2.2.1,.int .u64 r.2.2.2.1,.int .u64 r.2.2.2.2.1,.int .u64 r.2.2.2.2.2])]):=by
 unfold dd at H;refine aX Tryz.func81 54 [] ?_;refine aV H (fun c0 H0 => ?_) (fun c1 H1 => ?_)
 ·refine aR H0 fun y0 h1 H2 => ?_;refine aR H2 fun y1 h2 H3 => ?_;refine aR H3 fun y2 h3 H4 => ?_;refine aR H4 fun y3 h4 H5 => ?_;refine aR H5 fun y4 h5 H6 => ?_;refine aR H6 fun y5 h6 H7 => ?_;obtain rfl:=sI H7;exact pR 57 [V1,V5,.eqT 16 bF,r0 [.v,.c true (iI y0),.v,.v,.c true (iI y1),.v,.c true (.tup [.int .u64 y2.1,.int .u64 y2.2]),.v,.v,.v,.v,.v],V1,r0 [.v,.v,.b,.v],.un,V1,V4,.rg 20 (V 12 [.xc (.tup [.int .u64 y3.1,.int .u64 y3.2]),.v,.v,.v,.v,.v,.v,.m]) [.v],V2,.cv [.only [0,6,9,29,30] [1000]],V1,V4,.rg 20 (V 12 [.xc (.tup [.int .u64 y4.1,.int .u64 y4.2]),.v,.v,.v,.v,.v,.v,.m]) [.v],V2,.cv [.only [0,6,9,29,30] [1000]],V1,V4,.rg 20 (V 12 [.xc (.tup [.int .u64 y5.1,.int .u64 y5.2]),.v,.v,.v,.v,.v,.v,.m]) [.v],V2,.cv [.only [0,6,9,29,30] [1000]],V1] [] [1000] (aM c0 (aC Tryz.call91 (aF (cY _ _ h1) (aT (aC Tryz.call91 (aF (cY _ _ h2) (aT (aC Tryz.call90 (aF (sa (IntKind.wrap .u64 y0) (IntKind.wrap .u64 y1) y2 h3) (aT (aT (aT (aC (jG x2 y2.2 0 y3 h4) (aT (aT (aO (0+1) (aT (aT (aT (aC (jG x3 y2.1 y3.2 y4 h5) (aT (aT (aO (1+1) (aT (aT (aT (aC (jG x4 0 y4.2 y5 h6) (aT (aT (aO (2+1) aN))))))))))))))))))))))))))))))
 ·refine aR H1 fun y6 h7 H8 => ?_;refine aR H8 fun y7 h8 H9 => ?_;refine aR H9 fun y8 h9 H10 => ?_;refine aR H10 fun y9 h10 H11 => ?_;refine aR H11 fun y10 h11 H12 => ?_;refine aR H12 fun y11 h12 H13 => ?_;obtain rfl:=sI H13;exact pR 57 [V1,V5,.eqT 16 bT,V1,r0 [.v,.c true (iI y6),.v,.v,.c true (iI y7),.v,.c true (.tup [.int .u64 y8.1,.int .u64 y8.2]),.v,.v,.v,.v,.v],V1,r0 [.v,.v,.b,.v],.un,V1,V4,.rg 20 (V 12 [.xc (.tup [.int .u64 y9.1,.int .u64 y9.2]),.v,.v,.v,.v,.v,.v,.m]) [.v],V2,.cv [.only [0,6,9,29,30] [1000]],V1,V4,.rg 20 (V 12 [.xc (.tup [.int .u64 y10.1,.int .u64 y10.2]),.v,.v,.v,.v,.v,.v,.m]) [.v],V2,.cv [.only [0,6,9,29,30] [1000]],V1,V4,.rg 20 (V 12 [.xc (.tup [.int .u64 y11.1,.int .u64 y11.2]),.v,.v,.v,.v,.v,.v,.m]) [.v],V2,.cv [.only [0,6,9,29,30] [1000]],V1] [] [1000] (aM c1 (aC Tryz.call91 (aF (cY _ _ h7) (aT (aC Tryz.call91 (aF (cY _ _ h8) (aT (aC Tryz.call90 (aF (sa (IntKind.wrap .u64 y6) (IntKind.wrap .u64 y7) y8 h9) (aT (aT (aT (aC (jG x5 y8.2 0 y9 h10) (aT (aT (aO (0+1) (aT (aT (aT (aC (jG x6 y8.1 y9.2 y10 h11) (aT (aT (aO (1+1) (aT (aT (aT (aC (jG x7 0 y10.2 y11 h12) (aT (aT (aO (2+1) aN))))))))))))))))))))))))))))))
def cP (x0 x1:Int×Int×Int):Option ((Int×Int×Int)×Bool) :=
 (mD x0.1 x1.1 0).bind fun y0 =>
 (mD x0.2.1 x1.2.1 y0.2).bind fun y1 =>
 (mD x0.2.2 x1.2.2 y1.2).bind fun y2 =>
 some ((y0.1,y1.1,y2.1),(y2.2==0))
theorem jH (x0 x1:Int×Int×Int) (r:(Int×Int×Int)×Bool) (H:cP x0 x1=some r):bG Tryz.prog 120 [.agg [.int .u64 x0.1,.int .u64 x0.2.1,.int .u64 x0.2.2],.agg [.int .u64 x1.1,.int .u64 x1.2.1,.int .u64 x1.2.2]] (.tup [.agg [.int .u64 r.1.1,.int .u64 r.1.2.1,.int .u64 r.1.2.2],.bool r.2]):=by unfold cP at H;refine aX Tryz.func120 29 [.cell 4 131,.tmp 5] ?_;refine aR H fun y0 h0 H0 => ?_;refine aR H0 fun y1 h1 H1 => ?_;refine aR H1 fun y2 h2 H2 => ?_;obtain rfl:=sI H2;exact pR 55 [r0 [.m,.m,.m,.v],r0 [.m],V1,V1,.un,V1,V2,.rg 14 (V 8 [.xc (.tup [.int .u64 y0.1,.int .u64 y0.2]),.v,.v,.v,.v,.m]) [.v],V2,.cv [.only [2,3,4,5,6,7,9] [2,3,4,6]],V1,V2,.rg 14 (V 8 [.xc (.tup [.int .u64 y1.1,.int .u64 y1.2]),.v,.v,.v,.v,.m]) [.v],V2,.cv [.only [2,3,4,5,6,7,9] [2,3,4,6]],V1,V2,.rg 14 (V 8 [.xc (.tup [.int .u64 y2.1,.int .u64 y2.2]),.v,.v,.v,.v,.m]) [.v],V2,.cv [.only [2,3,4,5,6,7,9] [2,3,4,6]],V1,r0 [.v,.v,.v,.m,.v]] [] [] (aT (aT (aC (qX x0.1 x1.1 0 y0 h0) (aT (aO (0+1) (aT (aT (aC (qX x0.2.1 x1.2.1 y0.2 y1 h1) (aT (aO (1+1) (aT (aT (aC (qX x0.2.2 x1.2.2 y1.2 y2 h2) (aT (aO (2+1) aN)))))))))))))))
def eW (x0:Int):Option (Int×Int) :=
 (fy [x0]).bind fun y0 =>
 bif y0 then (
  some (x0,0)
 ) else (
  some (0,2)
 )
theorem oB (x0:Int) (r:Int×Int) (H:eW x0=some r):bG Tryz.prog 122 [iI x0] (.tup [iI r.1,iI r.2]):=by
 unfold eW at H;refine aX Tryz.func122 9 [.tmp 2,.tmp 3] ?_;refine aR H fun y0 h0 H0 => ?_;refine aV H0 (fun c0 H1 => ?_) (fun c1 H2 => ?_)
 ·obtain rfl:=sI H1;exact pR 11 [V2,r0 [.v,.b,.c true (.bool y0),.v],.eqT 7 bF,V3] [] [] (aC Tryz.call80 (aF (bX _ _ h0) (aT (aM c0 aN))))
 ·obtain rfl:=sI H2;exact pR 10 [V2,r0 [.v,.b,.c true (.bool y0),.v],.eqT 7 bT,V2] [] [] (aC Tryz.call80 (aF (bX _ _ h0) (aT (aM c1 aN))))
def cK (x0 x1 x2 x3 x4 x5:Int):Option (Int×Int) :=
 (cP (x0,x1,x2) (x3,x4,x5)).bind fun y0 =>
 bif y0.2 then (
  bif decide (y0.1.2.1>0) then (
   some (0,2)
  ) else (
   bif decide (y0.1.2.2>0) then (
    some (0,2)
   ) else (
    bif decide (y0.1.1>4611686018427387904) then (
     some (0,2)
    ) else (
     (eW (aK (1*(IntKind.wrap .i64 y0.1.1)))).bind fun y1 =>
     some (y1.1,y1.2)
    )
   )
  )
 ) else (
  (cP (x3,x4,x5) (x0,x1,x2)).bind fun y2 =>
  bif y2.2 then (
   bif decide (y2.1.2.1>0) then (
    some (0,2)
   ) else (
    bif decide (y2.1.2.2>0) then (
     some (0,2)
    ) else (
     bif decide (y2.1.1>4611686018427387904) then (
      some (0,2)
     ) else (
      (eW (aK ((-1)*(IntKind.wrap .i64 y2.1.1)))).bind fun y3 =>
      some (y3.1,y3.2)
     )
    )
   )
  ) else (
   some (0,2)
  )
 )
theorem qT (x0 x1 x2 x3 x4 x5:Int) (r:Int×Int) (H:cK x0 x1 x2 x3 x4 x5=some r):cg Tryz.prog 82 [.hptr 1000 0] [(1000,.cells 133 [.int .u64 x0,.int .u64 x1,.int .u64 x2,.int .u64 x3,.int .u64 x4,.int .u64 x5])] (fun r2 h0=>r2=(.tup [iI r.1,iI r.2])∧h0=[(1000,.cells 133 [.int .u64 x0,.int .u64 x1,.int .u64 x2,.int .u64 x3,.int .u64 x4,.int .u64 x5])]):=by
 unfold cK at H;refine aX Tryz.func82 53 [.tmp 2,.tmp 3] ?_;refine aR H fun y0 h1 H0 => ?_;refine pD 22 [V2,V1,r0 [.b,.v],.un,V1,V4,.rg 18 (V 12 [.c true (.tup [.agg [.int .u64 y0.1.1,.int .u64 y0.1.2.1,.int .u64 y0.1.2.2],.bool y0.2]),.v,.v,.v,.m,.m]) [.v],V1] [.only [0,2,3,4,6,7,9,10,30] [7,1000]] 22 [true] (aT (aT (aO (1-0) (aT (aC Tryz.call120 (aF (jH _ _ _ h1) aN)))))) ?_;refine aV H0 (fun c0 H1 => ?_) (fun c1 H2 => ?_)
 ·refine aV H1 (fun c2 H3 => ?_) (fun c3 H4 => ?_)
  ·obtain rfl:=sI H3;exact pR 9 [.eqT 30 bT,r0 [.v,.v,.e bT,.v,.s,.s,.s,.v,.v,.s,.s,.s,.v],V2] [] [1000] (aB c0 (aT (aB c2 aN)))
  ·refine aV H4 (fun c4 H5 => ?_) (fun c5 H6 => ?_)
   ·obtain rfl:=sI H5;exact pR 9 [.eqT 30 bT,r0 [.v,.v,.e bF,.v,.v,.v,.e bT,.v,.v,.s,.s,.s,.v],V2] [] [1000] (aB c0 (aT (aB c3 (aT (aB c4 aN)))))
   ·refine aV H6 (fun c6 H7 => ?_) (fun c7 H8 => ?_)
    ·obtain rfl:=sI H7;exact pR 10 [.eqT 30 bT,r0 [.v,.v,.e bF,.v,.v,.v,.e bF,.v,.v,.v,.v,.v,.v],.eqT 43 bT,V2] [] [1000] (aB c0 (aT (aB c3 (aT (aB c5 (aT (aB c6 aN)))))))
    ·refine aR H8 fun y1 h2 H9 => ?_;obtain rfl:=sI H9;exact pR 11 [.eqT 30 bT,r0 [.v,.v,.e bF,.v,.v,.v,.e bF,.v,.v,.v,.v,.v,.v],.eqT 43 bF,r0 (V 4 [.w,.c true (.tup [iI y1.1,iI y1.2]),.v,.v,.v,.v])] [] [1000] (aB c0 (aT (aB c3 (aT (aB c5 (aT (aB c7 (aT (aT (aC Tryz.call122 (aF (oB _ _ h2) aN)))))))))))
 ·refine aR H2 fun y2 h3 H10 => ?_;refine pD 18 [.eqT 30 bF,V2,.cv [.only [0,2,3,4,9,10] [1000]],V1,V4,.rg 18 (V 12 [.c true (.tup [.agg [.int .u64 y2.1.1,.int .u64 y2.1.2.1,.int .u64 y2.1.2.2],.bool y2.2]),.v,.v,.v,.m,.m]) [.v],V1] [.only [0,2,3,4,6,7,9,10,30] [7,1000]] 16 [false,true] (aB c1 (aO (0+1) (aT (aT (aO (1-1) (aT (aC Tryz.call120 (aF (jH _ _ _ h3) aN)))))))) ?_;refine aV H10 (fun c8 H11 => ?_) (fun c9 H12 => ?_)
  ·refine aV H11 (fun c10 H13 => ?_) (fun c11 H14 => ?_)
   ·obtain rfl:=sI H13;exact pR 9 [.eqT 30 bT,r0 [.v,.v,.e bT,.v,.s,.s,.s,.v,.v,.s,.s,.s,.v],V2] [] [1000] (aB c8 (aT (aB c10 aN)))
   ·refine aV H14 (fun c12 H15 => ?_) (fun c13 H16 => ?_)
    ·obtain rfl:=sI H15;exact pR 9 [.eqT 30 bT,r0 [.v,.v,.e bF,.v,.v,.v,.e bT,.v,.v,.s,.s,.s,.v],V2] [] [1000] (aB c8 (aT (aB c11 (aT (aB c12 aN)))))
    ·refine aV H16 (fun c14 H17 => ?_) (fun c15 H18 => ?_)
     ·obtain rfl:=sI H17;exact pR 10 [.eqT 30 bT,r0 [.v,.v,.e bF,.v,.v,.v,.e bF,.v,.v,.v,.v,.v,.v],.eqT 43 bT,V2] [] [1000] (aB c8 (aT (aB c11 (aT (aB c13 (aT (aB c14 aN)))))))
     ·refine aR H18 fun y3 h4 H19 => ?_;obtain rfl:=sI H19;exact pR 11 [.eqT 30 bT,r0 [.v,.v,.e bF,.v,.v,.v,.e bF,.v,.v,.v,.v,.v,.v],.eqT 43 bF,r0 (V 4 [.w,.c true (.tup [iI y3.1,iI y3.2]),.v,.v,.v,.v])] [] [1000] (aB c8 (aT (aB c11 (aT (aB c13 (aT (aB c15 (aT (aT (aC Tryz.call122 (aF (oB _ _ h4) aN)))))))))))
  ·obtain rfl:=sI H12;exact pR 13 [.eqT 30 bF,V2,.cv [.only [0,2,3,4,9,10] [1000]],V1,V2] [] [1000] (aB c9 (aO (1+1) aN))
def fv (x0 x1:List Int):Option (Int×Int) :=
 bif (((x0.length:Nat):Int)==((x1.length:Nat):Int)) then (
  bif decide (((x0.length:Nat):Int)>10000) then (
   some (0,3)
  ) else (
   (fy x0).bind fun y0 =>
   bif y0 then (
    (fy x1).bind fun y1 =>
    bif y1 then (
     (dn (σ:=(Int×Int×Int×Int×Int×Int)) (ε:=(Int×Int×Int×Int×Int×Int)) (ρ:=Empty) (fun i0 s0 =>
      bf (i0<x1.length) <|
      (dd (x0.getD i0 0) (x1.getD i0 0) s0.1 s0.2.1 s0.2.2.1 s0.2.2.2.1 s0.2.2.2.2.1 s0.2.2.2.2.2).bind fun y2 =>
      some (.go (y2.1,y2.2.1,y2.2.2.1,y2.2.2.2.1,y2.2.2.2.2.1,y2.2.2.2.2.2))
     ) (fun i0 s0=>(s0.1,s0.2.1,s0.2.2.1,s0.2.2.2.1,s0.2.2.2.2.1,s0.2.2.2.2.2)) (x0.length-0) 0 (0,0,0,0,0,0)).bind <| ca fun u0 =>
     (cK u0.1 u0.2.1 u0.2.2.1 u0.2.2.2.1 u0.2.2.2.2.1 u0.2.2.2.2.2).bind fun y3 =>
     some (y3.1,y3.2)
    ) else (
     some (0,2)
    )
   ) else (
    some (0,2)
   )
  )
 ) else (
  some (0,1)
 )
def mQ (x0 x1:List Int) (i0:Nat) (s0:Int×Int×Int×Int×Int×Int):AS:=⟨45,[(1,dS ao x1),(4,iI 0),(5,iI 0),(6,.hptr 6 0),(28,dS ao x0),(29,nI x0.length),(30,nI i0)],[(6,.cells 133 [.int .u64 s0.1,.int .u64 s0.2.1,.int .u64 s0.2.2.1,.int .u64 s0.2.2.2.1,.int .u64 s0.2.2.2.2.1,.int .u64 s0.2.2.2.2.2])]⟩
def r5 (u1:Int×Int×Int×Int×Int×Int):AS:=⟨45,[(4,iI 0),(5,iI 0),(6,.hptr 6 0)],[(6,.cells 133 [.int .u64 u1.1,.int .u64 u1.2.1,.int .u64 u1.2.2.1,.int .u64 u1.2.2.2.1,.int .u64 u1.2.2.2.2.1,.int .u64 u1.2.2.2.2.2])]⟩
theorem iS (x0 x1:List Int) (r:Int×Int) (H:fv x0 x1=some r):bG Tryz.prog 47 [dS ao x0,dS ao x1] (.tup [iI r.1,iI r.2]):=by
 unfold fv at H;refine aX Tryz.func47 45 [.tmp 4,.tmp 5] ?_;refine aV H (fun c0 H0 => ?_) (fun c1 H1 => ?_)
 ·refine pD 10 [.rg 0 [] [.v,.v],.rg 0 [] [.v,.e (.int .i64 ((x0.length:Nat):Int)),.v,.e (.int .i64 ((x1.length:Nat):Int)),.v,.v],.eqT 9 bF,.rg 0 [] [.v,.e (.int .i64 ((x0.length:Nat):Int)),.v,.v]] [.only [0,1,4,5,15] []] 9 [false] (aT (aC (aQ ao x0) (aT (aC (aQ ao x1) (aM c0 (aT (aC (aQ ao x0) aN))))))) ?_;refine aV H0 (fun c2 H2 => ?_) (fun c3 H3 => ?_)
  ·obtain rfl:=sI H2;exact pR 5 [.eqT 15 bT,V2] [] [] (aB c2 aN)
  ·have c3p:=MI c3;refine aR H3 fun y0 h0 H4 => ?_;refine aV H4 (fun c4 H5 => ?_) (fun c5 H6 => ?_)
   ·refine aR H5 fun y1 h1 H7 => ?_;refine aV H7 (fun c6 H8 => ?_) (fun c7 H9 => ?_)
    ·refine pA 13 [.eqT 15 bF,.rg 0 [] [.v,.c true bT,.v,.v,.v,.c true (.bool y1),.v,.v,.v],.eqT 19 bF,.rg 0 [] [.m],.rg 0 [] [.v,.e (.int .i64 ((x0.length:Nat):Int)),.v]] [.only [1,4,5,6,28,29,30] [6]] 11 [false,false] (mQ x0 x1 0 (0,0,0,0,0,0)) (aB c3 (aC Tryz.call80 (aC (bG.eq (bX _ _ h0) (cB c4)) (aT (aC Tryz.call80 (aF (bX _ _ h1) (aT (aM c6 (aT (aC (aQ ao x0) aN)))))))))) ?_;refine aR H8 fun R0 h2 H10 => ?_;refine pJ 1 (r5) R0 ?_ (fun u0 e0 => ?_)
     ·refine pC (mQ x0 x1) h2 (fun i0 s0 h3 e1 => ?_) (fun i0 s0 h4 q0 h5 h6 => ?_)
      ·have c8:=lF i0 x0.length (by omega);subst e1;exact pB 5 [r0 [.e bF]] [.only [4,5,6] [6]] (r5 (s0.1,s0.2.1,s0.2.2.1,s0.2.2.2.1,s0.2.2.2.2.1,s0.2.2.2.2.2)) (aB c8 aN)
      ·have c9:=lT i0 x0.length (by omega);refine aL h5 fun g0 H11 => ?_;refine aR H11 fun y2 h7 H12 => ?_;refine bO 28 (ps:=[(x0.map ao).length≤9223372036854775807]) (by kernel_rfl) (fun l0 => ?_);have l1:x0.length≤9223372036854775807:=by simpa only [cu,MM] using l0
       clear l0;obtain rfl:=sI H12;exact pB 11 [r0 [.e bT],r0 [.v,.e (.dptr [iI (x0.getD i0 0)]),.v,.v,.v],r0 [.v,.v,.v,.e (.dptr [iI (x1.getD i0 0)]),.v,.hR [(6,1000)] 40 (.tup []) [(1000,.cells 133 [.int .u64 y2.1,.int .u64 y2.2.1,.int .u64 y2.2.2.1,.int .u64 y2.2.2.2.1,.int .u64 y2.2.2.2.2.1,.int .u64 y2.2.2.2.2.2])]],V2] [.only [1,4,5,6,28,29,30] [6]] (mQ x0 x1 (i0+1) (y2.1,y2.2.1,y2.2.2.1,y2.2.2.2.1,y2.2.2.2.2.1,y2.2.2.2.2.2)) (aB c9 (aI bK x0 i0 0 (aI bK x1 i0 0 (aC Tryz.call81 (aC (sO _ _ _ _ _ _ _ _ _ h7) (aH i0 aN))))))
     ·subst e0;have H13:=a8 H10;refine aR H13 fun y3 h8 H14 => ?_;obtain rfl:=sI H14;exact pR 3 [r0 [.hR [(6,1000)] 42 (.tup [iI y3.1,iI y3.2]) [(1000,.cells 133 [.int .u64 u0.1,.int .u64 u0.2.1,.int .u64 u0.2.2.1,.int .u64 u0.2.2.2.1,.int .u64 u0.2.2.2.2.1,.int .u64 u0.2.2.2.2.2])],.v,.v,.v,.v]] [] [] (aC Tryz.call82 (aC (qT _ _ _ _ _ _ _ h8) aN))
    ·obtain rfl:=sI H9;exact pR 9 [.eqT 15 bF,r0 [.v,.c true bT,.v,.v,.v,.c true (.bool y1),.v,.v,.v],.eqT 19 bT,V2] [] [] (aB c3 (aC Tryz.call80 (aC (bG.eq (bX _ _ h0) (cB c4)) (aT (aC Tryz.call80 (aF (bX _ _ h1) (aT (aM c7 aN))))))))
   ·obtain rfl:=sI H6;exact pR 8 [.eqT 15 bF,r0 [.v,.c true bF,.v,.v,.s,.s,.s,.v,.v],V2] [] [] (aB c3 (aC Tryz.call80 (aC (bG.eq (bX _ _ h0) (cB c5)) (aT aN))))
 ·obtain rfl:=sI H1;exact pR 11 [V2,r0 [.v,.e (nI x0.length),.v,.e (nI x1.length),.v,.v],.eqT 9 bT,V2] [] [] (aT (aC (aQ ao x0) (aT (aC (aQ ao x1) (aM c1 aN)))))
noncomputable def dt (x0:Nat) (x1:aj) (x2:Int) (x3:List aj):Option (List aj) :=
 bf (x0<x3.length) <|
 (ll ((x3.getD x0 aa).scale) x1.scale).bind fun y0 =>
 bif ((x3.getD x0 aa).lost) then (
  some (x3.set x0 (aj.mk (Linear.mk (((x3.getD x0 aa).q).Const) (((x3.getD x0 aa).q).Terms)) ((x3.getD x0 aa).mults) ((x3.getD x0 aa).scale) true))
 ) else (
  bif x1.lost then (
   some (x3.set x0 (aj.mk (Linear.mk (((x3.getD x0 aa).q).Const) (((x3.getD x0 aa).q).Terms)) ((x3.getD x0 aa).mults) ((x3.getD x0 aa).scale) true))
  ) else (
   (bY y0.1 y0.2).bind fun y1 =>
   bif y1 then (
    bf ((((x3.getD x0 aa).scale):Int)≠0) <|
    bf ((x1.scale:Int)≠0) <|
    nL (σ:=((List aj)×(List (Int×Int)))) (ε:=Empty) (β:=(List aj)) ((x3.getD x0 aa).mults) (fun e0 s0 =>
     (fi e0.2 (aK (y0.1.tdiv ((x3.getD x0 aa).scale)))).bind fun y2 =>
     bf (x0<s0.1.length) <|
     ((
      bif ((s0.1.getD x0 aa).lost) then (
       some (s0.1.set x0 (aj.mk (Linear.mk (((s0.1.getD x0 aa).q).Const) (((s0.1.getD x0 aa).q).Terms)) ((s0.1.getD x0 aa).mults) ((s0.1.getD x0 aa).scale) true))
      ) else (
       (bY y2.1 y2.2).bind fun y3 =>
       some (s0.1.set x0 (aj.mk (Linear.mk (((s0.1.getD x0 aa).q).Const) (((s0.1.getD x0 aa).q).Terms)) ((s0.1.getD x0 aa).mults) ((s0.1.getD x0 aa).scale) (!y3)))
      )
     ):Option (List aj)).bind fun v0 =>
     some (.go (v0,(bW (e0.1:Int) y2.1 s0.2)))
    ) (x3,[]) (fun s0 =>
     nL (σ:=((List aj)×(List (Int×Int)))) (ε:=Empty) (β:=(List aj)) x1.mults (fun e1 s1 =>
      (fv [1,(aK ((aK (0-(aK (y0.1.tdiv x1.scale))))*x2))] [(bE 0 (e1.1:Int) s1.2),e1.2]).bind fun y4 =>
      bf (x0<s1.1.length) <|
      ((
       bif ((s1.1.getD x0 aa).lost) then (
        some (s1.1.set x0 (aj.mk (Linear.mk (((s1.1.getD x0 aa).q).Const) (((s1.1.getD x0 aa).q).Terms)) ((s1.1.getD x0 aa).mults) ((s1.1.getD x0 aa).scale) true))
       ) else (
        (bY y4.1 y4.2).bind fun y5 =>
        some (s1.1.set x0 (aj.mk (Linear.mk (((s1.1.getD x0 aa).q).Const) (((s1.1.getD x0 aa).q).Terms)) ((s1.1.getD x0 aa).mults) ((s1.1.getD x0 aa).scale) (!y5)))
       )
      ):Option (List aj)).bind fun v1 =>
      some (.go (v1,(bW (e1.1:Int) y4.1 s1.2)))
     ) (s0.1,s0.2) (fun s1 =>
      bf (x0<s1.1.length) <|
      bf (x0<(s1.1.set x0 (aj.mk (Linear.mk (((s1.1.getD x0 aa).q).Const) (((s1.1.getD x0 aa).q).Terms)) (ksort s1.2) ((s1.1.getD x0 aa).scale) ((s1.1.getD x0 aa).lost))).length) <|
      some ((s1.1.set x0 (aj.mk (Linear.mk (((s1.1.getD x0 aa).q).Const) (((s1.1.getD x0 aa).q).Terms)) (ksort s1.2) ((s1.1.getD x0 aa).scale) ((s1.1.getD x0 aa).lost))).set x0 (aj.mk (Linear.mk ((((s1.1.set x0 (aj.mk (Linear.mk (((s1.1.getD x0 aa).q).Const) (((s1.1.getD x0 aa).q).Terms)) (ksort s1.2) ((s1.1.getD x0 aa).scale) ((s1.1.getD x0 aa).lost))).getD x0 aa).q).Const) ((((s1.1.set x0 (aj.mk (Linear.mk (((s1.1.getD x0 aa).q).Const) (((s1.1.getD x0 aa).q).Terms)) (ksort s1.2) ((s1.1.getD x0 aa).scale) ((s1.1.getD x0 aa).lost))).getD x0 aa).q).Terms)) (((s1.1.set x0 (aj.mk (Linear.mk (((s1.1.getD x0 aa).q).Const) (((s1.1.getD x0 aa).q).Terms)) (ksort s1.2) ((s1.1.getD x0 aa).scale) ((s1.1.getD x0 aa).lost))).getD x0 aa).mults) y0.1 (((s1.1.set x0 (aj.mk (Linear.mk (((s1.1.getD x0 aa).q).Const) (((s1.1.getD x0 aa).q).Terms)) (ksort s1.2) ((s1.1.getD x0 aa).scale) ((s1.1.getD x0 aa).lost))).getD x0 aa).lost)))
     )
    )
   ) else (
    some (x3.set x0 (aj.mk (Linear.mk (((x3.getD x0 aa).q).Const) (((x3.getD x0 aa).q).Terms)) ((x3.getD x0 aa).mults) ((x3.getD x0 aa).scale) true))
   )
  )
 )
def gL (x0:Nat) (x1:aj) (x2:Int) (x3:List aj) (y0:Int×Int) (i0:List Nat) (s0:(List aj)×(List (Int×Int))):AS:=⟨135,[(0,.hptr 1000 (x0*5)),(2,iI x2),(4,.hptr 4 0),(6,iI y0.1),(8,iI (aK (y0.1.tdiv ((x3.getD x0 aa).scale)))),(9,iI (aK (y0.1.tdiv x1.scale))),(10,.amap 56),(61,.hptr 61 0)],[(4,.cells 76 [iI x1.q.Const,dS aq x1.q.Terms,.dmap (x1.mults.map (dR ao)),iI x1.scale,.bool x1.lost]),(56,.smap 1 3 (s0.2.map (dR ao))),(61,.iter (((x3.getD x0 aa).mults).map (dR ao)) i0),(1000,.row 76 5 (s0.1.map ah))]⟩
def gN (x0:Nat) (x1:aj) (x2:Int) (y0:Int×Int) (i1:List Nat) (s1:(List aj)×(List (Int×Int))):AS:=⟨135,[(0,.hptr 1000 (x0*5)),(2,iI x2),(6,iI y0.1),(9,iI (aK (y0.1.tdiv x1.scale))),(10,.amap 56),(91,.hptr 91 0)],[(56,.smap 1 3 (s1.2.map (dR ao))),(91,.iter (x1.mults.map (dR ao)) i1),(1000,.row 76 5 (s1.1.map ah))]⟩
def gM (x0:Nat) (x1:aj) (x2:Int) (y0:Int×Int) (i1:List Nat) (s1:(List aj)×(List (Int×Int))) (n0:Nat) (e1 y4:Int×Int) (v1:List aj):AS:=⟨135,[(0,.hptr 1000 (x0*5)),(2,iI x2),(6,iI y0.1),(9,iI (aK (y0.1.tdiv x1.scale))),(10,.amap 56),(15,iI e1.1),(17,iI y4.1),(91,.hptr 91 0)],[(56,.smap 1 3 (s1.2.map (dR ao))),(91,.iter (x1.mults.map (dR ao)) (i1++[n0])),(1000,.row 76 5 (v1.map ah))]⟩
def gP (x0:Nat) (x1:aj) (x2:Int) (x3:List aj) (y0:Int×Int) (i0:List Nat) (s0:(List aj)×(List (Int×Int))) (n1:Nat) (e0 y2:Int×Int) (v0:List aj):AS:=⟨135,[(0,.hptr 1000 (x0*5)),(2,iI x2),(4,.hptr 4 0),(6,iI y0.1),(8,iI (aK (y0.1.tdiv ((x3.getD x0 aa).scale)))),(9,iI (aK (y0.1.tdiv x1.scale))),(10,.amap 56),(11,iI e0.1),(13,iI y2.1),(61,.hptr 61 0)],[(4,.cells 76 [iI x1.q.Const,dS aq x1.q.Terms,.dmap (x1.mults.map (dR ao)),iI x1.scale,.bool x1.lost]),(56,.smap 1 3 (s0.2.map (dR ao))),(61,.iter (((x3.getD x0 aa).mults).map (dR ao)) (i0++[n1])),(1000,.row 76 5 (v0.map ah))]⟩
theorem qY (x0:Nat) (x1:aj) (x2:Int) (x3 r:List aj) (H:dt x0 x1 x2 x3=some r):cg Tryz.prog 100 [.hptr 1000 (x0*5),.agg [iI x1.q.Const,dS aq x1.q.Terms,.dmap (x1.mults.map (dR ao)),iI x1.scale,.bool x1.lost],iI x2] [(1000,.row 76 5 (x3.map ah))] (fun r2 h0=>r2=(.tup [])∧h0=[(1000,.row 76 5 (r.map ah))]):=by
 unfold dt at H;refine aX Tryz.func100 135 [] ?_;refine aL H fun g0 H0 => ?_;refine aR H0 fun y0 h1 H1 => ?_;refine pD 6 [r0 [.m],.rg 11 [.v,.v,.v,.rl x0 3 (iI ((x3.getD x0 aa).scale)),.v,.v,.c true (.tup [iI y0.1,iI y0.2]),.v,.v,.v,.v] [.v]] [.only [0,2,4,6,7] [4,1000]] 6 [] (aC (dI (f:=ah) (l:=x3) (n:=x0) 5 3 1 (by omega) (by decide)) (aC (ot (f:=ah) (l:=x3) (n:=x0) aa 3 (by omega)) (aC Tryz.call132 (aF (zb _ _ _ h1) aN)))) ?_;refine aV H1 (fun c0 H2 => ?_) (fun c1 H3 => ?_)
 ·obtain rfl:=sI H2;exact pR 5 [r0 [.v,.v,.v,.rl x0 4 (.bool ((x3.getD x0 aa).lost)),.e bT,.s,.s,.v,.v,.s,.s,.s,.s,.v],r0 [.v,.v,.v,.rs x0 4,.rwH 1000 (.row 76 5 ((x3.set x0 (aj.mk (Linear.mk (((x3.getD x0 aa).q).Const) (((x3.getD x0 aa).q).Terms)) ((x3.getD x0 aa).mults) ((x3.getD x0 aa).scale) true)).map ah))]] [] [1000] (aC (dI (f:=ah) (l:=x3) (n:=x0) 5 4 1 (by omega) (by decide)) (aC (ot (f:=ah) (l:=x3) (n:=x0) aa 4 (by omega)) (aB c0 (aC (dI (f:=ah) (l:=x3) (n:=x0) 5 4 1 (by omega) (by decide)) (aC (qS (f:=ah) 76 5 x3 x0 aa (aj.mk (Linear.mk (((x3.getD x0 aa).q).Const) (((x3.getD x0 aa).q).Terms)) ((x3.getD x0 aa).mults) ((x3.getD x0 aa).scale) true) 4 [.bool true] (by omega) rfl) aN)))))
 ·refine aV H3 (fun c2 H4 => ?_) (fun c3 H5 => ?_)
  ·obtain rfl:=sI H4;exact pR 5 [r0 [.v,.v,.v,.rl x0 4 (.bool ((x3.getD x0 aa).lost)),.e bF,.v,.e bT,.v,.v,.s,.s,.s,.s,.v],r0 [.v,.v,.v,.rs x0 4,.rwH 1000 (.row 76 5 ((x3.set x0 (aj.mk (Linear.mk (((x3.getD x0 aa).q).Const) (((x3.getD x0 aa).q).Terms)) ((x3.getD x0 aa).mults) ((x3.getD x0 aa).scale) true)).map ah))]] [] [1000] (aC (dI (f:=ah) (l:=x3) (n:=x0) 5 4 1 (by omega) (by decide)) (aC (ot (f:=ah) (l:=x3) (n:=x0) aa 4 (by omega)) (aB c1 (aB c2 (aC (dI (f:=ah) (l:=x3) (n:=x0) 5 4 1 (by omega) (by decide)) (aC (qS (f:=ah) 76 5 x3 x0 aa (aj.mk (Linear.mk (((x3.getD x0 aa).q).Const) (((x3.getD x0 aa).q).Terms)) ((x3.getD x0 aa).mults) ((x3.getD x0 aa).scale) true) 4 [.bool true] (by omega) rfl) aN))))))
  ·refine aR H5 fun y1 h2 H6 => ?_;refine pD 1 [r0 [.v,.v,.v,.rl x0 4 (.bool ((x3.getD x0 aa).lost)),.e bF,.v,.e bF,.v,.v,.v,.v,.c true (.bool y1),.v,.v]] [.only [0,2,4,6,42] [4,1000]] 1 [] (aC (dI (f:=ah) (l:=x3) (n:=x0) 5 4 1 (by omega) (by decide)) (aC (ot (f:=ah) (l:=x3) (n:=x0) aa 4 (by omega)) (aB c1 (aB c3 (aC Tryz.call45 (aF (dc _ _ _ h2) (aT aN))))))) ?_;refine aV H6 (fun c4 H7 => ?_) (fun c5 H8 => ?_)
   ·refine aL H7 fun g1 H9 => ?_;refine aL H9 fun g2 H10 => ?_;refine pA 11 [.eqT 42 bF,.rg 11 (V 4 [.rl x0 3 (iI ((x3.getD x0 aa).scale)),.w,.v,.v,.v,.w,.v]) [.v],r0 [.m,.v],r0 [.v,.v,.v,.rl x0 2 (.dmap (((x3.getD x0 aa).mults).map (dR ao))),.m]] [.only [0,2,4,6,8,9,10,61] [4,56,61,1000]] 10 [false] (gL x0 x1 x2 x3 y0 [] (x3,[])) (aM c4 (aC (dI (f:=ah) (l:=x3) (n:=x0) 5 3 1 (by omega) (by decide)) (aC (ot (f:=ah) (l:=x3) (n:=x0) aa 3 (by omega)) (aC (show (((x3.getD x0 aa).scale):Int)≠0 from g1) (aC (show (x1.scale:Int)≠0 from g2) (aC (dI (f:=ah) (l:=x3) (n:=x0) 5 2 1 (by omega) (by decide)) (aC (ot (f:=ah) (l:=x3) (n:=x0) aa 2 (by omega)) aN))))))) ?_;refine sw (cc:=ao) 61 (gL x0 x1 x2 x3 y0) (by kernel_rfl) H10 [.v] (fun i0 s0=>⟨by kernel_rfl,by kernel_rfl⟩) (fun i0 s0=>⟨135,[(0,.hptr 1000 (x0*5)),(2,iI x2),(4,.hptr 4 0),(6,iI y0.1),(8,iI (aK (y0.1.tdiv ((x3.getD x0 aa).scale)))),(9,iI (aK (y0.1.tdiv x1.scale))),(10,.amap 56),(61,.hptr 61 0),(62,.tup [.bool false]),(63,.bool false)],[(4,.cells 76 [iI x1.q.Const,dS aq x1.q.Terms,.dmap (x1.mults.map (dR ao)),iI x1.scale,.bool x1.lost]),(56,.smap 1 3 (s0.2.map (dR ao))),(61,.iter (((x3.getD x0 aa).mults).map (dR ao)) i0),(1000,.row 76 5 (s0.1.map ah))]⟩) (fun i0 s0=>by kernel_rfl) (fun i0 s0 n1 e0=>⟨135,[(0,.hptr 1000 (x0*5)),(2,iI x2),(4,.hptr 4 0),(6,iI y0.1),(8,iI (aK (y0.1.tdiv ((x3.getD x0 aa).scale)))),(9,iI (aK (y0.1.tdiv x1.scale))),(10,.amap 56),(61,.hptr 61 0),(62,.tup [.bool true,iI e0.1,iI e0.2]),(63,.bool true)],[(4,.cells 76 [iI x1.q.Const,dS aq x1.q.Terms,.dmap (x1.mults.map (dR ao)),iI x1.scale,.bool x1.lost]),(56,.smap 1 3 (s0.2.map (dR ao))),(61,.iter (((x3.getD x0 aa).mults).map (dR ao)) (i0++[n1])),(1000,.row 76 5 (s0.1.map ah))]⟩) (fun i0 s0 n1 e0=>by kernel_rfl) (fun i0 s0 H11 => ?_) (fun i0 s0 n1 e0 h3 q0 h4 h5 => ?_)
    ·refine pA 7 [.rg 0 [] [.v,.v,.m]] [.only [0,2,6,9,10,91] [56,91,1000]] 7 [false] (gN x0 x1 x2 y0 [] (s0.1,s0.2)) aN ?_;refine sw (cc:=ao) 91 (gN x0 x1 x2 y0) (by kernel_rfl) H11 [.v] (fun i1 s1=>⟨by kernel_rfl,by kernel_rfl⟩) (fun i1 s1=>⟨135,[(0,.hptr 1000 (x0*5)),(2,iI x2),(6,iI y0.1),(9,iI (aK (y0.1.tdiv x1.scale))),(10,.amap 56),(91,.hptr 91 0),(92,.tup [.bool false]),(93,.bool false)],[(56,.smap 1 3 (s1.2.map (dR ao))),(91,.iter (x1.mults.map (dR ao)) i1),(1000,.row 76 5 (s1.1.map ah))]⟩) (fun i1 s1=>by kernel_rfl) (fun i1 s1 n0 e1=>⟨135,[(0,.hptr 1000 (x0*5)),(2,iI x2),(6,iI y0.1),(9,iI (aK (y0.1.tdiv x1.scale))),(10,.amap 56),(91,.hptr 91 0),(92,.tup [.bool true,iI e1.1,iI e1.2]),(93,.bool true)],[(56,.smap 1 3 (s1.2.map (dR ao))),(91,.iter (x1.mults.map (dR ao)) (i1++[n0])),(1000,.row 76 5 (s1.1.map ah))]⟩) (fun i1 s1 n0 e1=>by kernel_rfl) (fun i1 s1 H12 => ?_) (fun i1 s1 n0 e1 h6 q1 h7 h8 => ?_)
     ·refine aL H12 fun g3 H13 => ?_;refine aL H13 fun g4 H14 => ?_;obtain rfl:=sI H14;exact pR 4 [r0 (V 6 [.fo 56 ((ksort s1.2).map (dR ao)),.rs x0 2,.rwH 1000 (.row 76 5 ((s1.1.set x0 (aj.mk (Linear.mk (((s1.1.getD x0 aa).q).Const) (((s1.1.getD x0 aa).q).Terms)) (ksort s1.2) ((s1.1.getD x0 aa).scale) ((s1.1.getD x0 aa).lost))).map ah)),.v,.v,.rs x0 3,.rwH 1000 (.row 76 5 (((s1.1.set x0 (aj.mk (Linear.mk (((s1.1.getD x0 aa).q).Const) (((s1.1.getD x0 aa).q).Terms)) (ksort s1.2) ((s1.1.getD x0 aa).scale) ((s1.1.getD x0 aa).lost))).set x0 (aj.mk (Linear.mk ((((s1.1.set x0 (aj.mk (Linear.mk (((s1.1.getD x0 aa).q).Const) (((s1.1.getD x0 aa).q).Terms)) (ksort s1.2) ((s1.1.getD x0 aa).scale) ((s1.1.getD x0 aa).lost))).getD x0 aa).q).Const) ((((s1.1.set x0 (aj.mk (Linear.mk (((s1.1.getD x0 aa).q).Const) (((s1.1.getD x0 aa).q).Terms)) (ksort s1.2) ((s1.1.getD x0 aa).scale) ((s1.1.getD x0 aa).lost))).getD x0 aa).q).Terms)) (((s1.1.set x0 (aj.mk (Linear.mk (((s1.1.getD x0 aa).q).Const) (((s1.1.getD x0 aa).q).Terms)) (ksort s1.2) ((s1.1.getD x0 aa).scale) ((s1.1.getD x0 aa).lost))).getD x0 aa).mults) y0.1 (((s1.1.set x0 (aj.mk (Linear.mk (((s1.1.getD x0 aa).q).Const) (((s1.1.getD x0 aa).q).Terms)) (ksort s1.2) ((s1.1.getD x0 aa).scale) ((s1.1.getD x0 aa).lost))).getD x0 aa).lost))).map ah))])] [] [1000] (aC (And.intro (wH hU s1.2) (zz ao s1.2)) (aC (dI (f:=ah) (l:=s1.1) (n:=x0) 5 2 1 (by omega) (by decide)) (aC (qS (f:=ah) 76 5 s1.1 x0 aa (aj.mk (Linear.mk (((s1.1.getD x0 aa).q).Const) (((s1.1.getD x0 aa).q).Terms)) (ksort s1.2) ((s1.1.getD x0 aa).scale) ((s1.1.getD x0 aa).lost)) 2 [.dmap ((ksort s1.2).map (dR ao))] (by omega) rfl) (aC (dI (f:=ah) (l:=(s1.1.set x0 (aj.mk (Linear.mk (((s1.1.getD x0 aa).q).Const) (((s1.1.getD x0 aa).q).Terms)) (ksort s1.2) ((s1.1.getD x0 aa).scale) ((s1.1.getD x0 aa).lost)))) (n:=x0) 5 3 1 (by omega) (by decide)) (aC (qS (f:=ah) 76 5 (s1.1.set x0 (aj.mk (Linear.mk (((s1.1.getD x0 aa).q).Const) (((s1.1.getD x0 aa).q).Terms)) (ksort s1.2) ((s1.1.getD x0 aa).scale) ((s1.1.getD x0 aa).lost))) x0 aa (aj.mk (Linear.mk ((((s1.1.set x0 (aj.mk (Linear.mk (((s1.1.getD x0 aa).q).Const) (((s1.1.getD x0 aa).q).Terms)) (ksort s1.2) ((s1.1.getD x0 aa).scale) ((s1.1.getD x0 aa).lost))).getD x0 aa).q).Const) ((((s1.1.set x0 (aj.mk (Linear.mk (((s1.1.getD x0 aa).q).Const) (((s1.1.getD x0 aa).q).Terms)) (ksort s1.2) ((s1.1.getD x0 aa).scale) ((s1.1.getD x0 aa).lost))).getD x0 aa).q).Terms)) (((s1.1.set x0 (aj.mk (Linear.mk (((s1.1.getD x0 aa).q).Const) (((s1.1.getD x0 aa).q).Terms)) (ksort s1.2) ((s1.1.getD x0 aa).scale) ((s1.1.getD x0 aa).lost))).getD x0 aa).mults) y0.1 (((s1.1.set x0 (aj.mk (Linear.mk (((s1.1.getD x0 aa).q).Const) (((s1.1.getD x0 aa).q).Terms)) (ksort s1.2) ((s1.1.getD x0 aa).scale) ((s1.1.getD x0 aa).lost))).getD x0 aa).lost)) 3 [iI y0.1] (by omega) rfl) aN)))))
     ·refine aR h7 fun y4 h9 H15 => ?_;refine aL H15 fun g5 H16 => ?_;refine pD 9 [r0 [.en n0 (.tup [iI e1.1,iI e1.2]),.v,.v,.v,.v],r0 [.v,.w,.v,.w,.b,.v,.v,.l (iI (bE 0 (e1.1:Int) s1.2)),.v,.b,.c true (.tup [iI y4.1,iI y4.2]),.v,.v,.v,.v,.v]] [.only [0,2,6,9,10,15,17,18,91] [56,91,1000]] 9 [true] (aC (kH i1 n0) (aC (yk (cc:=ao) h6) (aC (pS (c:=ao) (e1.1:Int) 0 s1.2) (aC Tryz.call47 (aF (iS _ _ _ h9) aN))))) ?_;refine aR H16 fun v1 h10 H17 => ?_;refine bV 0 (gM x0 x1 x2 y0 i1 s1 n0 e1 y4 v1) (by kernel_rfl) ?_ ?_
      ·refine aV h10 (fun c6 H18 => ?_) (fun c7 H19 => ?_)
       ·obtain rfl:=sI H18;exact pB 1 [r0 (V 4 [.rl x0 4 (.bool ((s1.1.getD x0 aa).lost)),.e bT,.s,.s,.s,.s,.v,.v,.v,.rs x0 4,.rwH 1000 (.row 76 5 ((s1.1.set x0 (aj.mk (Linear.mk (((s1.1.getD x0 aa).q).Const) (((s1.1.getD x0 aa).q).Terms)) ((s1.1.getD x0 aa).mults) ((s1.1.getD x0 aa).scale) true)).map ah))])] [.only [0,2,6,9,10,15,17,91] [56,91,1000]] (gM x0 x1 x2 y0 i1 s1 n0 e1 y4 (s1.1.set x0 (aj.mk (Linear.mk (((s1.1.getD x0 aa).q).Const) (((s1.1.getD x0 aa).q).Terms)) ((s1.1.getD x0 aa).mults) ((s1.1.getD x0 aa).scale) true))) (aC (dI (f:=ah) (l:=s1.1) (n:=x0) 5 4 1 (by omega) (by decide)) (aC (ot (f:=ah) (l:=s1.1) (n:=x0) aa 4 (by omega)) (aB c6 (aC (dI (f:=ah) (l:=s1.1) (n:=x0) 5 4 1 (by omega) (by decide)) (aC (qS (f:=ah) 76 5 s1.1 x0 aa (aj.mk (Linear.mk (((s1.1.getD x0 aa).q).Const) (((s1.1.getD x0 aa).q).Terms)) ((s1.1.getD x0 aa).mults) ((s1.1.getD x0 aa).scale) true) 4 [.bool true] (by omega) rfl) aN)))))
       ·refine aR H19 fun y5 h11 H20 => ?_;obtain rfl:=sI H20;exact pB 1 [r0 (V 4 [.rl x0 4 (.bool ((s1.1.getD x0 aa).lost)),.e bF,.v,.v,.c true (.bool y5),.v,.v,.v,.v,.rs x0 4,.rwH 1000 (.row 76 5 ((s1.1.set x0 (aj.mk (Linear.mk (((s1.1.getD x0 aa).q).Const) (((s1.1.getD x0 aa).q).Terms)) ((s1.1.getD x0 aa).mults) ((s1.1.getD x0 aa).scale) (!y5))).map ah))])] [.only [0,2,6,9,10,15,17,91] [56,91,1000]] (gM x0 x1 x2 y0 i1 s1 n0 e1 y4 (s1.1.set x0 (aj.mk (Linear.mk (((s1.1.getD x0 aa).q).Const) (((s1.1.getD x0 aa).q).Terms)) ((s1.1.getD x0 aa).mults) ((s1.1.getD x0 aa).scale) (!y5)))) (aC (dI (f:=ah) (l:=s1.1) (n:=x0) 5 4 1 (by omega) (by decide)) (aC (ot (f:=ah) (l:=s1.1) (n:=x0) aa 4 (by omega)) (aB c7 (aC Tryz.call45 (aF (dc _ _ _ h11) (aT (aC (dI (f:=ah) (l:=s1.1) (n:=x0) 5 4 1 (by omega) (by decide)) (aC (qS (f:=ah) 76 5 s1.1 x0 aa (aj.mk (Linear.mk (((s1.1.getD x0 aa).q).Const) (((s1.1.getD x0 aa).q).Terms)) ((s1.1.getD x0 aa).mults) ((s1.1.getD x0 aa).scale) (!y5)) 4 [.bool (!y5)] (by omega) rfl) aN))))))))
      ·obtain rfl:=sI H17;exact pB 1 [r0 [.v,.v,.v,.m,.rwH 56 (.smap 1 3 ((bW (e1.1:Int) y4.1 s1.2).map (dR ao)))]] [.only [0,2,6,9,10,91] [56,91,1000]] (gN x0 x1 x2 y0 (i1++[n0]) (v1,(bW (e1.1:Int) y4.1 s1.2))) (aC (congrArg (AO.smap 1 3) (kP (c:=ao) (e1.1:Int) y4.1 s1.2)) aN)
    ·refine aR h4 fun y2 h12 H21 => ?_;refine aL H21 fun g6 H22 => ?_;refine pD 9 [r0 [.en n1 (.tup [iI e0.1,iI e0.2]),.v,.v,.v,.v],r0 [.v,.v,.c true (.tup [iI y2.1,iI y2.2]),.v,.v,.v,.v,.v]] [.only [0,2,4,6,8,9,10,11,13,14,61] [4,56,61,1000]] 9 [true] (aC (kH i0 n1) (aC (yk (cc:=ao) h3) (aC Tryz.call58 (aF (iU _ _ _ h12) aN)))) ?_;refine aR H22 fun v0 h13 H23 => ?_;refine bV 0 (gP x0 x1 x2 x3 y0 i0 s0 n1 e0 y2 v0) (by kernel_rfl) ?_ ?_
     ·refine aV h13 (fun c8 H24 => ?_) (fun c9 H25 => ?_)
      ·obtain rfl:=sI H24;exact pB 1 [r0 (V 4 [.rl x0 4 (.bool ((s0.1.getD x0 aa).lost)),.e bT,.s,.s,.s,.s,.v,.v,.v,.rs x0 4,.rwH 1000 (.row 76 5 ((s0.1.set x0 (aj.mk (Linear.mk (((s0.1.getD x0 aa).q).Const) (((s0.1.getD x0 aa).q).Terms)) ((s0.1.getD x0 aa).mults) ((s0.1.getD x0 aa).scale) true)).map ah))])] [.only [0,2,4,6,8,9,10,11,13,61] [4,56,61,1000]] (gP x0 x1 x2 x3 y0 i0 s0 n1 e0 y2 (s0.1.set x0 (aj.mk (Linear.mk (((s0.1.getD x0 aa).q).Const) (((s0.1.getD x0 aa).q).Terms)) ((s0.1.getD x0 aa).mults) ((s0.1.getD x0 aa).scale) true))) (aC (dI (f:=ah) (l:=s0.1) (n:=x0) 5 4 1 (by omega) (by decide)) (aC (ot (f:=ah) (l:=s0.1) (n:=x0) aa 4 (by omega)) (aB c8 (aC (dI (f:=ah) (l:=s0.1) (n:=x0) 5 4 1 (by omega) (by decide)) (aC (qS (f:=ah) 76 5 s0.1 x0 aa (aj.mk (Linear.mk (((s0.1.getD x0 aa).q).Const) (((s0.1.getD x0 aa).q).Terms)) ((s0.1.getD x0 aa).mults) ((s0.1.getD x0 aa).scale) true) 4 [.bool true] (by omega) rfl) aN)))))
      ·refine aR H25 fun y3 h14 H26 => ?_;obtain rfl:=sI H26;exact pB 1 [r0 (V 4 [.rl x0 4 (.bool ((s0.1.getD x0 aa).lost)),.e bF,.v,.v,.c true (.bool y3),.v,.v,.v,.v,.rs x0 4,.rwH 1000 (.row 76 5 ((s0.1.set x0 (aj.mk (Linear.mk (((s0.1.getD x0 aa).q).Const) (((s0.1.getD x0 aa).q).Terms)) ((s0.1.getD x0 aa).mults) ((s0.1.getD x0 aa).scale) (!y3))).map ah))])] [.only [0,2,4,6,8,9,10,11,13,61] [4,56,61,1000]] (gP x0 x1 x2 x3 y0 i0 s0 n1 e0 y2 (s0.1.set x0 (aj.mk (Linear.mk (((s0.1.getD x0 aa).q).Const) (((s0.1.getD x0 aa).q).Terms)) ((s0.1.getD x0 aa).mults) ((s0.1.getD x0 aa).scale) (!y3)))) (aC (dI (f:=ah) (l:=s0.1) (n:=x0) 5 4 1 (by omega) (by decide)) (aC (ot (f:=ah) (l:=s0.1) (n:=x0) aa 4 (by omega)) (aB c9 (aC Tryz.call45 (aF (dc _ _ _ h14) (aT (aC (dI (f:=ah) (l:=s0.1) (n:=x0) 5 4 1 (by omega) (by decide)) (aC (qS (f:=ah) 76 5 s0.1 x0 aa (aj.mk (Linear.mk (((s0.1.getD x0 aa).q).Const) (((s0.1.getD x0 aa).q).Terms)) ((s0.1.getD x0 aa).mults) ((s0.1.getD x0 aa).scale) (!y3)) 4 [.bool (!y3)] (by omega) rfl) aN))))))))
     ·obtain rfl:=sI H23;exact pB 1 [r0 [.v,.v,.v,.m,.rwH 56 (.smap 1 3 ((bW (e0.1:Int) y2.1 s0.2).map (dR ao)))]] [.only [0,2,4,6,8,9,10,61] [4,56,61,1000]] (gL x0 x1 x2 x3 y0 (i0++[n1]) (v0,(bW (e0.1:Int) y2.1 s0.2))) (aC (congrArg (AO.smap 1 3) (kP (c:=ao) (e0.1:Int) y2.1 s0.2)) aN)
   ·obtain rfl:=sI H8;exact pR 5 [.eqT 42 bT,r0 [.v,.v,.v,.rs x0 4,.rwH 1000 (.row 76 5 ((x3.set x0 (aj.mk (Linear.mk (((x3.getD x0 aa).q).Const) (((x3.getD x0 aa).q).Terms)) ((x3.getD x0 aa).mults) ((x3.getD x0 aa).scale) true)).map ah))]] [] [1000] (aM c5 (aC (dI (f:=ah) (l:=x3) (n:=x0) 5 4 1 (by omega) (by decide)) (aC (qS (f:=ah) 76 5 x3 x0 aa (aj.mk (Linear.mk (((x3.getD x0 aa).q).Const) (((x3.getD x0 aa).q).Terms)) ((x3.getD x0 aa).mults) ((x3.getD x0 aa).scale) true) 4 [.bool true] (by omega) rfl) aN)))
def ko (x0:Bind) (x1:au):Option Bool :=
 bif (x0.Kind==1) then (
  some (x0.Var==x1.Var)
 ) else (
  some false
 )
theorem va (x0:Bind) (x1:au) (r:Bool) (H:ko x0 x1=some r):bG Tryz.prog 163 [.agg [iI x0.Kind,.str x0.Var,iI x0.Dim.Const,dS aq x0.Dim.Terms,.str x0.Row.Row,dS aw x0.Row.Dims,.str x0.Elem],.dptr [.str x1.Var,iI x1.C]] (.bool r):=by
 unfold ko at H;refine aX Tryz.func163 14 [.tmp 3] ?_;refine aV H (fun c0 H0 => ?_) (fun c1 H1 => ?_)
 ·obtain rfl:=sI H0;exact pR 5 [r0 [.m,.v],r0 [.v,.v,.e bT,.v,.v,.v,.v,.v,.v,.v,.v]] [] [] (aB c0 aN)
 ·obtain rfl:=sI H1;exact pR 5 [r0 [.m,.v],r0 [.v,.v,.e bF,.v,.s,.s,.s,.s,.s,.v,.v]] [] [] (aB c1 aN)
def cF (x0:List Bind) (x1:aJ) (x2:Int):Option Int :=
 (dn (σ:=Unit) (ε:=Unit) (ρ:=Int) (fun i0 s0 =>
  (ko (Bind.mk ((x0.getD i0 ax).Kind) ((x0.getD i0 ax).Var) (Linear.mk (((x0.getD i0 ax).Dim).Const) (((x0.getD i0 ax).Dim).Terms)) (Shape.mk (((x0.getD i0 ax).Row).Row) (((x0.getD i0 ax).Row).Dims)) ((x0.getD i0 ax).Elem)) (au.mk x1 x2)).bind fun y0 =>
  bif y0 then (
   some (.ret ((i0:Nat):Int))
  ) else (
   some (.go ())
  )
 ) (fun i0 s0=>()) (x0.length-0) 0 ()).bind <| aft fun u0 =>
 some (-1)
def dQ (x0:List Bind) (x1:aJ) (x2:Int) (i0:Nat) (s0:Unit):AS:=⟨19,[(0,dS az x0),(1,.fn 163 [.hptr 1000 0]),(4,iI 0),(7,nI x0.length),(8,nI i0)],[(1000,.cells 88 [.str x1,iI x2])]⟩
def gv (x1:aJ) (x2:Int) (u1:Unit):AS:=⟨19,[(4,iI 0)],[(1000,.cells 88 [.str x1,iI x2])]⟩
theorem mu (x0:List Bind) (x1:aJ) (x2 r:Int) (H:cF x0 x1 x2=some r):cg Tryz.prog 162 [dS az x0,.fn 163 [.hptr 1000 0]] [(1000,.cells 88 [.str x1,iI x2])] (fun r2 h0=>r2=(iI r)∧h0=[(1000,.cells 88 [.str x1,iI x2])]):=by
 unfold cF at H;refine aX Tryz.func162 19 [.tmp 4] ?_;refine pA 6 [V1,r0 [.v,.e (nI x0.length),.v]] [.only [0,1,4,7,8] [1000]] 6 [] (dQ x0 x1 x2 0 ()) (aT (aC (aQ az x0) aN)) ?_;refine aR H fun R0 h1 H0 => ?_;refine pJ 1 (gv x1 x2) R0 ?_ (fun u0 e0 => ?_)
 ·refine pC (dQ x0 x1 x2) h1 (fun i0 s0 h2 e1 => ?_) (fun i0 s0 h3 q0 h4 h5 => ?_)
  ·have c0:=lF i0 x0.length (by omega);subst e1;exact pB 5 [r0 [.e bF]] [.only [4] [1000]] (gv x1 x2 ()) (aB c0 aN)
  ·have c1:=lT i0 x0.length (by omega);refine aR h4 fun y0 h6 H1 => ?_;refine pD 11 [r0 [.e bT],V2,r0 [.v,.v,.v,.e (.dptr (az (x0.getD i0 ax))),.v,.c false (.bool y0)]] [.only [0,1,4,5,7,8,16] [1000]] 11 [true] (aB c1 (aI bb x0 i0 ax (aC Tryz.call163 (aF (va _ _ _ h6) aN)))) ?_;refine aV H1 (fun c2 H2 => ?_) (fun c3 H3 => ?_)
   ·obtain rfl:=sI H2;obtain rfl:=aW h5;obtain rfl:=sI (aP H0);exact pR 5 [.eqT 16 bT,V2] [] [1000] (aB c2 aN)
   ·refine bO 0 (ps:=[(x0.map az).length≤9223372036854775807]) (by kernel_rfl) (fun l0 => ?_);have l1:x0.length≤9223372036854775807:=by simpa only [cu,MM] using l0
    clear l0;obtain rfl:=sI H3;exact pB 4 [.eqT 16 bF,V2] [.only [0,1,4,7,8] [1000]] (dQ x0 x1 x2 (i0+1) ()) (aB c3 (aH i0 aN))
 ·subst e0;have H4:=bl H0;obtain rfl:=sI H4;exact pR 3 [V1] [] [1000] aN
def ij (x0:Linear) (x1 x2:Int) (x3:List (aJ×Int)):Option (Int×(List (aJ×Int))) :=
 (dn (σ:=(List (aJ×Int))) (ε:=(Int×(List (aJ×Int)))) (ρ:=(Int×(List (aJ×Int)))) (fun i0 s0 =>
  some (.go (bW ((x0.Terms.getD i0 ay).Var) (aK ((bE 0 ((x0.Terms.getD i0 ay).Var) s0)+(aK (x1*((x0.Terms.getD i0 ay).C))))) s0))
 ) (fun i0 s0=>((aK (x2+(aK (x1*x0.Const)))),s0)) (x0.Terms.length-0) 0 x3).bind <| aft some
def j5 (x0:Linear) (x1 x2:Int) (i0:Nat) (s0:List (aJ×Int)):AS:=⟨39,[(0,.hptr 1000 0),(2,iI x1),(20,dS aq x0.Terms),(21,nI x0.Terms.length),(22,nI i0)],[(1000,.cells 201 [iI (aK (x2+(aK (x1*x0.Const)))),.amap 1001]),(1001,.smap 0 3 (s0.map (lC ao)))]⟩
theorem vz (x0:Linear) (x1 x2:Int) (x3:List (aJ×Int)) (r:Int×(List (aJ×Int))) (H:ij x0 x1 x2 x3=some r):cg Tryz.prog 164 [.hptr 1000 0,.agg [iI x0.Const,dS aq x0.Terms],iI x1] [(1000,.cells 201 [iI x2,.amap 1001]),(1001,.smap 0 3 (x3.map (lC ao)))] (fun r2 h0=>r2=(.tup [])∧h0=[(1000,.cells 201 [iI r.1,.amap 1001]),(1001,.smap 0 3 (r.2.map (lC ao)))]):=by
 unfold ij at H;refine aX Tryz.func164 39 [] ?_;refine pA 7 [r0 [.m],.rg 8 (V 7 [.w]) [.w,.v,.v,.m],r0 [.v,.v,.e (nI x0.Terms.length),.v]] [.only [0,2,20,21,22] [1000,1001]] 7 [] (j5 x0 x1 x2 0 x3) (aT (aC (aQ aq x0.Terms) aN)) ?_;refine aR H fun R0 h1 H0 => ?_;refine pC (j5 x0 x1 x2) h1 (fun i0 s0 h2 e0 => ?_) (fun i0 s0 h3 q0 h4 h5 => ?_)
 ·have c0:=lF i0 x0.Terms.length (by omega);subst e0;obtain rfl:=sI (bl H0);exact pR 5 [r0 [.e bF]] [] [1000,1001] (aB c0 aN)
 ·have c1:=lT i0 x0.Terms.length (by omega);refine bO 20 (ps:=[(x0.Terms.map aq).length≤9223372036854775807]) (by kernel_rfl) (fun l0 => ?_);have l1:x0.Terms.length≤9223372036854775807:=by simpa only [cu,MM] using l0
  clear l0;obtain rfl:=sI h4;exact pB 11 [r0 [.e bT],r0 [.e (.dptr (aq (x0.Terms.getD i0 ay))),.v,.m,.m],.rg 11 (V 6 [.l (iI (bE 0 ((x0.Terms.getD i0 ay).Var) s0)),.v,.v,.v,.w]) [.w,.m,.rwH 1001 (.smap 0 3 ((bW ((x0.Terms.getD i0 ay).Var) (aK ((bE 0 ((x0.Terms.getD i0 ay).Var) s0)+(aK (x1*((x0.Terms.getD i0 ay).C))))) s0).map (lC ao)))],V2] [.only [0,2,20,21,22] [1000,1001]] (j5 x0 x1 x2 (i0+1) (bW ((x0.Terms.getD i0 ay).Var) (aK ((bE 0 ((x0.Terms.getD i0 ay).Var) s0)+(aK (x1*((x0.Terms.getD i0 ay).C))))) s0)) (aB c1 (aI aZ x0.Terms i0 ay (aC (pS (c:=ao) ((x0.Terms.getD i0 ay).Var) 0 s0) (aC (congrArg (AO.smap 0 3) (kP (c:=ao) ((x0.Terms.getD i0 ay).Var) (aK ((bE 0 ((x0.Terms.getD i0 ay).Var) s0)+(aK (x1*((x0.Terms.getD i0 ay).C))))) s0)) (aH i0 aN)))))
noncomputable def fw (x0:Int) (x1:List (aJ×Int)):Option (Linear×Int) :=
 nL (σ:=(List aJ)) (ε:=Empty) (β:=(Linear×Int)) x1 (fun e0 s0 =>
  bif (e0.2==0) then (
   some (.go s0)
  ) else (
   bf ((s0.length+1)*16≤140737488355328) <|
   some (.go (s0++[e0.1]))
  )
 ) [] (fun s0 =>
  (lp s0).bind fun y0 =>
  (dn (σ:=(List au)) (ε:=(List au)) (ρ:=Empty) (fun i0 s1 =>
   bf ((s1.length+1)*24≤140737488355328) <|
   some (.go (s1++[(au.mk (y0.getD i0 []) (bE 0 (y0.getD i0 []) x1))]))
  ) (fun i0 s1=>s1) (y0.length-0) 0 []).bind <| ca fun u0 =>
  (cb (Linear.mk x0 u0)).bind fun y1 =>
  bif y1 then (
   some ((Linear.mk x0 u0),0)
  ) else (
   some ((Linear.mk 0 []),3)
  )
 )
def ff (x0:Int) (x1:List (aJ×Int)) (i1:List Nat) (s0:List aJ):AS:=⟨58,[(0,.hptr 1000 0),(2,.hptr 2 0),(3,iI 0),(4,.hptr 4 0),(5,.rslice 30),(19,.hptr 19 0)],[(2,.cells 34 [iI 0,.eslice]),(4,.cells 34 [iI x0,.eslice]),(19,.iter (x1.map (lC ao)) i1),(30,.row 9 1 (s0.map bq)),(1000,.cells 201 [iI x0,.dmap (x1.map (lC ao))])]⟩
def gZ (x0:Int) (x1:List (aJ×Int)) (y0:List aJ) (i0:Nat) (s1:List au):AS:=⟨58,[(0,.hptr 1000 0),(2,.hptr 2 0),(3,iI 0),(4,.hptr 4 0),(33,.rslice 30),(34,nI y0.length),(35,nI i0)],[(2,.cells 34 [iI 0,.eslice]),(4,.cells 34 [iI x0,.rslice 50]),(30,.row 9 1 (y0.map bq)),(50,.row 88 2 (s1.map aq)),(1000,.cells 201 [iI x0,.dmap (x1.map (lC ao))])]⟩
def k9 (x0:Int) (x1:List (aJ×Int)) (u1:List au):AS:=⟨58,[(2,.hptr 2 0),(3,iI 0),(4,.hptr 4 0)],[(2,.cells 34 [iI 0,.eslice]),(4,.cells 34 [iI x0,.rslice 50]),(50,.row 88 2 (u1.map aq)),(1000,.cells 201 [iI x0,.dmap (x1.map (lC ao))])]⟩
theorem sP (x0:Int) (x1:List (aJ×Int)) (r:Linear×Int) (H:fw x0 x1=some r):cg Tryz.prog 165 [.hptr 1000 0] [(1000,.cells 201 [iI x0,.amap 1001]),(1001,.smap 0 3 (x1.map (lC ao)))] (fun r2 h0=>r2=(.tup [.agg [iI r.1.Const,dS aq r.1.Terms],iI r.2])∧h0=[]):=by
 unfold fw at H;refine aX Tryz.func165 58 [.cell 2 34,.tmp 3] ?_;refine pA 10 [r0 [.m,.v],r0 (V 4 [.b,.m,.m]),V1,r0 (V 4 [.fm 1001,.m])] [.er 5 30 9 1,.only [0,2,3,4,5,19] [2,4,19,30,1000]] 10 [] (ff x0 x1 [] []) (aC (wH hU x1) aN) ?_;refine sw (cc:=ao) 19 (ff x0 x1) (by kernel_rfl) H [.v] (fun i1 s0=>⟨by kernel_rfl,by kernel_rfl⟩) (fun i1 s0=>⟨58,[(0,.hptr 1000 0),(2,.hptr 2 0),(3,iI 0),(4,.hptr 4 0),(5,.rslice 30),(19,.hptr 19 0),(20,.tup [.bool false]),(21,.bool false)],[(2,.cells 34 [iI 0,.eslice]),(4,.cells 34 [iI x0,.eslice]),(19,.iter (x1.map (lC ao)) i1),(30,.row 9 1 (s0.map bq)),(1000,.cells 201 [iI x0,.dmap (x1.map (lC ao))])]⟩) (fun i1 s0=>by kernel_rfl) (fun i1 s0 n0 e0=>⟨58,[(0,.hptr 1000 0),(2,.hptr 2 0),(3,iI 0),(4,.hptr 4 0),(5,.rslice 30),(19,.hptr 19 0),(20,.tup [.bool true,.str e0.1,iI e0.2]),(21,.bool true)],[(2,.cells 34 [iI 0,.eslice]),(4,.cells 34 [iI x0,.eslice]),(19,.iter (x1.map (lC ao)) (i1++[n0])),(30,.row 9 1 (s0.map bq)),(1000,.cells 201 [iI x0,.dmap (x1.map (lC ao))])]⟩) (fun i1 s0 n0 e0=>by kernel_rfl) (fun i1 s0 H0 => ?_) (fun i1 s0 n0 e0 h1 q0 h2 h3 => ?_)
 ·refine aR H0 fun y0 h4 H1 => ?_;refine pA 9 [r0 [.v,.hR [(30,1000)] 32 (.tup []) [(1000,.row 9 1 (y0.map bq))]],r0 [.v,.e (nI y0.length),.v]] [.erH 4 1 50 88 2,.only [0,2,3,4,33,34,35] [2,4,30,50,1000]] 9 [false] (gZ x0 x1 y0 0 []) (aC Tryz.call63 (aC (xh s0 y0 h4) (aT (aC (aQ bq y0) aN)))) ?_;refine aR H1 fun R0 h5 H2 => ?_;refine pJ 1 (k9 x0 x1) R0 ?_ (fun u0 e1 => ?_)
  ·refine pC (gZ x0 x1 y0) h5 (fun i0 s1 h6 e2 => ?_) (fun i0 s1 h7 q1 h8 h9 => ?_)
   ·have c0:=lF i0 y0.length (by omega);subst e2;exact pB 5 [r0 [.e bF]] [.only [2,3,4] [2,4,50,1000]] (k9 x0 x1 s1) (aB c0 aN)
   ·have c1:=lT i0 y0.length (by omega);refine aL h8 fun g0 H3 => ?_;refine oF 30 (n:=(y0.map bq).length) (by kernel_rfl) (fun l0 => ?_);have l1:y0.length≤9223372036854775807:=by simpa only [MM] using l0
    clear l0;obtain rfl:=sI H3;exact pB 11 [r0 [.e bT],r0 [.v,.rl i0 0 (.str (y0.getD i0 [])),.v],.rg 11 (V 8 [.l (iI (bE 0 (y0.getD i0 []) x1)),.b,.b]) [.ap,.rwH 50 (.row 88 2 ((s1++[(au.mk (y0.getD i0 []) (bE 0 (y0.getD i0 []) x1))]).map aq)),.v,.m],V2] [.only [0,2,3,4,33,34,35] [2,4,30,50,1000]] (gZ x0 x1 y0 (i0+1) (s1++[(au.mk (y0.getD i0 []) (bE 0 (y0.getD i0 []) x1))])) (aB c1 (aC (show (0:Int)≤((i0:Nat):Int)∧((i0:Nat):Int)<((y0.map bq).length:Int) from by rw [MM];omega) (aC (dI (f:=bq) (l:=y0) (n:=i0) 1 0 1 (by omega) (by decide)) (aC (ot (f:=bq) (l:=y0) (n:=i0) [] 0 (by omega)) (aC (Gp ao (y0.getD i0 []) x1) (aC (pS (c:=ao) (y0.getD i0 []) 0 x1) (bp (tT (c:=aq) iw s1 [(au.mk (y0.getD i0 []) (bE 0 (y0.getD i0 []) x1))] 24 (by decide) (by first | (simp;done) | simpa using g0)) (aC (wA 88 2 aq s1 [(au.mk (y0.getD i0 []) (bE 0 (y0.getD i0 []) x1))]) (aH i0 aN)))))))))
  ·subst e1;have H4:=a8 H2;refine aR H4 fun y1 h10 H5 => ?_;refine aV H5 (fun c2 H6 => ?_) (fun c3 H7 => ?_)
   ·obtain rfl:=sI H6;exact pR 9 [r0 [.v,.c false (.bool y1),.v],.eqT 55 bF,r0 [.v,.m,.v]] [.fz 50] [] (aC Tryz.call50 (aF (b8 _ _ h10) (aT (aM c2 aN))))
   ·obtain rfl:=sI H7;exact pR 8 [r0 [.v,.c false (.bool y1),.v],.eqT 55 bT,r0 [.b,.m,.v]] [.wkH 2 1 []] [] (aC Tryz.call50 (aF (b8 _ _ h10) (aT (aM c3 aN))))
 ·refine aV h2 (fun c4 H8 => ?_) (fun c5 H9 => ?_)
  ·obtain rfl:=sI H8;exact pB 11 [r0 [.en n0 (.tup [.str e0.1,iI e0.2]),.v,.v,.v,.v],V2,.eqT 26 bF] [.only [0,2,3,4,5,19] [2,4,19,30,1000]] (ff x0 x1 (i1++[n0]) s0) (aC (kH i1 n0) (aC (yk (cc:=ao) h1) (aM c4 aN)))
  ·refine aL H9 fun g1 H10 => ?_;obtain rfl:=sI H10;exact pB 11 [r0 [.en n0 (.tup [.str e0.1,iI e0.2]),.v,.v,.v,.v],V2,.eqT 26 bT,r0 [.v,.v,.b,.ap,.rwH 30 (.row 9 1 ((s0++[e0.1]).map bq)),.v]] [.only [0,2,3,4,5,19] [2,4,19,30,1000]] (ff x0 x1 (i1++[n0]) (s0++[e0.1])) (aC (kH i1 n0) (aC (yk (cc:=ao) h1) (aM c5 (bp (tT (c:=bq) tQ s0 [e0.1] 16 (by decide) (by first | (simp;done) | simpa using g1)) (aC (wA 9 1 bq s0 [e0.1]) aN)))))
noncomputable def iF (x0:Linear) (x1:List Bind):Option (Linear×Int) :=
 (cb x0).bind fun y0 =>
 bif y0 then (
  (dn (σ:=(Int×(List (aJ×Int)))) (ε:=(Int×(List (aJ×Int)))) (ρ:=(Linear×Int)) (fun i0 s0 =>
   (cF x1 ((x0.Terms.getD i0 ay).Var) ((x0.Terms.getD i0 ay).C)).bind fun y1 =>
   ((
    bif decide (y1<0) then (
     some (.brk (s0.1,(bW ((x0.Terms.getD i0 ay).Var) (aK ((bE 0 ((x0.Terms.getD i0 ay).Var) s0.2)+((x0.Terms.getD i0 ay).C))) s0.2)))
    ) else (
     bf (0≤y1∧y1<(x1.length:Int)) <|
     (cb (Linear.mk (((x1.getD y1.toNat ax).Dim).Const) (((x1.getD y1.toNat ax).Dim).Terms))).bind fun y2 =>
     bif y2 then (
      (ij (Linear.mk (((x1.getD y1.toNat ax).Dim).Const) (((x1.getD y1.toNat ax).Dim).Terms)) ((x0.Terms.getD i0 ay).C) s0.1 s0.2).bind fun y3 =>
      some (.brk (y3.1,y3.2))
     ) else (
      some (.ret (.ret ((Linear.mk 0 []),1)))
     )
    )
   ):Option (Out (Int×(List (aJ×Int))) (eR (Int×(List (aJ×Int))) (Int×(List (aJ×Int))) (Linear×Int)))).bind (aft fun u0 =>
    some (.go (u0.1,u0.2))
   )
  ) (fun i0 s0=>(s0.1,s0.2)) (x0.Terms.length-0) 0 (x0.Const,[])).bind <| aft fun u1 =>
  (fw u1.1 u1.2).bind fun y4 =>
  some (y4.1,y4.2)
 ) else (
  some ((Linear.mk 0 []),1)
 )
def lO (x0:Linear) (x1:List Bind) (i0:Nat) (s0:Int×(List (aJ×Int))):AS:=⟨60,[(1,dS az x1),(4,.hptr 4 0),(5,iI 0),(6,.hptr 6 0),(19,dS aq x0.Terms),(20,nI x0.Terms.length),(21,nI i0)],[(4,.cells 34 [iI 0,.eslice]),(6,.cells 201 [iI s0.1,.amap 16]),(16,.smap 0 3 (s0.2.map (lC ao)))]⟩
def qN (u2:Int×(List (aJ×Int))):AS:=⟨60,[(4,.hptr 4 0),(5,iI 0),(6,.hptr 6 0)],[(4,.cells 34 [iI 0,.eslice]),(6,.cells 201 [iI u2.1,.amap 16]),(16,.smap 0 3 (u2.2.map (lC ao)))]⟩
def mb (x0:Linear) (x1:List Bind) (i0:Nat) (u0:Int×(List (aJ×Int))):AS:=⟨60,[(1,dS az x1),(4,.hptr 4 0),(5,iI 0),(6,.hptr 6 0),(19,dS aq x0.Terms),(20,nI x0.Terms.length),(21,nI i0)],[(4,.cells 34 [iI 0,.eslice]),(6,.cells 201 [iI u0.1,.amap 16]),(16,.smap 0 3 (u0.2.map (lC ao)))]⟩
theorem si (x0:Linear) (x1:List Bind) (r:Linear×Int) (H:iF x0 x1=some r):bG Tryz.prog 131 [.agg [iI x0.Const,dS aq x0.Terms],dS az x1] (.tup [.agg [iI r.1.Const,dS aq r.1.Terms],iI r.2]):=by
 unfold iF at H;refine aX Tryz.func131 60 [.cell 4 34,.tmp 5] ?_;refine aR H fun y0 h0 H0 => ?_;refine aV H0 (fun c0 H1 => ?_) (fun c1 H2 => ?_)
 ·refine pA 14 [.rg 0 [] [.m,.m,.v],.rg 0 [] [.v,.c true (.bool y0),.v],.eqT 12 bF,.rg 0 [] [.v,.v,.m,.b,.m,.m],.rg 0 [] [.v,.v,.e (.int .i64 ((x0.Terms.length:Nat):Int)),.v]] [.only [1,4,5,6,19,20,21] [4,6,16]] 13 [false] (lO x0 x1 0 (x0.Const,[])) (aC Tryz.call50 (aF (b8 _ _ h0) (aT (aM c0 (aT (aC (aQ aq x0.Terms) aN)))))) ?_;refine aR H1 fun R0 h1 H3 => ?_;refine pJ 1 (qN) R0 ?_ (fun u1 e0 => ?_)
  ·refine pC (lO x0 x1) h1 (fun i0 s0 h2 e1 => ?_) (fun i0 s0 h3 q0 h4 h5 => ?_)
   ·have c2:=lF i0 x0.Terms.length (by omega);subst e1;exact pB 5 [r0 [.e bF]] [.only [4,5,6] [4,6,16]] (qN (s0.1,s0.2)) (aB c2 aN)
   ·have c3:=lT i0 x0.Terms.length (by omega);refine aR h4 fun y1 h6 H4 => ?_;refine pD 14 [r0 [.e bT],r0 [.e (.dptr (aq (x0.Terms.getD i0 ay))),.v,.m,.m],r0 [.v,.v,.hR [(8,1000)] 27 (iI y1) [(1000,.cells 88 (aq (x0.Terms.getD i0 ay)))],.v],V3] [.only [1,4,5,6,8,9,19,20,21,36] [4,6,8,16]] 14 [true] (aB c3 (aI aZ x0.Terms i0 ay (aC Tryz.call162 (aC (mu _ _ _ _ h6) aN)))) ?_;refine aR H4 fun v0 h7 H5 => ?_;refine pJ 2 (mb x0 x1 i0) v0 ?_ (fun u0 e2 => ?_)
    ·refine aV h7 (fun c4 H6 => ?_) (fun c5 H7 => ?_)
     ·obtain rfl:=sI H6;exact pB 3 [.eqT 36 bT,r0 (V 4 [.l (iI (bE 0 ((x0.Terms.getD i0 ay).Var) s0.2)),.v,.v,.w,.m,.rwH 16 (.smap 0 3 ((bW ((x0.Terms.getD i0 ay).Var) (aK ((bE 0 ((x0.Terms.getD i0 ay).Var) s0.2)+((x0.Terms.getD i0 ay).C))) s0.2).map (lC ao)))])] [.only [1,4,5,6,19,20,21] [4,6,16]] (mb x0 x1 i0 (s0.1,(bW ((x0.Terms.getD i0 ay).Var) (aK ((bE 0 ((x0.Terms.getD i0 ay).Var) s0.2)+((x0.Terms.getD i0 ay).C))) s0.2))) (aB c4 (aC (pS (c:=ao) ((x0.Terms.getD i0 ay).Var) 0 s0.2) (aC (congrArg (AO.smap 0 3) (kP (c:=ao) ((x0.Terms.getD i0 ay).Var) (aK ((bE 0 ((x0.Terms.getD i0 ay).Var) s0.2)+((x0.Terms.getD i0 ay).C))) s0.2)) aN)))
     ·refine aL H7 fun g0 H8 => ?_;refine aR H8 fun y2 h8 H9 => ?_;refine pD 4 [.eqT 36 bF,r0 [.v,.v,.e (.dptr (az (x1.getD y1.toNat ax))),.v,.v,.c true (.bool y2),.v,.v]] [.only [1,4,5,6,8,9,19,20,21,47] [4,6,8,16]] 3 [false] (aB c5 (bp (IZ (f:=az) (l:=x1) (n:=y1) ax bb (by decide) (by exact g0)) (aC Tryz.call50 (aF (b8 _ _ h8) (aT aN))))) ?_;refine aV H9 (fun c6 H10 => ?_) (fun c7 H11 => ?_)
      ·refine aR H10 fun y3 h9 H12 => ?_;obtain rfl:=sI H12;exact pB 3 [.eqT 47 bF,.rg 7 [.v,.v,.e (.dptr (az (x1.getD y1.toNat ax))),.v,.v,.v,.v] [.hR [(6,1000),(16,1001)] 35 (.tup []) [(1000,.cells 201 [iI y3.1,.amap 1001]),(1001,.smap 0 3 (y3.2.map (lC ao)))]]] [.only [1,4,5,6,19,20,21] [4,6,16]] (mb x0 x1 i0 (y3.1,y3.2)) (aM c6 (bp (IZ (f:=az) (l:=x1) (n:=y1) ax bb (by decide) (by exact g0)) (aC Tryz.call164 (aC (vz _ _ _ _ _ h9) aN))))
      ·obtain rfl:=sI H11;obtain rfl:=sI (aP H5);obtain rfl:=aW h5;obtain rfl:=sI (aP H3);exact pR 5 [.eqT 47 bT,r0 [.b,.m,.v]] [.wkH 4 1 []] [] (aM c7 aN)
    ·subst e2;have H13:=bl H5;refine bO 19 (ps:=[(x0.Terms.map aq).length≤9223372036854775807]) (by kernel_rfl) (fun l0 => ?_);have l1:x0.Terms.length≤9223372036854775807:=by simpa only [cu,MM] using l0
     clear l0;obtain rfl:=sI H13;exact pB 1 [V2] [.only [1,4,5,6,19,20,21] [4,6,16]] (lO x0 x1 (i0+1) (u0.1,u0.2)) (aH i0 aN)
  ·subst e0;have H14:=bl H3;refine aR H14 fun y4 h10 H15 => ?_;obtain rfl:=sI H15;exact pR 3 [r0 [.hR [(6,1000),(16,1001)] 57 (.tup [.agg [iI y4.1.Const,dS aq y4.1.Terms],iI y4.2]) [],.v,.v,.m,.v]] [] [] (aC Tryz.call165 (aC (sP _ _ _ h10) aN))
 ·obtain rfl:=sI H2;exact pR 10 [r0 [.m,.m,.v],r0 [.v,.c true (.bool y0),.v],.eqT 12 bT,r0 [.b,.m,.v]] [.wkH 4 1 []] [] (aC Tryz.call50 (aF (b8 _ _ h0) (aT (aM c1 aN))))
noncomputable def cA (x0:Nat) (x1:List Bind) (x2:aJ) (x3:List Bind):Option (Bool×(List Bind)) :=
 bf (x0<x1.length) <|
 (cU (Linear.mk (((x1.getD x0 ax).Dim).Const) (((x1.getD x0 ax).Dim).Terms)) x2).bind fun y0 =>
 bif (y0==0) then (
  some (true,x1)
 ) else (
  (iF (Linear.mk (((x1.getD x0 ax).Dim).Const) (((x1.getD x0 ax).Dim).Terms)) x3).bind fun y1 =>
  some ((y1.2==0),(x1.set x0 (Bind.mk ((x1.getD x0 ax).Kind) ((x1.getD x0 ax).Var) y1.1 (Shape.mk (((x1.getD x0 ax).Row).Row) (((x1.getD x0 ax).Row).Dims)) ((x1.getD x0 ax).Elem))))
 )
theorem pj (x0:Nat) (x1:List Bind) (x2:aJ) (x3:List Bind) (r:Bool×(List Bind)) (H:cA x0 x1 x2 x3=some r):cg Tryz.prog 130 [.hptr 1000 (x0*7+2),.hptr 1001 0,.hptr 1002 0] [(1000,.row 41 7 (x1.map az)),(1001,.cells 9 [.str x2]),(1002,.cells 25 [dS az x3])] (fun r2 h0=>r2=(.bool r.1)∧h0=[(1000,.row 41 7 (r.2.map az)),(1001,.cells 9 [.str x2]),(1002,.cells 25 [dS az x3])]):=by
 unfold cA at H;refine aX Tryz.func130 26 [.tmp 4] ?_;refine aL H fun g0 H0 => ?_;refine aR H0 fun y0 h1 H1 => ?_;refine pD 5 [V1,.rg 4 [.v,.v,.rl x0 2 (.agg (aw ((x1.getD x0 ax).Dim))),.v] [.c true (iI y0),.v]] [.only [0,2,4,12] [1000,1001,1002]] 5 [] (aC (dI (f:=az) (l:=x1) (n:=x0) 7 2 2 (by omega) (by decide)) (aC (yK (f:=az) (l:=x1) (n:=x0) ax 2 2 (by omega)) (aC Tryz.call46 (aF (jb _ _ _ h1) aN)))) ?_;refine aV H1 (fun c0 H2 => ?_) (fun c1 H3 => ?_)
 ·obtain rfl:=sI H2;exact pR 5 [.eqT 12 bT,V1] [] [1000,1001,1002] (aB c0 aN)
 ·refine aR H3 fun y1 h2 H4 => ?_;obtain rfl:=sI H4;exact pR 10 [.eqT 12 bF,.rg 10 [.v,.v,.rl x0 2 (.agg (aw ((x1.getD x0 ax).Dim))),.v,.c true (.tup [.agg [iI y1.1.Const,dS aq y1.1.Terms],iI y1.2]),.v,.v,.v,.m,.m] [.v],r0 [.v,.v,.v,.rs x0 2,.rwH 1000 (.row 41 7 ((x1.set x0 (Bind.mk ((x1.getD x0 ax).Kind) ((x1.getD x0 ax).Var) y1.1 (Shape.mk (((x1.getD x0 ax).Row).Row) (((x1.getD x0 ax).Row).Dims)) ((x1.getD x0 ax).Elem))).map az))],V3] [] [1000,1001,1002] (aB c1 (aC (dI (f:=az) (l:=x1) (n:=x0) 7 2 2 (by omega) (by decide)) (aC (yK (f:=az) (l:=x1) (n:=x0) ax 2 2 (by omega)) (aC Tryz.call131 (aF (si _ _ _ h2) (aC (dI (f:=az) (l:=x1) (n:=x0) 7 2 2 (by omega) (by decide)) (aC (qS (f:=az) 41 7 x1 x0 ax (Bind.mk ((x1.getD x0 ax).Kind) ((x1.getD x0 ax).Var) y1.1 (Shape.mk (((x1.getD x0 ax).Row).Row) (((x1.getD x0 ax).Row).Dims)) ((x1.getD x0 ax).Elem)) 2 [iI y1.1.Const,dS aq y1.1.Terms] (by omega) rfl) aN)))))))
noncomputable def cp (x0:Nat) (x1:List aj) (x2:aJ) (x3:List Bind):Option (Bool×(List aj)) :=
 bf (x0<x1.length) <|
 (cU (Linear.mk (((x1.getD x0 aa).q).Const) (((x1.getD x0 aa).q).Terms)) x2).bind fun y0 =>
 bif (y0==0) then (
  some (true,x1)
 ) else (
  (iF (Linear.mk (((x1.getD x0 aa).q).Const) (((x1.getD x0 aa).q).Terms)) x3).bind fun y1 =>
  some ((y1.2==0),(x1.set x0 (aj.mk y1.1 ((x1.getD x0 aa).mults) ((x1.getD x0 aa).scale) ((x1.getD x0 aa).lost))))
 )
theorem om (x0:Nat) (x1:List aj) (x2:aJ) (x3:List Bind) (r:Bool×(List aj)) (H:cp x0 x1 x2 x3=some r):cg Tryz.prog 130 [.hptr 1000 (x0*5),.hptr 1001 0,.hptr 1002 0] [(1000,.row 76 5 (x1.map ah)),(1001,.cells 9 [.str x2]),(1002,.cells 25 [dS az x3])] (fun r2 h0=>r2=(.bool r.1)∧h0=[(1000,.row 76 5 (r.2.map ah)),(1001,.cells 9 [.str x2]),(1002,.cells 25 [dS az x3])]):=by
 unfold cp at H;refine aX Tryz.func130 26 [.tmp 4] ?_;refine aL H fun g0 H0 => ?_;refine aR H0 fun y0 h1 H1 => ?_;refine pD 5 [V1,.rg 4 [.v,.v,.rl x0 0 (.agg (aw ((x1.getD x0 aa).q))),.v] [.c true (iI y0),.v]] [.only [0,2,4,12] [1000,1001,1002]] 5 [] (aC (dI (f:=ah) (l:=x1) (n:=x0) 5 0 2 (by omega) (by decide)) (aC (yK (f:=ah) (l:=x1) (n:=x0) aa 0 2 (by omega)) (aC Tryz.call46 (aF (jb _ _ _ h1) aN)))) ?_;refine aV H1 (fun c0 H2 => ?_) (fun c1 H3 => ?_)
 ·obtain rfl:=sI H2;exact pR 5 [.eqT 12 bT,V1] [] [1000,1001,1002] (aB c0 aN)
 ·refine aR H3 fun y1 h2 H4 => ?_;obtain rfl:=sI H4;exact pR 10 [.eqT 12 bF,.rg 10 [.v,.v,.rl x0 0 (.agg (aw ((x1.getD x0 aa).q))),.v,.c true (.tup [.agg [iI y1.1.Const,dS aq y1.1.Terms],iI y1.2]),.v,.v,.v,.m,.m] [.v],r0 [.v,.v,.v,.rs x0 0,.rwH 1000 (.row 76 5 ((x1.set x0 (aj.mk y1.1 ((x1.getD x0 aa).mults) ((x1.getD x0 aa).scale) ((x1.getD x0 aa).lost))).map ah))],V3] [] [1000,1001,1002] (aB c1 (aC (dI (f:=ah) (l:=x1) (n:=x0) 5 0 2 (by omega) (by decide)) (aC (yK (f:=ah) (l:=x1) (n:=x0) aa 0 2 (by omega)) (aC Tryz.call131 (aF (si _ _ _ h2) (aC (dI (f:=ah) (l:=x1) (n:=x0) 5 0 2 (by omega) (by decide)) (aC (qS (f:=ah) 76 5 x1 x0 aa (aj.mk y1.1 ((x1.getD x0 aa).mults) ((x1.getD x0 aa).scale) ((x1.getD x0 aa).lost)) 0 [iI y1.1.Const,dS aq y1.1.Terms] (by omega) rfl) aN)))))))
noncomputable def br (x0:aJ) (x1:Linear) (x2 x3:Int) (x4:List aj) (x5:List Bind):Option (Int×(List aj)×(List Bind)) :=
 (cb x1).bind fun y0 =>
 bif y0 then (
  (gn (σ:=(Int×(List Bind))) (ε:=(List Bind)) (ρ:=(Int×(List aj)×(List Bind))) (fun s0 =>
   bif decide (s0.1<((x5.length:Nat):Int)) then (
    bf (0≤s0.1∧s0.1<(s0.2.length:Int)) <|
    (cA s0.1.toNat s0.2 x0 [(Bind.mk 1 x0 x1 (Shape.mk [] []) [])]).bind fun y1 =>
    bif y1.1 then (
     some (.go ((aK (s0.1+1)),y1.2))
    ) else (
     some (.ret (3,x4,y1.2))
    )
   ) else (
    some (.brk s0.2)
   )
  ) 4294967296 (0,x5)).bind <| aft fun u0 =>
  (gn (σ:=(Int×(List aj))) (ε:=(List aj)) (ρ:=(Int×(List aj)×(List Bind))) (fun s1 =>
   bif decide (s1.1<((s1.2.length:Nat):Int)) then (
    bf (0≤s1.1∧s1.1<(s1.2.length:Int)) <|
    (cp s1.1.toNat s1.2 x0 [(Bind.mk 1 x0 x1 (Shape.mk [] []) [])]).bind fun y2 =>
    bif y2.1 then (
     some (.go ((aK (s1.1+1)),y2.2))
    ) else (
     some (.ret (3,y2.2,u0))
    )
   ) else (
    some (.brk s1.2)
   )
  ) 4294967296 (x2,x4)).bind <| aft fun u1 =>
  bf (0<[(Bind.mk 1 x0 x1 (Shape.mk [] []) [])].length) <|
  bf ((u0.length+1)*112≤140737488355328) <|
  some (0,u1,(u0++[(Bind.mk (([(Bind.mk 1 x0 x1 (Shape.mk [] []) [])].getD 0 ax).Kind) (([(Bind.mk 1 x0 x1 (Shape.mk [] []) [])].getD 0 ax).Var) (Linear.mk ((([(Bind.mk 1 x0 x1 (Shape.mk [] []) [])].getD 0 ax).Dim).Const) ((([(Bind.mk 1 x0 x1 (Shape.mk [] []) [])].getD 0 ax).Dim).Terms)) (Shape.mk ((([(Bind.mk 1 x0 x1 (Shape.mk [] []) [])].getD 0 ax).Row).Row) ((([(Bind.mk 1 x0 x1 (Shape.mk [] []) [])].getD 0 ax).Row).Dims)) (([(Bind.mk 1 x0 x1 (Shape.mk [] []) [])].getD 0 ax).Elem))]))
 ) else (
  some (3,x4,x5)
 )
def fR (x0:aJ) (x1:Linear) (x2 x3:Int) (x4:List aj) (x5:List Bind) (s0:Int×(List Bind)):AS:=⟨72,[(0,.hptr 1000 0),(3,iI x2),(8,iI 0),(9,.hptr 9 0),(10,.fn 130 [.hptr 5 0,.hptr 9 0]),(25,nI x5.length),(26,iI s0.1)],[(5,.cells 9 [.str x0]),(9,.cells 25 [.dslice ([(Bind.mk 1 x0 x1 (Shape.mk [] []) [])].map az)]),(1000,.cells 73 [.rslice 1001,.rslice 1002,iI x3]),(1001,.row 76 5 (x4.map ah)),(1002,.row 41 7 (s0.2.map az))]⟩
def jN (x0:aJ) (x1:Linear) (x2 x3:Int) (x4:List aj) (u2:List Bind):AS:=⟨72,[(0,.hptr 1000 0),(3,iI x2),(8,iI 0),(9,.hptr 9 0),(10,.fn 130 [.hptr 5 0,.hptr 9 0])],[(5,.cells 9 [.str x0]),(9,.cells 25 [.dslice ([(Bind.mk 1 x0 x1 (Shape.mk [] []) [])].map az)]),(1000,.cells 73 [.rslice 1001,.rslice 1002,iI x3]),(1001,.row 76 5 (x4.map ah)),(1002,.row 41 7 (u2.map az))]⟩
def fV (x0:aJ) (x1:Linear) (x3:Int) (u0:List Bind) (s1:Int×(List aj)):AS:=⟨72,[(0,.hptr 1000 0),(8,iI 0),(9,.hptr 9 0),(10,.fn 130 [.hptr 5 0,.hptr 9 0]),(12,iI s1.1)],[(5,.cells 9 [.str x0]),(9,.cells 25 [.dslice ([(Bind.mk 1 x0 x1 (Shape.mk [] []) [])].map az)]),(1000,.cells 73 [.rslice 1001,.rslice 1002,iI x3]),(1001,.row 76 5 (s1.2.map ah)),(1002,.row 41 7 (u0.map az))]⟩
def jK (x0:aJ) (x1:Linear) (x3:Int) (u0:List Bind) (u3:List aj):AS:=⟨72,[(0,.hptr 1000 0),(8,iI 0),(9,.hptr 9 0)],[(9,.cells 25 [.dslice ([(Bind.mk 1 x0 x1 (Shape.mk [] []) [])].map az)]),(1000,.cells 73 [.rslice 1001,.rslice 1002,iI x3]),(1001,.row 76 5 (u3.map ah)),(1002,.row 41 7 (u0.map az))]⟩
theorem jS (x0:aJ) (x1:Linear) (x2 x3:Int) (x4:List aj) (x5:List Bind) (r:Int×(List aj)×(List Bind)) (H:br x0 x1 x2 x3 x4 x5=some r):cg Tryz.prog 99 [.hptr 1000 0,.str x0,.agg [iI x1.Const,dS aq x1.Terms],iI x2] [(1000,.cells 73 [.rslice 1001,.rslice 1002,iI x3]),(1001,.row 76 5 (x4.map ah)),(1002,.row 41 7 (x5.map az))] (fun r2 h0=>r2=(iI r.1)∧h0=[(0,.row 41 7 (r.2.2.map az)),(1000,.cells 73 [.rslice 1001,.rslice 0,iI x3]),(1001,.row 76 5 (r.2.1.map ah))]):=by
 unfold br at H;refine aX Tryz.func99 72 [.tmp 8] ?_;refine aR H fun y0 h1 H0 => ?_;refine aV H0 (fun c0 H1 => ?_) (fun c1 H2 => ?_)
 ·refine pA 16 [.rg 0 [] [.m,.m,.v],.rg 0 [] [.v,.c true (.bool y0),.v],.eqT 15 bF,.rg 0 [] [.v,.v,.b,.b,.wk 19 [(0,5)],.m,.m],.rg 0 [] [.v,.v],.rg 0 [] (V 4 [.e (.int .i64 ((x5.length:Nat):Int)),.v])] [.only [0,3,8,9,10,25,26] [5,9,1000,1001,1002]] 15 [false] (fR x0 x1 x2 x3 x4 x5 (0,x5)) (aC Tryz.call50 (aF (b8 _ _ h1) (aT (aM c0 (aT (aC (aQ az x5) aN)))))) ?_;refine aR H1 fun R0 h2 H3 => ?_;refine pJ 1 (jN x0 x1 x2 x3 x4) R0 ?_ (fun u0 e0 => ?_)
  ·refine lB (fR x0 x1 x2 x3 x4 x5) (by kernel_rfl) h2 (fun s0 q0 h3 h4 => ?_)
   ·refine aV h3 (fun c2 H4 => ?_) (fun c3 H5 => ?_)
    ·refine aL H4 fun g0 H6 => ?_;refine aR H6 fun y1 h5 H7 => ?_;refine pD 12 [V1,.eqT 27 bT,V2,r0 (V 8 [.hM [(1002,1000),(5,1001),(9,1002)] [] (.bool y1.1) [(1000,.row 41 7 (y1.2.map az)),(1001,.cells 9 [.str x0]),(1002,.cells 25 [.dslice ([(Bind.mk 1 x0 x1 (Shape.mk [] []) [])].map az)])],.v])] [.only [0,3,8,9,10,25,26,38] [5,9,1000,1001,1002]] 11 [true] (aB c2 (aC (show (0:Int)≤s0.1∧s0.1<((s0.2.map az).length:Int) from by rw [MM];exact g0) (aC Tryz.call130 (aC (pj _ _ _ _ _ h5) (aT aN))))) ?_;refine aV H7 (fun c4 H8 => ?_) (fun c5 H9 => ?_)
     ·obtain rfl:=sI H8;exact pB 4 [.eqT 38 bF,r0 [.w,.v]] [.only [0,3,8,9,10,25,26] [5,9,1000,1001,1002]] (fR x0 x1 x2 x3 x4 x5 ((aK (s0.1+1)),y1.2)) (aM c4 aN)
     ·obtain rfl:=sI H9;obtain rfl:=aW h4;obtain rfl:=sI (aP H3);exact pR 5 [.eqT 38 bT,V1] [.ren [(1002,0),(1000,1000),(1001,1001)]] [0,1000,1001] (aM c5 aN)
    ·obtain rfl:=sI H5;obtain rfl:=dM h4;exact pB 6 [V1,.eqT 27 bF] [.only [0,3,8,9,10] [5,9,1000,1001,1002]] (jN x0 x1 x2 x3 x4 s0.2) (aB c3 aN)
  ·subst e0;have H10:=bl H3;refine pA 4 [V2] [.only [0,8,9,10,12] [5,9,1000,1001,1002]] 4 [] (fV x0 x1 x3 u0 (x2,x4)) aN ?_;refine aR H10 fun R1 h6 H11 => ?_;refine pJ 1 (jK x0 x1 x3 u0) R1 ?_ (fun u1 e1 => ?_)
   ·refine lB (fV x0 x1 x3 u0) (by kernel_rfl) h6 (fun s1 q1 h7 h8 => ?_)
    ·refine aV h7 (fun c6 H12 => ?_) (fun c7 H13 => ?_)
     ·refine aL H12 fun g1 H14 => ?_;refine aR H14 fun y2 h9 H15 => ?_;refine pD 10 [r0 (V 5 [.e (nI s1.2.length),.v]),.eqT 47 bT,r0 (V 8 [.hM [(1001,1000),(5,1001),(9,1002)] [] (.bool y2.1) [(1000,.row 76 5 (y2.2.map ah)),(1001,.cells 9 [.str x0]),(1002,.cells 25 [.dslice ([(Bind.mk 1 x0 x1 (Shape.mk [] []) [])].map az)])],.v])] [.only [0,8,9,10,12,59] [5,9,1000,1001,1002]] 9 [true] (aT (aC (aQ ah s1.2) (aB c6 (aC (show (0:Int)≤s1.1∧s1.1<((s1.2.map ah).length:Int) from by rw [MM];exact g1) (aC Tryz.call130 (aC (om _ _ _ _ _ h9) (aT aN))))))) ?_;refine aV H15 (fun c8 H16 => ?_) (fun c9 H17 => ?_)
      ·obtain rfl:=sI H16;exact pB 4 [.eqT 59 bF,r0 [.v,.w,.v]] [.only [0,8,9,10,12] [5,9,1000,1001,1002]] (fV x0 x1 x3 u0 ((aK (s1.1+1)),y2.2)) (aM c8 aN)
      ·obtain rfl:=sI H17;obtain rfl:=aW h8;obtain rfl:=sI (aP H11);exact pR 5 [.eqT 59 bT,V1] [.ren [(1002,0),(1000,1000),(1001,1001)]] [0,1000,1001] (aM c9 aN)
     ·obtain rfl:=sI H13;obtain rfl:=dM h8;exact pB 6 [r0 (V 5 [.e (nI s1.2.length),.v]),.eqT 47 bF] [.only [0,8,9] [9,1000,1001,1002]] (jK x0 x1 x3 u0 s1.2) (aT (aC (aQ ah s1.2) (aB c7 aN)))
   ·subst e1;have H18:=bl H11;refine aL H18 fun g2 H19 => ?_;refine aL H19 fun g3 H20 => ?_;obtain rfl:=sI H20;exact pR 5 [.rg 10 (V 4 [.lt,.v,.e (.dptr (az ([(Bind.mk 1 x0 x1 (Shape.mk [] []) [])].getD 0 ax))),.v,.b,.apx ((u0++[(Bind.mk (([(Bind.mk 1 x0 x1 (Shape.mk [] []) [])].getD 0 ax).Kind) (([(Bind.mk 1 x0 x1 (Shape.mk [] []) [])].getD 0 ax).Var) (Linear.mk ((([(Bind.mk 1 x0 x1 (Shape.mk [] []) [])].getD 0 ax).Dim).Const) ((([(Bind.mk 1 x0 x1 (Shape.mk [] []) [])].getD 0 ax).Dim).Terms)) (Shape.mk ((([(Bind.mk 1 x0 x1 (Shape.mk [] []) [])].getD 0 ax).Row).Row) ((([(Bind.mk 1 x0 x1 (Shape.mk [] []) [])].getD 0 ax).Row).Dims)) (([(Bind.mk 1 x0 x1 (Shape.mk [] []) [])].getD 0 ax).Elem))]).map az)]) [.v,.v,.m],V1] [.ren [(69,0),(1000,1000),(1001,1001)]] [0,1000,1001] (aI bb ([(Bind.mk 1 x0 x1 (Shape.mk [] []) [])]) 0 ax (bp (Ig (c:=az) ru u0 [(Bind.mk (([(Bind.mk 1 x0 x1 (Shape.mk [] []) [])].getD 0 ax).Kind) (([(Bind.mk 1 x0 x1 (Shape.mk [] []) [])].getD 0 ax).Var) (Linear.mk ((([(Bind.mk 1 x0 x1 (Shape.mk [] []) [])].getD 0 ax).Dim).Const) ((([(Bind.mk 1 x0 x1 (Shape.mk [] []) [])].getD 0 ax).Dim).Terms)) (Shape.mk ((([(Bind.mk 1 x0 x1 (Shape.mk [] []) [])].getD 0 ax).Row).Row) ((([(Bind.mk 1 x0 x1 (Shape.mk [] []) [])].getD 0 ax).Row).Dims)) (([(Bind.mk 1 x0 x1 (Shape.mk [] []) [])].getD 0 ax).Elem))] 112 (by decide) (by first | (simp;done) | simpa using g3) List.map_append.symm) aN))
 ·obtain rfl:=sI H2;exact pR 10 [r0 [.m,.m,.v],r0 [.v,.c true (.bool y0),.v],.eqT 15 bT,V1] [.ren [(1002,0),(1000,1000),(1001,1001)]] [0,1000,1001] (aC Tryz.call50 (aF (b8 _ _ h1) (aT (aM c1 aN))))
noncomputable def bL (x0:Int) (x1:au) (x2:Int) (x3:List aj) (x4:List Bind):Option (Int×(List aj)×(List Bind)) :=
 bf (0≤x0∧x0<(x3.length:Int)) <|
 bf (x0.toNat<x3.length) <|
 (dn (σ:=(List au)) (ε:=(List au)) (ρ:=Empty) (fun i0 s0 =>
  ((
   bif ((((((x3.getD x0.toNat aa).q).Terms).getD i0 ay).Var)==x1.Var) then (
    some s0
   ) else (
    bf ((s0.length+1)*24≤140737488355328) <|
    some (s0++[(au.mk (((((x3.getD x0.toNat aa).q).Terms).getD i0 ay).Var) (aK ((aK (0-x1.C))*(((((x3.getD x0.toNat aa).q).Terms).getD i0 ay).C))))])
   )
  ):Option (List au)).bind fun v0 =>
  some (.go v0)
 ) (fun i0 s0=>s0) ((((x3.getD x0.toNat aa).q).Terms).length-0) 0 []).bind <| ca fun u0 =>
 (gn (σ:=(Int×(List aj))) (ε:=(List aj)) (ρ:=Empty) (fun s1 =>
  bif decide (s1.1<((s1.2.length:Nat):Int)) then (
   bf (0≤s1.1∧s1.1<(s1.2.length:Int)) <|
   bf (s1.1.toNat<s1.2.length) <|
   (cU (Linear.mk (((s1.2.getD s1.1.toNat aa).q).Const) (((s1.2.getD s1.1.toNat aa).q).Terms)) x1.Var).bind fun y0 =>
   ((
    bif (y0==0) then (
     some s1.2
    ) else (
     (dt s1.1.toNat (aj.mk (Linear.mk (((x3.getD x0.toNat aa).q).Const) (((x3.getD x0.toNat aa).q).Terms)) ((x3.getD x0.toNat aa).mults) ((x3.getD x0.toNat aa).scale) ((x3.getD x0.toNat aa).lost)) (aK (y0*x1.C)) s1.2).bind fun y1 =>
     some y1
    )
   ):Option (List aj)).bind fun v1 =>
   some (.go ((aK (s1.1+1)),v1))
  ) else (
   some (.brk s1.2)
  )
 ) 4294967296 ((aK (x0+1)),x3)).bind <| ca fun u1 =>
 (br x1.Var (Linear.mk (aK ((aK (0-x1.C))*(((x3.getD x0.toNat aa).q).Const))) u0) x0 x2 u1 x4).bind fun y2 =>
 some (y2.1,y2.2.1,y2.2.2)
def fI (x0:Int) (x1:au) (x2:Int) (x3:List aj) (x4:List Bind) (i0:Nat) (s0:List au):AS:=⟨98,[(0,.hptr 1000 0),(1,iI x0),(5,.hptr 5 0),(6,iI 0),(7,.hptr 7 0),(8,.hptr 8 0),(30,.dslice ((((x3.getD x0.toNat aa).q).Terms).map aq)),(31,iI (((((x3.getD x0.toNat aa).q).Terms).length:Nat):Int)),(32,nI i0)],[(5,.cells 88 [.str x1.Var,iI x1.C]),(7,.cells 76 [iI (((x3.getD x0.toNat aa).q).Const),.dslice ((((x3.getD x0.toNat aa).q).Terms).map aq),.dmap (((x3.getD x0.toNat aa).mults).map (dR ao)),iI ((x3.getD x0.toNat aa).scale),.bool ((x3.getD x0.toNat aa).lost)]),(8,.cells 34 [iI (aK ((aK (0-x1.C))*(((x3.getD x0.toNat aa).q).Const))),.rslice 53]),(53,.row 88 2 (s0.map aq)),(1000,.cells 73 [.rslice 1001,.rslice 1002,iI x2]),(1001,.row 76 5 (x3.map ah)),(1002,.row 41 7 (x4.map az))]⟩
def iZ (x0:Int) (x1:au) (x2:Int) (x3:List aj) (x4:List Bind) (u2:List au):AS:=⟨98,[(0,.hptr 1000 0),(1,iI x0),(5,.hptr 5 0),(6,iI 0),(7,.hptr 7 0),(8,.hptr 8 0)],[(5,.cells 88 [.str x1.Var,iI x1.C]),(7,.cells 76 [iI (((x3.getD x0.toNat aa).q).Const),.dslice ((((x3.getD x0.toNat aa).q).Terms).map aq),.dmap (((x3.getD x0.toNat aa).mults).map (dR ao)),iI ((x3.getD x0.toNat aa).scale),.bool ((x3.getD x0.toNat aa).lost)]),(8,.cells 34 [iI (aK ((aK (0-x1.C))*(((x3.getD x0.toNat aa).q).Const))),.rslice 53]),(53,.row 88 2 (u2.map aq)),(1000,.cells 73 [.rslice 1001,.rslice 1002,iI x2]),(1001,.row 76 5 (x3.map ah)),(1002,.row 41 7 (x4.map az))]⟩
def fH (x0:Int) (x1:au) (x2:Int) (x3:List aj) (x4:List Bind) (i0:Nat) (v0:List au):AS:=⟨98,[(0,.hptr 1000 0),(1,iI x0),(5,.hptr 5 0),(6,iI 0),(7,.hptr 7 0),(8,.hptr 8 0),(30,.dslice ((((x3.getD x0.toNat aa).q).Terms).map aq)),(31,iI (((((x3.getD x0.toNat aa).q).Terms).length:Nat):Int)),(32,nI i0)],[(5,.cells 88 [.str x1.Var,iI x1.C]),(7,.cells 76 [iI (((x3.getD x0.toNat aa).q).Const),.dslice ((((x3.getD x0.toNat aa).q).Terms).map aq),.dmap (((x3.getD x0.toNat aa).mults).map (dR ao)),iI ((x3.getD x0.toNat aa).scale),.bool ((x3.getD x0.toNat aa).lost)]),(8,.cells 34 [iI (aK ((aK (0-x1.C))*(((x3.getD x0.toNat aa).q).Const))),.rslice 53]),(53,.row 88 2 (v0.map aq)),(1000,.cells 73 [.rslice 1001,.rslice 1002,iI x2]),(1001,.row 76 5 (x3.map ah)),(1002,.row 41 7 (x4.map az))]⟩
def fF (x0:Int) (x1:au) (x2:Int) (x3:List aj) (x4:List Bind) (u0:List au) (s1:Int×(List aj)):AS:=⟨98,[(0,.hptr 1000 0),(1,iI x0),(5,.hptr 5 0),(6,iI 0),(7,.hptr 7 0),(8,.hptr 8 0),(11,iI s1.1)],[(5,.cells 88 [.str x1.Var,iI x1.C]),(7,.cells 76 [iI (((x3.getD x0.toNat aa).q).Const),.dslice ((((x3.getD x0.toNat aa).q).Terms).map aq),.dmap (((x3.getD x0.toNat aa).mults).map (dR ao)),iI ((x3.getD x0.toNat aa).scale),.bool ((x3.getD x0.toNat aa).lost)]),(8,.cells 34 [iI (aK ((aK (0-x1.C))*(((x3.getD x0.toNat aa).q).Const))),.rslice 53]),(53,.row 88 2 (u0.map aq)),(1000,.cells 73 [.rslice 1001,.rslice 1002,iI x2]),(1001,.row 76 5 (s1.2.map ah)),(1002,.row 41 7 (x4.map az))]⟩
def iR (x0:Int) (x1:au) (x2:Int) (x3:List aj) (x4:List Bind) (u0:List au) (u3:List aj):AS:=⟨98,[(0,.hptr 1000 0),(1,iI x0),(5,.hptr 5 0),(6,iI 0),(8,.hptr 8 0)],[(5,.cells 88 [.str x1.Var,iI x1.C]),(8,.cells 34 [iI (aK ((aK (0-x1.C))*(((x3.getD x0.toNat aa).q).Const))),.rslice 53]),(53,.row 88 2 (u0.map aq)),(1000,.cells 73 [.rslice 1001,.rslice 1002,iI x2]),(1001,.row 76 5 (u3.map ah)),(1002,.row 41 7 (x4.map az))]⟩
def fG (x0:Int) (x1:au) (x2:Int) (x3:List aj) (x4:List Bind) (u0:List au) (s1:Int×(List aj)) (v1:List aj):AS:=⟨98,[(0,.hptr 1000 0),(1,iI x0),(5,.hptr 5 0),(6,iI 0),(7,.hptr 7 0),(8,.hptr 8 0),(11,iI s1.1)],[(5,.cells 88 [.str x1.Var,iI x1.C]),(7,.cells 76 [iI (((x3.getD x0.toNat aa).q).Const),.dslice ((((x3.getD x0.toNat aa).q).Terms).map aq),.dmap (((x3.getD x0.toNat aa).mults).map (dR ao)),iI ((x3.getD x0.toNat aa).scale),.bool ((x3.getD x0.toNat aa).lost)]),(8,.cells 34 [iI (aK ((aK (0-x1.C))*(((x3.getD x0.toNat aa).q).Const))),.rslice 53]),(53,.row 88 2 (u0.map aq)),(1000,.cells 73 [.rslice 1001,.rslice 1002,iI x2]),(1001,.row 76 5 (v1.map ah)),(1002,.row 41 7 (x4.map az))]⟩
theorem dF (x0:Int) (x1:au) (x2:Int) (x3:List aj) (x4:List Bind) (r:Int×(List aj)×(List Bind)) (H:bL x0 x1 x2 x3 x4=some r):cg Tryz.prog 61 [.hptr 1000 0,iI x0,.agg [.str x1.Var,iI x1.C]] [(1000,.cells 73 [.rslice 1001,.rslice 1002,iI x2]),(1001,.row 76 5 (x3.map ah)),(1002,.row 41 7 (x4.map az))] (fun r2 h0=>r2=(iI r.1)∧h0=[(0,.row 41 7 (r.2.2.map az)),(1000,.cells 73 [.rslice 1001,.rslice 0,iI x2]),(1001,.row 76 5 (r.2.1.map ah))]):=by
 unfold bL at H;refine aX Tryz.func61 98 [.tmp 6] ?_;refine aL H fun g0 H0 => ?_;refine aL H0 fun g1 H1 => ?_;refine pA 10 [r0 [.m,.v],r0 (V 6 [.rl x0.toNat 0 (.agg [iI (((x3.getD x0.toNat aa).q).Const),.dslice ((((x3.getD x0.toNat aa).q).Terms).map aq),.dmap (((x3.getD x0.toNat aa).mults).map (dR ao)),iI ((x3.getD x0.toNat aa).scale),.bool ((x3.getD x0.toNat aa).lost)]),.m,.m]),r0 [.v,.v,.w,.v,.v,.v,.w,.b,.m,.m],r0 [.v,.v,.v,.e (iI (((((x3.getD x0.toNat aa).q).Terms).length:Nat):Int)),.v]] [.erH 8 1 53 88 2,.only [0,1,5,6,7,8,30,31,32] [5,7,8,53,1000,1001,1002]] 10 [] (fI x0 x1 x2 x3 x4 0 []) (aC (show (0:Int)≤x0∧x0<((x3.map ah).length:Int) from by rw [MM];exact g0) (aC (dI (f:=ah) (l:=x3) (n:=x0.toNat) 5 0 5 (by omega) (by decide)) (aC (yK (f:=ah) (l:=x3) (n:=x0.toNat) aa 0 5 (by omega)) (aT (aC (aQ aq (((x3.getD x0.toNat aa).q).Terms)) aN))))) ?_;refine aR H1 fun R0 h1 H2 => ?_;refine pJ 1 (iZ x0 x1 x2 x3 x4) R0 ?_ (fun u0 e0 => ?_)
 ·refine pC (fI x0 x1 x2 x3 x4) h1 (fun i0 s0 h2 e1 => ?_) (fun i0 s0 h3 q0 h4 h5 => ?_)
  ·have c0:=lF i0 ((((x3.getD x0.toNat aa).q).Terms).length) (by omega);subst e1;exact pB 5 [r0 [.e bF]] [.only [0,1,5,6,7,8] [5,7,8,53,1000,1001,1002]] (iZ x0 x1 x2 x3 x4 s0) (aB c0 aN)
  ·have c1:=lT i0 ((((x3.getD x0.toNat aa).q).Terms).length) (by omega);refine pD 11 [r0 [.e bT],r0 [.e (.dptr (aq ((((x3.getD x0.toNat aa).q).Terms).getD i0 ay))),.v,.m,.m],V5] [.only [0,1,5,6,7,8,10,30,31,32,40] [5,7,8,10,53,1000,1001,1002]] 11 [true] (aB c1 (aI aZ ((((x3.getD x0.toNat aa).q).Terms)) i0 ay aN)) ?_;refine aR h4 fun v0 h6 H3 => ?_;refine bV 1 (fH x0 x1 x2 x3 x4 i0 v0) (by kernel_rfl) ?_ ?_
   ·refine aV h6 (fun c2 H4 => ?_) (fun c3 H5 => ?_)
    ·refine bZ H4 fun e2 => ?_;subst e2;exact pB 3 [.eqT 40 bF] [.only [0,1,5,6,7,8,30,31,32] [5,7,8,53,1000,1001,1002]] (fH x0 x1 x2 x3 x4 i0 s0) (aM c2 aN)
    ·refine aL H5 fun g2 H6 => ?_;obtain rfl:=sI H6;exact pB 3 [.eqT 40 bT,r0 (V 6 [.w,.v,.v,.w,.b,.b,.ap,.rwH 53 (.row 88 2 ((s0++[(au.mk (((((x3.getD x0.toNat aa).q).Terms).getD i0 ay).Var) (aK ((aK (0-x1.C))*(((((x3.getD x0.toNat aa).q).Terms).getD i0 ay).C))))]).map aq)),.v,.m])] [.only [0,1,5,6,7,8,30,31,32] [5,7,8,53,1000,1001,1002]] (fH x0 x1 x2 x3 x4 i0 (s0++[(au.mk (((((x3.getD x0.toNat aa).q).Terms).getD i0 ay).Var) (aK ((aK (0-x1.C))*(((((x3.getD x0.toNat aa).q).Terms).getD i0 ay).C))))])) (aM c3 (bp (tT (c:=aq) iw s0 [(au.mk (((((x3.getD x0.toNat aa).q).Terms).getD i0 ay).Var) (aK ((aK (0-x1.C))*(((((x3.getD x0.toNat aa).q).Terms).getD i0 ay).C))))] 24 (by decide) (by first | (simp;done) | simpa using g2)) (aC (wA 88 2 aq s0 [(au.mk (((((x3.getD x0.toNat aa).q).Terms).getD i0 ay).Var) (aK ((aK (0-x1.C))*(((((x3.getD x0.toNat aa).q).Terms).getD i0 ay).C))))]) aN)))
   ·refine bO 30 (ps:=[((((x3.getD x0.toNat aa).q).Terms).map aq).length≤9223372036854775807]) (by kernel_rfl) (fun l0 => ?_);have l1:(((x3.getD x0.toNat aa).q).Terms).length≤9223372036854775807:=by simpa only [cu,MM] using l0
    clear l0;obtain rfl:=sI H3;exact pB 1 [V2] [.only [0,1,5,6,7,8,30,31,32] [5,7,8,53,1000,1001,1002]] (fI x0 x1 x2 x3 x4 (i0+1) v0) (aH i0 aN)
 ·subst e0;have H7:=a8 H2;refine pA 4 [r0 [.v,.w,.v]] [.only [0,1,5,6,7,8,11] [5,7,8,53,1000,1001,1002]] 4 [] (fF x0 x1 x2 x3 x4 u0 ((aK (x0+1)),x3)) aN ?_;refine aR H7 fun R1 h7 H8 => ?_;refine pJ 1 (iR x0 x1 x2 x3 x4 u0) R1 ?_ (fun u1 e3 => ?_)
  ·refine lB (fF x0 x1 x2 x3 x4 u0) (by kernel_rfl) h7 (fun s1 q1 h8 h9 => ?_)
   ·refine aV h8 (fun c4 H9 => ?_) (fun c5 H10 => ?_)
    ·have c4p:=MJ c4;refine aL H9 fun g3 H11 => ?_;refine aL H11 fun g4 H12 => ?_;refine aR H12 fun y0 h10 H13 => ?_;refine pD 12 [r0 (V 5 [.e (nI s1.2.length),.v]),.eqT 64 bT,.rg 10 (V 7 [.rl s1.1.toNat 0 (.agg (aw ((s1.2.getD s1.1.toNat aa).q))),.v,.v]) [.c true (iI y0),.v],V2] [.only [0,1,5,6,7,8,11,12,79] [5,7,8,53,1000,1001,1002]] 11 [true] (aT (aC (aQ ah s1.2) (aB c4 (aC (show (0:Int)≤s1.1∧s1.1<((s1.2.map ah).length:Int) from by rw [MM];exact g3) (aC (dI (f:=ah) (l:=s1.2) (n:=s1.1.toNat) 5 0 2 (by omega) (by decide)) (aC (yK (f:=ah) (l:=s1.2) (n:=s1.1.toNat) aa 0 2 (by omega)) (aC Tryz.call46 (aF (jb _ _ _ h10) aN)))))))) ?_;refine aR H13 fun v1 h11 H14 => ?_;refine bV 1 (fG x0 x1 x2 x3 x4 u0 s1 v1) (by kernel_rfl) ?_ ?_
     ·refine aV h11 (fun c6 H15 => ?_) (fun c7 H16 => ?_)
      ·obtain rfl:=sI H15;exact pB 3 [.eqT 79 bF] [.only [0,1,5,6,7,8,11] [5,7,8,53,1000,1001,1002]] (fG x0 x1 x2 x3 x4 u0 s1 s1.2) (aM c6 aN)
      ·refine aR H16 fun y1 h12 H17 => ?_;refine bZ H17 fun e4 => ?_;subst e4;exact pB 3 [.eqT 79 bT,.rg 11 (V 10 [.w]) [.hM [(1001,1000)] [] (.tup []) [(1000,.row 76 5 (y1.map ah))]]] [.only [0,1,5,6,7,8,11] [5,7,8,53,1000,1001,1002]] (fG x0 x1 x2 x3 x4 u0 s1 y1) (aM c7 (aC (show (0:Int)≤s1.1∧s1.1<((s1.2.map ah).length:Int) from by rw [MM];exact g3) (aC Tryz.call100 (aC (qY _ _ _ _ _ h12) aN))))
     ·obtain rfl:=sI H14;exact pB 1 [r0 [.v,.w,.v]] [.only [0,1,5,6,7,8,11] [5,7,8,53,1000,1001,1002]] (fF x0 x1 x2 x3 x4 u0 ((aK (s1.1+1)),v1)) aN
    ·obtain rfl:=sI H10;obtain rfl:=dM h9;exact pB 6 [r0 (V 5 [.e (nI s1.2.length),.v]),.eqT 64 bF] [.only [0,1,5,6,8] [5,8,53,1000,1001,1002]] (iR x0 x1 x2 x3 x4 u0 s1.2) (aT (aC (aQ ah s1.2) (aB c5 aN)))
  ·subst e3;have H18:=a8 H8;refine aR H18 fun y2 h13 H19 => ?_;obtain rfl:=sI H19;exact pR 3 [r0 (V 5 [.fz 53,.hM [(1000,1000),(1001,1001),(1002,1002)] [(0,900)] (iI y2.1) [(0,.row 41 7 (y2.2.2.map az)),(1000,.cells 73 [.rslice 1001,.rslice 0,iI x2]),(1001,.row 76 5 (y2.2.1.map ah))],.v])] [.ren [(900,0),(1000,1000),(1001,1001)]] [0,1000,1001] (aC Tryz.call99 (aC (jS _ _ _ _ _ _ _ h13) aN))
def gS (x0 x1:Int):Option Int :=
 (fy [x0,x1]).bind fun y0 =>
 bif y0 then (
  bif (x1==0) then (
   some 1
  ) else (
   some 0
  )
 ) else (
  some 2
 )
theorem mh (x0 x1 r:Int) (H:gS x0 x1=some r):bG Tryz.prog 127 [iI x0,iI x1] (iI r):=by
 unfold gS at H;refine aX Tryz.func127 14 [.tmp 4] ?_;refine aR H fun y0 h0 H0 => ?_;refine aV H0 (fun c0 H1 => ?_) (fun c1 H2 => ?_)
 ·refine aV H1 (fun c2 H3 => ?_) (fun c3 H4 => ?_)
  ·obtain rfl:=sI H3;exact pR 15 [V1,r0 [.v,.v,.b,.c true (.bool y0),.v,.v],.eqT 5 bF,V3,.eqT 11 bT,V1] [] [] (aC Tryz.call80 (aF (bX _ _ h0) (aT (aM c0 (aB c2 aN)))))
  ·obtain rfl:=sI H4;exact pR 16 [V1,r0 [.v,.v,.b,.c true (.bool y0),.v,.v],.eqT 5 bF,V3,.eqT 11 bF,V1] [] [] (aC Tryz.call80 (aF (bX _ _ h0) (aT (aM c0 (aB c3 aN)))))
 ·obtain rfl:=sI H2;exact pR 11 [V1,r0 [.v,.v,.b,.c true (.bool y0),.v,.v],.eqT 5 bT,V1] [] [] (aC Tryz.call80 (aF (bX _ _ h0) (aT (aM c1 aN))))
def jT (x0 x1:Int):Option (Int×Int) :=
 bf ((x1:Int)≠0) <|
 ((
  bif ((x0.tmod x1)==0) then (
   some (.brk ())
  ) else (
   bif (decide ((x0.tmod x1)<0)==decide (x1<0)) then (
    some (.brk ())
   ) else (
    some (.ret ((aK ((aK (x0.tdiv x1))-1)),(aK ((x0.tmod x1)+x1))))
   )
  )
 ):Option (Out Unit (Int×Int))).bind (aft fun u0 =>
  some ((aK (x0.tdiv x1)),(x0.tmod x1))
 )
def ke (x0 x1:Int) (u0:Unit):AS:=⟨30,[(4,iI 0),(5,iI 0),(6,iI (aK (x0.tdiv x1))),(7,iI (x0.tmod x1))],[]⟩
theorem uN (x0 x1:Int) (r:Int×Int) (H:jT x0 x1=some r):bG Tryz.prog 128 [iI x0,iI x1] (.tup [iI r.1,iI r.2]):=by
 unfold jT at H;refine aX Tryz.func128 30 [.tmp 4,.tmp 5] ?_;refine aL H fun g0 H0 => ?_;refine pD 8 [V2,.rg 7 [.v,.v,.w,.v,.v,.v,.v] [.v],V3] [.only [1,4,5,6,7,14] []] 8 [] (aC (show (x1:Int)≠0 from g0) (aC (show (x1:Int)≠0 from g0) aN)) ?_;refine aR H0 fun v0 h0 H1 => ?_;refine pJ 1 (ke x0 x1) v0 ?_ (fun u0 e0 => ?_)
 ·refine aV h0 (fun c0 H2 => ?_) (fun c1 H3 => ?_)
  ·obtain rfl:=sI H2;exact pB 3 [.eqT 14 bT] [.only [4,5,6,7] []] (ke x0 x1 ()) (aB c0 aN)
  ·refine aV H3 (fun c2 H4 => ?_) (fun c3 H5 => ?_)
   ·obtain rfl:=sI H4;exact pB 7 [.eqT 14 bF,V6,.eqT 17 bF] [.only [4,5,6,7] []] (ke x0 x1 ()) (aB c1 (aM c2 aN))
   ·obtain rfl:=sI H5;obtain rfl:=sI (aP H1);exact pR 9 [.eqT 14 bF,V6,.eqT 17 bT,r0 [.v,.w,.v,.v,.w,.v,.v]] [] [] (aB c1 (aM c3 aN))
 ·subst e0;have H6:=bl H1;obtain rfl:=sI H6;exact pR 3 [V4] [] [] aN
def k8 (x0 x1:Int):Option (Int×Int) :=
 (gS x0 x1).bind fun y0 =>
 bif (y0==0) then (
  (jT x0 x1).bind fun y1 =>
  some (y1.1,0)
 ) else (
  some (0,y0)
 )
theorem yJ (x0 x1:Int) (r:Int×Int) (H:k8 x0 x1=some r):bG Tryz.prog 96 [iI x0,iI x1] (.tup [iI r.1,iI r.2]):=by
 unfold k8 at H;refine aX Tryz.func96 22 [.tmp 4,.tmp 5] ?_;refine aR H fun y0 h0 H0 => ?_;refine aV H0 (fun c0 H1 => ?_) (fun c1 H2 => ?_)
 ·refine aR H1 fun y1 h1 H3 => ?_;obtain rfl:=sI H3;exact pR 15 [V2,r0 [.v,.v,.c true (iI y0),.v],V2,.eqT 13 bF,r0 [.v,.v,.c true (.tup [iI y1.1,iI y1.2]),.v,.v,.v,.v,.v],V3] [] [] (aC Tryz.call127 (aF (mh _ _ _ h0) (aM c0 (aC Tryz.call128 (aF (uN _ _ _ h1) aN)))))
 ·obtain rfl:=sI H2;exact pR 12 [V2,r0 [.v,.v,.c true (iI y0),.v],V2,.eqT 13 bT,V3] [] [] (aC Tryz.call127 (aF (mh _ _ _ h0) (aM c1 aN)))
def bP (x0:Int) (x1:au):Option Int :=
 (k8 x0 x1.C).bind fun y0 =>
 some (aK (0-y0.1))
theorem gW (x0:Int) (x1:au) (r:Int) (H:bP x0 x1=some r):bG Tryz.prog 95 [iI x0,.dptr [.str x1.Var,iI x1.C]] (iI r):=by unfold bP at H;refine aX Tryz.func95 15 [.tmp 3] ?_;refine aR H fun y0 h0 H0 => ?_;obtain rfl:=sI H0;exact pR 7 [V1,r0 [.v,.v,.v,.c true (.tup [iI y0.1,iI y0.2]),.v,.v,.v,.v,.v],r0 [.v,.w,.v]] [] [] (aC Tryz.call96 (aF (yJ _ _ _ h0) aN))
end Go.Proofs.YtlhcekghjfjajaaGreatDoor
