/- The frame for walks: states without addresses, the rules by which code is walked, and contracts of library functions. -/
import Derived.Test.YtlhcekghjfjajaaGreatDoorFrbEquationsSame
import Derived.Laws.MakeOwn
set_option linter.unusedSimpArgs false
set_option linter.unusedVariables false
namespace Go.Ab
open Go.RowKit
def DC (ds:List (Nat×Nat)) (t:List (Nat×AV)):List (Nat×AV):=ds.foldr (fun p t=>gC p.2 t) t
def Iy (ds:List (Nat×Nat)) (h:List (Nat×AO)):List (Nat×AO):=ds.foldr (fun p h=>dc p.2 h) h
def AV.pgs (ds:List (Nat×Nat)) (v:AV):AV:=ds.foldr (fun p v=>AV.pg p.2 v) v
def AO.pgs (ds:List (Nat×Nat)) (o:AO):AO:=ds.foldr (fun p o=>AO.pg p.2 o) o
theorem Cu (t:List (Nat×AV)) (i:Nat):∀ ds:List (Nat×Nat),lk .any (DC ds t) i=AV.pgs ds (lk .any t i)
 | []=>rfl
 | p::ds=>by show lk .any (gC p.2 (DC ds t)) i=AV.pg p.2 (AV.pgs ds (lk .any t i));rw [cq,Cu t i ds]
theorem CF (h:List (Nat×AO)) (i:Nat):∀ ds:List (Nat×Nat),lk .gone (Iy ds h) i=AO.pgs ds (lk .gone h i)
 | []=>rfl
 | p::ds=>by show lk .gone (dc p.2 (Iy ds h)) i=AO.pg p.2 (AO.pgs ds (lk .gone h i));rw [cu,CF h i ds]
theorem men_pgs {n j:Nat} {v:AV}:∀ {ds:List (Nat×Nat)},(j,n)∈ds→AV.men n (AV.pgs ds v)=false
 | p::ds,h=>by
  show AV.men n (AV.pg p.2 (AV.pgs ds v))=false;rcases List.mem_cons.1 h with h | h
  ·rw [← h];exact AV.men_pg n _
  ·rw [Bool.eq_false_iff];intro h2;exact absurd (AV.men_pg' h2) (by rw [men_pgs h];simp)
theorem AO.men_pgs {n j:Nat} {v:AO}:∀ {ds:List (Nat×Nat)},(j,n)∈ds→AO.men n (AO.pgs ds v)=false
 | p::ds,h=>by
  show AO.men n (AO.pg p.2 (AO.pgs ds v))=false;rcases List.mem_cons.1 h with h | h
  ·rw [← h];exact AO.men_pg n _
  ·rw [Bool.eq_false_iff];intro h2;exact absurd (AO.men_pg' h2) (by rw [AO.men_pgs h];simp)
theorem AO.live_pgs (o:AO):∀ ds:List (Nat×Nat),(AO.pgs ds o).live=o.live
 | []=>rfl
 | p::ds=>by show (AO.pg p.2 (AO.pgs ds o)).live=_;rw [AO.live_pg,AO.live_pgs o ds]
theorem AO.inn_pgs (o:AO) (j:Nat):∀ ds:List (Nat×Nat),(AO.pgs ds o).inn j=o.inn j
 | []=>rfl
 | p::ds=>by show (AO.pg p.2 (AO.pgs ds o)).inn j=_;rw [AO.inn_pg,AO.inn_pgs o j ds]
theorem AO.pgs_gone:∀ ds:List (Nat×Nat),AO.pgs ds .gone = .gone
 | []=>rfl
 | p::ds=>by show AO.pg p.2 (AO.pgs ds .gone)=_;rw [AO.pgs_gone ds];rfl
theorem AV.hasR_pgs {v:AV}:∀ (ds:List (Nat×Nat)),AV.hasR v=false→AV.hasR (AV.pgs ds v)=false
 | [],h=>h
 | p::ds,h=>AV.hasR_pg (v:=AV.pgs ds v) (AV.hasR_pgs ds h)
theorem AO.hasR_pgs {v:AO}:∀ (ds:List (Nat×Nat)),AO.hasR v=false→AO.hasR (AO.pgs ds v)=false
 | [],h=>h
 | p::ds,h=>AO.hasR_pg (o:=AO.pgs ds v) (AO.hasR_pgs ds h)
theorem G.pgs {w:World} {X:Nat→Prop} {β:Nat→Nat} {κ:Nat→Nat×Nat} {v:AV} {V:Value}:∀ (ds:List (Nat×Nat)),G w X β κ v V→G w X β κ (AV.pgs ds v) V
 | [],h=>h
 | p::ds,h=>(G.pgs ds h).pg p.2
theorem HO.pgs {w:World} {X:Nat→Prop} {β:Nat→Nat} {κ:Nat→Nat×Nat} {k:Nat} {o:AO}:∀ (ds:List (Nat×Nat)),HO w X β κ k o→HO w X β κ k (AO.pgs ds o)
 | [],h=>h
 | p::ds,h=>(HO.pgs ds h).pg (j:=p.2)
theorem xR (i:Nat):∀ (l m:List (Nat×Nat)),rk (l++m) i=match rk l i with | some j=>some j | none=>rk m i
 | [],m=>rfl
 | (k,j)::l,m=>by
  simp only [List.cons_append,rk];cases Nat.beq i k with
  | true=>rfl
  | false=>exact xR i l m
def kK (ps ds:List (Nat×Nat)) (h' h:List (Nat×AO)):List (Nat×AO):=bk (ds++swp ps) h' (swp ds) (bk (ds++swp ps) h' ps (Iy ds h))
section
variable {P:Program} {ops:Array Oper} {o:Oper} {s:AS}
theorem Ey {f:FuncId} (he:Go.Proofs.Enters P f) {x:Operand} {ar:Array Operand} {tys:Array TypeId} (hg:gd ops s o=some true) (hop:o.op = .call ⟨.value x,ar,tys⟩) {args0:List AV}
 (hx:∀ (c:Cx P) a w β κ,Rel c s a w β κ→∃ vs:Array Value,(execOp a.eval o).run P w = .ok (.enter f vs) w∧vs.size=args0.length∧∀ i,i<args0.length→G w (c.XX s.h β) β κ (args0.getD i .any) (vs.toList.getD i undef))
 (ps ds:List (Nat×Nat)) (hps:(mI ps&&(ps.all fun p=>Nat.ble 1000 p.2&&(Nat.blt p.2 1000000&&Nat.blt p.1 1000000))&&mI ds&&ds.all fun p=>(rk ps p.2).isNone&&(Nat.blt p.1 1000&&Nat.blt p.2 1000))=true) {Post:AV→List (Nat×AO)→Prop} (hnoR:s.noR=true∨(ps=[]∧∀ v h',Post v h'→∀ j,(lk .gone h' j).isR=false)) {args:List AV} (hargs:args0.map (AV.ren ps)=args) {h0:List (Nat×AO)} (hh:hand ps s.h=h0) (hc:bT P f args h0 Post) {N:AS→Prop}
 (hN:∀ v h',Post v h'→∃ s',AS.put ⟨s.n,DC ds s.t,kK ps ds h' s.h⟩ o.dst (AV.ren (ds++swp ps) v)=some s'∧N s'):jl P ops o s N:=fun c a w β κ r K Q hK=>by
 subst hargs;subst hh;simp only [Kj] at hps;obtain ⟨⟨⟨hinj,hlv⟩,hinjd⟩,hdall⟩:=hps;have hds:∀ {j d},rk ds j=some d→rk ps d=none∧j<1000∧d<1000:=fun h=>by have:=Ku.1 hdall _ (mR h);simp only [Kj,Nat.blt_eq] at this;exact ⟨by simpa using this.1,this.2⟩
 have hdp:∀ {k j},rk ps k=some j→rk (swp ds) k=none:=fun {k j} h=>by
  cases e:rk (swp ds) k with
  | none=>rfl
  | some j2 =>
   have:=(hds ((bU hinjd).1 e)).1;rw [h] at this;cases this
 have hchk:∀ {k j},rk ps k=some j→1000≤j∧j<1000000∧k<1000000:=fun h=>by have:=Ku.1 hlv _ (mR h);simp only [Kj,Nat.ble_eq,Nat.blt_eq] at this;exact this
 rw [fT r hg];simp only [if_true];obtain ⟨vs,hrun,a1,a2⟩:=hx c a w β κ r;unfold Oper.wp;rw [hrun];let τ:Nat→Nat→Prop:=fun n n'=>(rk ps n=some n'∧n<1000000)∨∃ k j i,rk ps k=some j∧i<1000000∧n=gk k i∧n'=gk j i
 let H:Nat→Prop:=fun b=>∃ n n',τ n n'∧lv s.h n∧β n=b
 let βc:Nat→Nat:=tF (fun j=>match rk (swp ps) j with | some k=>β k | none=>0) (fun j i=>match rk (swp ps) j with | some k=>β (gk k i) | none=>0)
 let κc:Nat→Nat×Nat:=tF (fun j=>match rk (swp ps) j with | some k=>κ k | none=>(0,0)) (fun j i=>match rk (swp ps) j with | some k=>κ (gk k i) | none=>(0,0))
 have hβ:∀ k j,rk ps k=some j→βc j=β k∧κc j=κ k:=by intro k j h;have h2:=(bU hinj).2 h;have h3:=(hchk h).2.1;exact ⟨by simp only [βc,fc h3,h2],by simp only [κc,fc h3,h2]⟩
 have hβv:∀ k j,rk ps k=some j→∀ i,i<1000000→βc (gk j i)=β (gk k i)∧κc (gk j i)=κ (gk k i):=by intro k j h i hi;have h2:=(bU hinj).2 h;exact ⟨by simp only [βc,du hi,h2],by simp only [κc,du hi,h2]⟩
 have hβτ:∀ n n',τ n n'→βc n'=β n:=by
  rintro n n' (⟨h,_⟩ | ⟨k,j,i,h,hi,rfl,rfl⟩)
  ·exact (hβ _ _ h).1
  ·exact (hβv _ _ h i hi).1
 have hτi:∀ {n n1 n2},τ n n1→τ n n2→n1=n2:=by
  rintro n n1 n2 (⟨h,h'⟩ | ⟨k,j,i,h,hi,rfl,rfl⟩) (⟨g,g'⟩ | ⟨k2,j2,i2,g,hi2,e,rfl⟩)
  ·rw [h] at g;exact Kt g
  ·have:=cL k2 i2;omega
  ·have:=cL k i;omega
  ·obtain ⟨rfl,rfl⟩:=dR hi hi2 e;rw [h] at g;rw [Kt g]
 have hsz:∀ b,c.XX s.h β b→b<w.heap.size:=by
  rintro b (h | ⟨k,h1,rfl⟩)
  ·exact Nat.lt_of_lt_of_le (c.hX b h) r.hp.kp.size
  ·exact r.hp.lt h1
 have hKH:∀ b,c.K b→¬ H b:=by rintro b hb ⟨n,n',_,h2,rfl⟩;exact r.hp.nk n h2 hb
 have hXH:∀ b,c.X b→¬ H b:=by rintro b hb ⟨n,n',_,h2,rfl⟩;exact r.hp.nx n h2 hb
 let c':Cx P:=⟨fun b=>b<w.heap.size∧¬ H b,fun b=>c.XX s.h β b∧¬ H b,w,βc,κc,fun _ h=>h.1,fun b h=>hsz b h.1,fun w' hk=>c.gp w' (r.hp.kp.trans hk fun b hb=>⟨r.Klt b hb,hKH b hb⟩)⟩
 have hlk:∀ j,lk .gone (hand ps s.h) j=match rk (swp ps) j with | some k=>AO.ren ps (lk .gone s.h k) | none=>.gone:=fun j=>qI hinj j
 have hlvh:∀ n',lv (hand ps s.h) n'→∃ n,τ n n'∧lv s.h n:=by
  rintro n' (h1 | ⟨m,i,rfl,h1⟩)
  ·rw [hlk] at h1;cases e:rk (swp ps) n' with
   | none=>rw [e] at h1;exact h1.elim
   | some k =>
    rw [e] at h1;have e2:=(bU hinj).1 e;exact ⟨k,.inl ⟨e2,(hchk e2).2.2⟩,.inl (jY.1 h1)⟩
  ·rw [hlk] at h1;cases e:rk (swp ps) m with
   | none=>rw [e] at h1;exact h1.elim
   | some k =>
    rw [e] at h1;have e2:=(bU hinj).1 e;exact ⟨gk k i,.inr ⟨k,m,i,e2,(AO.inn_isR h1).1,rfl,rfl⟩,bq (nH.1 h1)⟩
 have hown:∀ b,own (hand ps s.h) βc b→H b:=by rintro b ⟨n',h1,h2⟩;obtain ⟨n,h3,h4⟩:=hlvh n' h1;exact ⟨n,n',h3,h4,by rw [← h2];exact (hβτ n n' h3).symm⟩
 have hHX:∀ b,H b→c.XX s.h β b:=by rintro b ⟨n,n',_,h1,rfl⟩;exact .inr ⟨n,h1,rfl⟩
 have hXin:∀ b,¬ c.XX s.h β b→b<w.heap.size→¬ c'.XX (hand ps s.h) βc b:=by
  rintro b hb _ (h | h)
  ·exact hb h.1
  ·exact hb (hHX b (hown b h))
 have hrel:eO c' (hand ps s.h) c'.W c'.β c'.κ:=by
  refine ⟨fun j => ?_,fun i j hi hj e => ?_,cI.refl _ _,fun j hj => ?_,fun j hj => ?_,fun _ _ _=>⟨rfl,rfl⟩,fun j hj => ?_⟩
  ·rw [hlk];cases e:rk (swp ps) j with
   | none=>trivial
   | some k =>
    have e2:=(bU hinj).1 e;exact (r.hp.ob k).ren (X':=c'.XX (hand ps s.h) βc) hβ hXin (hβ _ _ e2) (fun i hi _=>hβv _ _ e2 i hi)
  ·obtain ⟨n1,h1,h2⟩:=hlvh i hi;obtain ⟨n2,h3,h4⟩:=hlvh j hj;have e3:β n1=β n2:=by rw [← hβτ n1 i h1,← hβτ n2 j h3];exact e
   have:=r.hp.inj n1 n2 h2 h4 e3;subst this;exact hτi h1 h3
  ·exact fun h=>h.2 (hown _ ⟨j,hj,rfl⟩)
  ·exact fun h=>h.2 (hown _ ⟨j,hj,rfl⟩)
  ·have hj:lk .gone (hand ps s.h) j ≠ .gone:=hj;rw [hlk] at hj;cases e:rk (swp ps) j with
   | none=>rw [e] at hj;exact absurd rfl hj
   | some k=>exact (hchk ((bU hinj).1 e)).2.1
 have hcall:=hc c' vs.toList (by simp [a1]) hrel (fun i hi=>by have e:(args0.map (AV.ren ps)).getD i .any=AV.ren ps (args0.getD i .any):=getD_map (AV.ren ps) _ i .any .any rfl;rw [e];exact (a2 i (by simpa using hi)).ren hβ hXin)
 simp only [Array.toArray_toList] at hcall;refine hcall.mono fun e w' ⟨V,v,h',β',κ',e1,hp,hr',hG⟩ => ?_;subst e1;obtain ⟨s',h2,h3⟩:=hN v h' hp;let β2:Nat→Nat:=tF (fun k=>match rk (swp ds) k with | some j=>β' j | none=>β k) (fun k i=>match rk (swp ds) k with | some j=>(if (lk .gone h' j).isR=true then β' (gk j i) else β (gk k i)) | none=>match rk ps k with | some j=>β' (gk j i) | none=>β (gk k i))
 let κ2:Nat→Nat×Nat:=tF (fun k=>match rk (swp ds) k with | some j=>κ' j | none=>κ k) (fun k i=>match rk (swp ds) k with | some j=>(if (lk .gone h' j).isR=true then κ' (gk j i) else κ (gk k i)) | none=>match rk ps k with | some j=>κ' (gk j i) | none=>κ (gk k i))
 have b2d:∀ k j,rk (swp ds) k=some j→β2 k=β' j∧κ2 k=κ' j:=fun k j h=>by
  have h6:k<1000000:=by have:=(hds ((bU hinjd).1 h)).2.2;omega
  exact ⟨by simp only [β2,fc h6,h],by simp only [κ2,fc h6,h]⟩
 have b2dv:∀ k j,rk (swp ds) k=some j→∀ i,i<1000000→(lk .gone h' j).isR=true→β2 (gk k i)=β' (gk j i)∧κ2 (gk k i)=κ' (gk j i):=fun k j h i hi hz=>⟨by simp only [β2,du hi,h,if_pos hz],by simp only [κ2,du hi,h,if_pos hz]⟩;have b2n:∀ k,k<1000000→rk (swp ds) k=none→β2 k=β k∧κ2 k=κ k:=fun k hk h=>⟨by simp only [β2,fc hk,h],by simp only [κ2,fc hk,h]⟩;have b2v:∀ k i,i<1000000→rk (swp ds) k=none→rk ps k=none→β2 (gk k i)=β (gk k i)∧κ2 (gk k i)=κ (gk k i):=fun k i hi h h4=>⟨by simp only [β2,du hi,h,h4],by simp only [κ2,du hi,h,h4]⟩;have b2h:∀ k j i,i<1000000→rk ps k=some j→β2 (gk k i)=β' (gk j i)∧κ2 (gk k i)=κ' (gk j i):=fun k j i hi h=>⟨by simp only [β2,du hi,hdp h,h],by simp only [κ2,du hi,hdp h,h]⟩;have hfix:∀ k j,rk ps k=some j→β2 k=β' j∧κ2 k=κ' j:=fun k j h=>by obtain ⟨f1,f2⟩:=hr'.fix j (hchk h).1 (hchk h).2.1;rw [(b2n k (hchk h).2.2 (hdp h)).1,(b2n k (hchk h).2.2 (hdp h)).2];exact ⟨by rw [f1];exact (hβ k j h).1.symm,by rw [f2];exact (hβ k j h).2.symm⟩
 have hfq:∀ j k,rk (ds++swp ps) j=some k→β2 k=β' j∧κ2 k=κ' j:=fun j k h=>by
  rw [xR] at h;cases e:rk ds j with
  | some d =>
   rw [e] at h;have:=Kt h;subst this;exact b2d _ _ ((bU hinjd).2 e)
  | none =>
   rw [e] at h;exact hfix k j ((bU hinj).1 h)
 have hb:∀ k,lk .gone (kK ps ds h' s.h) k=match rk (swp ds) k with | some j=>AO.ren (ds++swp ps) (lk .gone h' j) | none=>match rk ps k with | some j=>AO.ren (ds++swp ps) (lk .gone h' j) | none=>AO.pgs ds (lk .gone s.h k):=fun k=>by
  unfold kK;rw [Dk,Dk,CF];all_goals
   cases rk (swp ds) k with
   | some j=>rfl
   | none=>cases rk ps k<;>rfl
 have hnH:∀ n,lv s.h n→(∀ n',¬ τ n n')→¬ H (β n):=by rintro n hn hk ⟨n2,n2',h1,h4,h5⟩;have:=r.hp.inj n2 n h4 hn h5;subst this;exact hk _ h1
 have hnkj:∀ j,lv h' j→¬ c.K (β' j):=fun j hj hk=>hr'.nk j hj ⟨r.Klt _ hk,hKH _ hk⟩;have hnxj:∀ j,lv h' j→¬ c.X (β' j):=fun j hj hk=>hr'.nx j hj ⟨.inl hk,hXH _ hk⟩;have hin:∀ j,lv h' j→β' j<w.heap.size→H (β' j):=fun j hj hlt=>Classical.byContradiction fun hn=>hr'.nk j hj ⟨hlt,hn⟩;let ζ0:Nat→Nat:=fun j=>match rk ds j with | some d=>d | none=>(rk (swp ps) j).getD 0
 let ζ:Nat→Nat:=tF ζ0 (fun j i=>gk (ζ0 j) i)
 have hζd:∀ {k j},rk (swp ds) k=some j→ζ0 j=k:=fun {k j} h=>by simp only [ζ0,(bU hinjd).1 h]
 have hζp:∀ {k j},rk ps k=some j→ζ0 j=k:=fun {k j} h=>by
  have h1:=(bU hinj).2 h;have h2:=(hchk h).1;have h3:rk ds j=none:=by
   cases e:rk ds j with
   | none=>rfl
   | some d=>have:=(hds e).2.1;omega
  simp only [ζ0,h3,h1];rfl
 have hcase:∀ n,lv (kK ps ds h' s.h) n→(∃ j,lv h' j∧β2 n=β' j∧n=ζ j)∨(lv s.h n∧β2 n=β n∧¬ H (β n)):=by
  rintro n (hk | ⟨m,i,rfl,hk⟩)
  ·rw [hb] at hk;cases e:rk (swp ds) n with
   | some j =>
    rw [e] at hk;refine .inl ⟨j,.inl (jY.1 hk),(b2d n j e).1,?_⟩;show n=tF ζ0 _ j;rw [fc (by have:=(hds ((bU hinjd).1 e)).2.1;omega),hζd e]
   | none =>
    rw [e] at hk;simp only at hk;cases e2:rk ps n with
    | none =>
     rw [e2] at hk;have hk:(lk .gone s.h n).live:=by simpa [AO.live_pgs] using hk
     have hn6:=r.hp.sm n hk;refine .inr ⟨.inl hk,(b2n n hn6 e).1,hnH n (.inl hk) ?_⟩;rintro n' (⟨g,_⟩ | ⟨k,j,i,_,_,rfl,_⟩)
     ·rw [e2] at g;cases g
     ·have:=cL k i;omega
    | some j =>
     rw [e2] at hk;refine .inl ⟨j,.inl (jY.1 hk),(hfix n j e2).1,?_⟩;show n=tF ζ0 _ j;rw [fc (hchk e2).2.1,hζp e2]
  ·rw [hb] at hk;cases e:rk (swp ds) m with
   | some j =>
    rw [e] at hk;have hk:=nH.1 hk;have hi:=(AO.inn_isR hk).1;refine .inl ⟨gk j i,bq hk,(b2dv m j e i hi (AO.inn_isR hk).2).1,?_⟩;show gk m i=tF ζ0 _ (gk j i);rw [du hi,hζd e]
   | none =>
    rw [e] at hk;simp only at hk;cases e2:rk ps m with
    | none =>
     rw [e2] at hk;have hk:(lk .gone s.h m).inn i:=by simpa only [AO.inn_pgs] using hk
     have hi:=(AO.inn_isR hk).1;refine .inr ⟨bq hk,(b2v m i hi e e2).1,hnH _ (bq hk) ?_⟩;rintro n' (⟨_,g⟩ | ⟨k,j,i',g,hi',e3,_⟩)
     ·have:=cL m i;omega
     ·obtain ⟨rfl,rfl⟩:=dR hi hi' e3;rw [e2] at g;cases g
    | some j =>
     rw [e2] at hk;have hk:=nH.1 hk;have hi:=(AO.inn_isR hk).1;refine .inl ⟨gk j i,bq hk,(b2h m j i hi e2).1,?_⟩;show gk m i=tF ζ0 _ (gk j i);rw [du hi,hζp e2]
 have hA:∀ b,¬ c.XX s.h β b→b<w.heap.size→¬ c.XX (kK ps ds h' s.h) β2 b:=by
  rintro b hb1 hlt (h | ⟨k,hk,rfl⟩)
  ·exact hb1 (.inl h)
  ·rcases hcase k hk with ⟨j,hj,e,_⟩ | ⟨hkl,e,_⟩
   ·rw [e] at hb1 hlt;exact hb1 (hHX _ (hin j hj hlt))
   ·rw [e] at hb1;exact hb1 (.inr ⟨k,hkl,rfl⟩)
 have hB:∀ b,¬ c'.XX h' β' b→b<w'.heap.size→¬ c.XX (kK ps ds h' s.h) β2 b:=by
  rintro b hb1 _ (h | ⟨k,hk,rfl⟩)
  ·exact hb1 (.inl ⟨.inl h,hXH _ h⟩)
  ·rcases hcase k hk with ⟨j,hj,e,_⟩ | ⟨hkl,e,e2⟩
   ·rw [e] at hb1;exact hb1 (.inr ⟨j,hj,rfl⟩)
   ·rw [e] at hb1;exact hb1 (.inl ⟨.inr ⟨k,hkl,rfl⟩,e2⟩)
 have hC:∀ b,¬ c.XX s.h β b→b<w.heap.size→w'.heap[b]? = w.heap[b]? := fun b hb1 hlt=>hr'.kp.block b ⟨hlt,fun h=>hb1 (hHX b h)⟩;have hSK:∀ j,rk (swp ds) j=none→j<1000000→rk ps j=none→SK β β2 κ κ2 j:=fun j h1 h2 h3=>⟨(b2n j h2 h1).1,(b2n j h2 h1).2,fun i hi=>b2v j i hi h1 h3⟩;have hSK2:ps=[]→(∀ j,(lk .gone h' j).isR=false)→∀ j,rk (swp ds) j=none→SK β β2 κ κ2 j:=by
  intro hp0 hz;have key:∀ n,rk (swp ds) n=none→β2 n=β n∧κ2 n=κ n:=by
   intro n hn;by_cases h6:n<1000000
   ·exact b2n n h6 hn
   ·have e0:gk (n / 1000000-1) (n % 1000000)=n:=by unfold gk;omega
    have hi:n % 1000000<1000000:=Nat.mod_lt _ (by decide);have e1:β2 (gk (n / 1000000-1) (n % 1000000))=β (gk (n / 1000000-1) (n % 1000000))∧κ2 (gk (n / 1000000-1) (n % 1000000))=κ (gk (n / 1000000-1) (n % 1000000)):=by
     cases e:rk (swp ds) (n / 1000000-1) with
     | none=>exact b2v _ _ hi e (by rw [hp0];rfl)
     | some j=>exact ⟨by simp [β2,du hi,e,hz j],by simp [κ2,du hi,e,hz j]⟩
    rw [e0] at e1;exact e1
  exact fun j hj=>⟨(key j hj).1,(key j hj).2,fun i _=>key _ (by
   cases e:rk (swp ds) (gk j i) with
   | none=>rfl
   | some l=>have:=(hds ((bU hinjd).1 e)).2.2;have:=cL j i;omega)⟩
 have hmend:∀ {v:AV} {n:Nat},AV.men n (AV.pgs ds v)=true→rk (swp ds) n=none:=fun {v n} h=>by
  cases e:rk (swp ds) n with
  | none=>rfl
  | some j=>rw [men_pgs (mR ((bU hinjd).1 e))] at h;cases h
 have hmendO:∀ {v:AO} {n:Nat},AO.men n (AO.pgs ds v)=true→rk (swp ds) n=none:=fun {v n} h=>by
  cases e:rk (swp ds) n with
  | none=>rfl
  | some j=>rw [AO.men_pgs (mR ((bU hinjd).1 e))] at h;cases h
 have r2:Rel c ⟨s.n,DC ds s.t,kK ps ds h' s.h⟩ a w' β2 κ2:=by
  refine ⟨r.df,r.sz,fun i => ?_,⟨fun k => ?_,fun i j hi hj e => ?_,r.hp.kp.trans hr'.kp fun b hb1=>⟨r.Klt b hb1,hKH b hb1⟩,fun k hk => ?_,fun k hk => ?_,fun k hk hk6 => ?_,fun k hk => ?_⟩⟩
  ·show G w' (c.XX (kK ps ds h' s.h) β2) β2 κ2 (lk .any (DC ds s.t) i) _;rw [Cu];rcases hnoR with hnoR | ⟨hp0,hz⟩;case inr=>exact ((r.tm i).pgs ds).mono hC hA (fun j hj=>hSK2 hp0 (hz v h' hp) j (hmend hj))
   have hR:=AV.hasR_pgs ds (AS.noR_t hnoR i);exact ((r.tm i).pgs ds).mono2 hC hA hR (fun j hj=>b2n j (men_lt hR hj) (hmend hj))
  ·show HO w' (c.XX (kK ps ds h' s.h) β2) β2 κ2 k (lk .gone (kK ps ds h' s.h) k);rw [hb];cases e:rk (swp ds) k with
   | some j=>exact (hr'.ob j).ren (X':=c.XX (kK ps ds h' s.h) β2) hfq hB (b2d k j e) (fun i hi hz=>b2dv k j e i hi hz)
   | none =>
    simp only;cases e2:rk ps k with
    | none =>
     by_cases hg0:lk .gone s.h k = .gone
     ·rw [hg0,AO.pgs_gone];trivial
     ·have hk6:=r.hp.sg k hg0;have hmono:((AO.pgs ds (lk .gone s.h k)).live→w'.heap[β k]? = w.heap[β k]?)→(∀ i,(AO.pgs ds (lk .gone s.h k)).inn i→w'.heap[β (gk k i)]? = w.heap[β (gk k i)]?)→HO w' (c.XX (kK ps ds h' s.h) β2) β2 κ2 k (AO.pgs ds (lk .gone s.h k)):=fun q1 q2=>by
       rcases hnoR with hnoR | ⟨hp0,hz⟩
       ·have hR:=AO.hasR_pgs ds (AS.noR_h hnoR k);exact ((r.hp.ob k).pgs ds).mono2 hC hA hR (fun j hj=>b2n j (AO.men_lt hR hj) (hmendO hj)) (hSK k e hk6 e2) q1 q2
       ·exact ((r.hp.ob k).pgs ds).mono hC hA (fun j hj=>hSK2 hp0 (hz v h' hp) j (hmendO hj)) (hSK k e hk6 e2) q1 q2
      refine hmono (fun hkl => ?_) (fun i hkl => ?_)
      ·have hkl:(lk .gone s.h k).live:=by simpa [AO.live_pgs] using hkl
       refine hr'.kp.block _ ⟨r.hp.lt (.inl hkl),hnH k (.inl hkl) ?_⟩;rintro n' (⟨g,_⟩ | ⟨m,j,i,_,_,rfl,_⟩)
       ·rw [e2] at g;cases g
       ·have:=cL m i;omega
      ·have hkl:(lk .gone s.h k).inn i:=by simpa only [AO.inn_pgs] using hkl
       have hi:=(AO.inn_isR hkl).1;refine hr'.kp.block _ ⟨r.hp.lt (bq hkl),hnH _ (bq hkl) ?_⟩;rintro n' (⟨_,g⟩ | ⟨m,j,i',g,hi',e3,_⟩)
       ·have:=cL k i;omega
       ·obtain ⟨rfl,rfl⟩:=dR hi hi' e3;rw [e2] at g;cases g
    | some j=>exact (hr'.ob j).ren (X':=c.XX (kK ps ds h' s.h) β2) hfq hB (hfix k j e2) (fun i hi _=>b2h k j i hi e2)
  ·rcases hcase i hi with ⟨ji,hji,ei,ci⟩ | ⟨li,ei,ni⟩<;>rcases hcase j hj with ⟨jj,hjj,ej,cj⟩ | ⟨lj,ej,nj⟩
   ·have e3:ji=jj:=hr'.inj ji jj hji hjj (by rw [← ei,← ej];exact e);rw [ci,cj,e3]
   ·have e3:β' ji=β j:=by rw [← ei,← ej];exact e
    exact absurd (hin ji hji (by rw [e3];exact r.hp.lt lj)) (by rw [e3];exact nj)
   ·have e3:β' jj=β i:=by rw [← ej,← ei];exact e.symm
    exact absurd (hin jj hjj (by rw [e3];exact r.hp.lt li)) (by rw [e3];exact ni)
   ·exact r.hp.inj i j li lj (by rw [← ei,← ej];exact e)
  ·rcases hcase k hk with ⟨j,hj,e,_⟩ | ⟨hkl,e,_⟩
   ·rw [e];exact hnkj j hj
   ·rw [e];exact r.hp.nk k hkl
  ·rcases hcase k hk with ⟨j,hj,e,_⟩ | ⟨hkl,e,_⟩
   ·rw [e];exact hnxj j hj
   ·rw [e];exact r.hp.nx k hkl
  ·have e:rk (swp ds) k=none:=by
    cases e:rk (swp ds) k with
    | none=>rfl
    | some j=>have:=(hds ((bU hinjd).1 e)).2.2;omega
   rw [(b2n k hk6 e).1,(b2n k hk6 e).2];exact r.hp.fix k hk hk6
  ·have hk:lk .gone (kK ps ds h' s.h) k ≠ .gone:=hk;rw [hb] at hk;cases e:rk (swp ds) k with
   | some j=>have:=(hds ((bU hinjd).1 e)).2.2;omega
   | none =>
    rw [e] at hk;simp only at hk;cases e2:rk ps k with
    | none=>rw [e2] at hk;exact r.hp.sg k (fun e3=>hk (by rw [e3,AO.pgs_gone]))
    | some j=>exact (hchk e2).2.2
 exact hK s' _ w' β2 κ2 h3 (bE r2 (hG.ren hfq hB) h2)
end
def oN (x:List UInt8):kA→kA
 | []=>[(x,none)]
 | (k,r)::es=>if k=x then (k,none)::es else (k,r)::oN x es
theorem w8 {x:List UInt8}:∀ {es:kA},(∀ i,i<es.length→(es.getD i bY).1≠x)→oN x es=es++[(x,none)]
 | [],_=>rfl
 | (k,r)::es,h=>by have h0:k≠x:=h 0 (by simp);rw [oN,if_neg h0,w8 (es:=es) fun i hi=>by simpa using h (i+1) (by simpa using hi)];rfl
theorem uQ {x:List UInt8}:∀ {es:kA} {j:Nat},(es.map (·.1)).Nodup→j<es.length→(es.getD j bY).1=x→oN x es=es.set j (x,none)
 | [],j,_,h,_=>by simp at h
 | (k,r)::es,0,_,_,h=>by
  have h:k=x:=h;simp [oN,h]
 | (k,r)::es,j+1,hn,hj,h=>by
  rw [List.map_cons,List.nodup_cons] at hn;have hj':j<es.length:=by simpa using hj
  have h:(es.getD j bY).1=x:=by simpa using h
  have hne:k≠x:=by rintro rfl;refine hn.1 (List.mem_map.2 ⟨es.getD j bY,?_,h⟩);rw [Kh,Ki hj'];exact List.getElem_mem hj'
  simp only [oN,if_neg hne,uQ hn.2 hj' h,List.set_cons_succ]
section
variable {P:Program} {ops:Array Oper} {o:Oper} {s:AS} {c:Cx P} {a:Act} {w:World} {β:Nat→Nat} {κ:Nat→Nat×Nat}
theorem Rel.entry (r:Rel c s a w β κ) {k:Nat} {e:TypeId} {sz:Nat} {es es2:kA} (hk:lk .gone s.h k = .rmap e sz es) {w':World}
 {ents:Array MapEntry} {clock:Nat} (hw:∀ i,i≠β k→w'.heap[i]? = w.heap[i]?) (hkp:cI (fun i=>i≠β k) w w') (hm:w'.heap[β k]? = some (.map ents clock)) (hs:ents.size=es2.length) (hl6:es2.length≤1000000)
 (hei:∀ i,i<es2.length→(i<es.length∧es2.getD i bY=es.getD i bY)∨(es2.getD i bY).2=none)
 (hents:∀ i (h:i<ents.size),ents[i].key = .string ⟨(es2.getD i bY).1.toArray⟩∧ents[i].born<clock∧((es2.getD i bY).2≠none→zu w (c.XX s.h β) (β (gk k i)) (κ (gk k i)) e sz ents[i].val (es.getD i bY).2))
 (hborn:∀ i j (hi:i<ents.size) (hj:j<ents.size),i<j→ents[i].born<ents[j].born) (hkeys:(es2.map (·.1)).Nodup∧∀ k∈es2.map (·.1),k.length≤maxLen) :
 Rel c ⟨s.n,s.t,ins k (.rmap e sz es2) s.h⟩ a w' β κ:=by
 have hlk:(lk .gone s.h k).live:=by rw [hk];trivial
 have hinn:∀ i,(AO.rmap e sz es2).inn i→(AO.rmap e sz es).inn i:=by
  rintro i ⟨h1,h2,y,ys,h3⟩;rcases hei i h2 with ⟨g1,g2⟩ | g
  ·exact ⟨h1,g1,y,ys,by rw [← g2];exact h3⟩
  ·rw [g] at h3;cases h3
 have hlv:∀ n,lv (ins k (.rmap e sz es2) s.h) n→lv s.h n:=by
  rintro n (h | ⟨m,i,rfl,h⟩)
  ·rw [az] at h;by_cases ej:n=k
   ·rw [ej];exact .inl hlk
   ·rw [if_neg ej] at h;exact .inl h
  ·rw [az] at h;by_cases ej:m=k
   ·rw [if_pos ej] at h;refine bq ?_;rw [ej,hk];exact hinn i h
   ·rw [if_neg ej] at h;exact bq h
 have hX:∀ b,¬ c.XX s.h β b→b<w.heap.size→¬ c.XX (ins k (.rmap e sz es2) s.h) β b:=by
  rintro b hb _ (h | ⟨n,h1,h2⟩)
  ·exact hb (.inl h)
  ·exact hb (.inr ⟨n,hlv n h1,h2⟩)
 have hw2:∀ b,¬ c.XX s.h β b→b<w.heap.size→w'.heap[b]? = w.heap[b]? := fun b hb _=>hw b (fun e1=>hb (.inr ⟨k,.inl hlk,e1.symm⟩));refine ⟨r.df,r.sz,fun i=>(r.tm i).mono hw2 hX (fun _ _=>.refl),⟨fun n => ?_,fun i j hi hj e=>r.hp.inj i j (hlv i hi) (hlv j hj) e,r.hp.kp.trans hkp (fun b hb e1=>r.hp.nk k (.inl hlk) (e1 ▸ hb)),fun j hj=>r.hp.nk j (hlv j hj),fun j hj=>r.hp.nx j (hlv j hj),r.hp.fix,fun j hj => ?_⟩⟩
 ·show HO w' (c.XX (ins k (.rmap e sz es2) s.h) β) β κ n (lk .gone (ins k (.rmap e sz es2) s.h) n);rw [az];by_cases ej:n=k
  ·rw [if_pos ej,ej];refine ⟨ents,clock,hm,hs,hl6,fun i hi => ?_,hborn,hkeys⟩;obtain ⟨a1,a2,a3⟩:=hents i hi;refine ⟨a1,a2,?_⟩;rcases hei i (by omega) with ⟨g4,g5⟩ | g
   ·have hin:∀ z zs',(es.getD i bY).2=some (z::zs')→(lk .gone s.h k).inn i:=fun z zs' h=>by rw [hk];exact ⟨by omega,g4,z,zs',h⟩
    rw [g5] at a3 ⊢;generalize (es.getD i ([],none)).2=o at a3 hin ⊢;match o,a3,hin with
    | none,_,_=>trivial
    | some [],a5,_=>exact a5 (by simp)
    | some (z::zs'),a5,hin =>
     have a5:=a5 (by simp);exact ⟨a5.1,a5.2.1,a5.2.2.mono hw2 hX (hw _ (r.hp.vne hlk (hin z zs' rfl)))⟩
   ·rw [g];trivial
  ·rw [if_neg ej];refine (r.hp.ob n).mono hw2 hX (fun _ _=>.refl) .refl (fun hl => ?_) (fun i hl => ?_)
   ·exact hw _ fun e3=>ej (r.hp.inj n k (.inl hl) (.inl hlk) e3)
   ·exact hw _ (r.hp.vne hlk hl)
 ·have hj:lk .gone (ins k (.rmap e sz es2) s.h) j ≠ .gone:=hj;rw [az] at hj;by_cases ej:j=k
  ·rw [ej];exact r.hp.sm k hlk
  ·rw [if_neg ej] at hj;exact r.hp.sg j hj
theorem Cy {W:World} {b:Nat} {x:Obj} (h:W.heap[b]? = some x):({ W with heap:=W.heap.setIfInBounds b x }:World)=W:=by
 have:W.heap.setIfInBounds b x=W.heap:=by
  refine Array.ext (by simp) fun i hi1 hi2 => ?_;rw [Array.getElem_setIfInBounds];split
  ·rename_i e1;subst e1;exact (Array.getElem?_eq_some_iff.1 h).2.symm
  ·rfl
 rw [this]
theorem DA (r:Rel c s a w β κ) {t K E:TypeId} {k:Nat} {e:TypeId} {sz:Nat} {es:kA} {y:List UInt8} {z:Value} (hk:lk .gone s.h k = .rmap e sz es)
 (hu:P.underlying t=some (.map K E)) (hK:P.underlying K=some .string) (hz:zeroOf P E=some z) (hl6:es.length<1000000) (hy:y.length≤maxLen) :
 ∃ (v0:Value) (st:Nat) (w':World),(Instr.mapEntry t (.map (some (β k))) (.string ⟨y.toArray⟩)).run P w = .ok (.tuple #[v0,goInt st]) w'∧(Instr.mapEntry t (.map (some (β k))) (.string ⟨y.toArray⟩)).run P w' = .ok (.tuple #[v0,goInt st]) w' ∧
  Rel c ⟨s.n,s.t,ins k (.rmap e sz (oN y es)) s.h⟩ a w' β κ:=by
 have ho:=r.hp.ob k;rw [hk] at ho;obtain ⟨ents,clock,h1,h2,hl,h3,h4,h5,h6⟩:=rA (P:=P) ho y hK;have hik:MapKept.IsKey .string (Value.string ⟨y.toArray⟩):=by simp [MapKept.IsKey]
 have hck:∀ (e:Bool) (W:World),(Instr.checkKey e 10000 K (.string ⟨y.toArray⟩)).run P W = .ok () W:=fun e W=>MapKept.run_checkKey (k:=.string ⟨y.toArray⟩) hK hik e 9999;rcases h6 with ⟨f1,f2⟩ | ⟨j,hj,f1,f2⟩
 ·have run1:(Instr.mapEntry t (.map (some (β k))) (.string ⟨y.toArray⟩)).run P w = .ok (.tuple #[z,goInt clock]) { w with heap:=w.heap.setIfInBounds (β k) (.map (ents.push { key:=.string ⟨y.toArray⟩,val:=z,born:=clock }) (clock+1)) }:=by simp [Instr.mapEntry,aL hu,bK h1,hck,f1,jM hz,MapKept.run_setObj_map _ h1,Result.andThen]
  have hes:oN y es=es++[(y,none)]:=w8 f2;have hm1:({ w with heap:=w.heap.setIfInBounds (β k) (.map (ents.push { key:=.string ⟨y.toArray⟩,val:=z,born:=clock }) (clock+1)) }:World).heap[β k]? = some (.map (ents.push { key:=.string ⟨y.toArray⟩,val:=z,born:=clock }) (clock+1)):=(MapKept.heap_set h1).1;have hgl:∀ i,i<es.length→(es++[(y,none)]).getD i bY=es.getD i bY:=fun i hi=>by simp [Kh,List.getElem?_append_left hi]
  have hgj:(es++[(y,none)]).getD es.length bY=(y,none):=by simp [Kh]
  have rel:Rel c ⟨s.n,s.t,ins k (.rmap e sz (oN y es)) s.h⟩ a { w with heap:=w.heap.setIfInBounds (β k) (.map (ents.push { key:=.string ⟨y.toArray⟩,val:=z,born:=clock }) (clock+1)) } β κ:=by
   rw [hes];refine r.entry hk (fun i hi=>(MapKept.heap_set h1).2 i hi) (r5 w _ _) hm1 (by simp [h2]) (by simp;omega) (fun i hi => ?_) (fun i hi => ?_) (fun i j' hi hj' hlt' => ?_) ?_
   ·by_cases e1:i<es.length
    ·exact .inl ⟨e1,hgl i e1⟩
    ·have:i=es.length:=by simp at hi;omega
     subst this;exact .inr (by rw [hgj])
   ·by_cases hi2:i<ents.size
    ·rw [Array.getElem_push_lt hi2,hgl i (by omega)];exact ⟨(h3 i hi2).1,by have:=(h3 i hi2).2.1;omega,fun _=>(h3 i hi2).2.2⟩
    ·have:i=ents.size:=by simp at hi;omega
     subst this;rw [Array.getElem_push_eq];have e0:ents.size=es.length:=h2;refine ⟨?_,by simp,fun h => ?_⟩
     ·show Value.string ⟨y.toArray⟩=_;rw [e0,hgj]
     ·rw [e0,hgj] at h;exact absurd rfl h
   ·by_cases hj2:j'<ents.size
    ·rw [Array.getElem_push_lt hj2,Array.getElem_push_lt (by omega:i<ents.size)];exact h4 i j' (by omega) hj2 hlt'
    ·have:j'=ents.size:=by simp at hj';omega
     subst this;rw [Array.getElem_push_eq,Array.getElem_push_lt hlt'];exact (h3 i hlt').2.1
   ·refine ⟨?_,fun u hu1 => ?_⟩
    ·rw [List.map_append,List.nodup_append];refine ⟨h5.1,by simp,fun u hu1 v' hv' => ?_⟩;simp only [List.map_cons,List.map_nil,List.mem_singleton] at hv';subst hv';obtain ⟨p,hp,rfl⟩:=List.mem_map.1 hu1;obtain ⟨i,hi,rfl⟩:=List.getElem_of_mem hp;have:=f2 i hi;simpa [Kh,Ki hi] using this
    ·rw [List.map_append,List.mem_append] at hu1;rcases hu1 with hu1 | hu1
     ·exact h5.2 u hu1
     ·simp only [List.map_cons,List.map_nil,List.mem_singleton] at hu1;subst hu1;exact hy
  refine ⟨z,clock,_,run1,?_,rel⟩;have ho2:=rel.hp.ob k;have hk2:lk .gone (ins k (.rmap e sz (oN y es)) s.h) k = .rmap e sz (oN y es):=by rw [az,if_pos rfl]
  rw [show lk .gone (⟨s.n,s.t,ins k (.rmap e sz (oN y es)) s.h⟩:AS).h k = .rmap e sz (oN y es) from hk2] at ho2;obtain ⟨ents2,clock2,g1,g2,gl,g3,g4,g5,g6⟩:=rA (P:=P) ho2 y hK;rw [hm1] at g1;simp only [Kr,Obj.map.injEq] at g1;obtain ⟨rfl,rfl⟩:=g1;rcases g6 with ⟨_,f3⟩ | ⟨j,hj,f3,f4⟩
  ·exfalso;refine f3 es.length (by rw [hes];simp) ?_;rw [hes,hgj]
  ·have hje:j=ents.size:=by
    rw [hes] at f4;by_cases e1:j<es.length
    ·rw [hgl j e1] at f4;exact absurd f4 (f2 j e1)
    ·simp at hj;omega
   subst hje;have hsame:(ents.push { key:=.string ⟨y.toArray⟩,val:=z,born:=clock }).modify ents.size (fun e=>{ e with key:=.string ⟨y.toArray⟩ })=ents.push { key:=.string ⟨y.toArray⟩,val:=z,born:=clock }:=by
    refine Array.ext (by simp) fun i hi1 hi2 => ?_;rw [Array.getElem_modify];split
    ·rename_i e;subst e;simp
    ·rfl
   simp only [Array.getElem_push_eq] at f3;generalize hW:({ w with heap:=w.heap.setIfInBounds (β k) (.map (ents.push { key:=.string ⟨y.toArray⟩,val:=z,born:=clock }) (clock+1)) }:World)=W at hm1 f3 ⊢;have hid:({ W with heap:=W.heap.setIfInBounds (β k) (.map (ents.push { key:=.string ⟨y.toArray⟩,val:=z,born:=clock }) (clock+1)) }:World)=W:=Cy hm1;have:(Instr.mapEntry t (.map (some (β k))) (.string ⟨y.toArray⟩)).run P W = .ok (.tuple #[z,goInt clock]) { W with heap:=W.heap.setIfInBounds (β k) (.map (ents.push { key:=.string ⟨y.toArray⟩,val:=z,born:=clock }) (clock+1)) }:=by simp [-Array.toList_push,Instr.mapEntry,aL hu,bK hm1,hck,f3,MapKept.run_keyThatStays hik,hsame,MapKept.run_setObj_map _ hm1,Result.andThen]
   rw [this,hid]
 ·have hjk:ents[j].key = .string ⟨y.toArray⟩:=by rw [(h3 j hj).1,f2]
  have hsame:ents.modify j (fun e=>{ e with key:=.string ⟨y.toArray⟩ })=ents:=by
   refine Array.ext (by simp) fun i hi1 hi2 => ?_;rw [Array.getElem_modify];split
   ·rename_i e;subst e;exact EA hjk
   ·rfl
  have hid:({ w with heap:=w.heap.setIfInBounds (β k) (.map ents clock) }:World)=w:=Cy h1;have run1:(Instr.mapEntry t (.map (some (β k))) (.string ⟨y.toArray⟩)).run P w = .ok (.tuple #[ents[j].val,goInt ents[j].born]) w:=by
   have:(Instr.mapEntry t (.map (some (β k))) (.string ⟨y.toArray⟩)).run P w = .ok (.tuple #[ents[j].val,goInt ents[j].born]) { w with heap:=w.heap.setIfInBounds (β k) (.map ents clock) }:=by simp [Instr.mapEntry,aL hu,bK h1,hck,f1,Ks hj,hjk,MapKept.run_keyThatStays hik,hsame,MapKept.run_setObj_map _ h1,Result.andThen]
   rw [this,hid]
  refine ⟨_,_,w,run1,run1,?_⟩;rw [uQ h5.1 (by omega) f2];have hgs:∀ i,i<es.length→(es.set j (y,none)).getD i bY=if j=i then (y,none) else es.getD i bY:=by
   intro i hi;simp only [Kh,List.getElem?_set];by_cases e:j=i
   ·subst e;simp [hi]
   ·simp [e]
  refine r.entry hk (fun _ _=>rfl) ⟨rfl,rfl,rfl,Nat.le_refl _,fun _ _=>rfl⟩ h1 (by simp [h2]) (by simp;omega) (fun i hi => ?_) (fun i hi => ?_) h4 ?_
  ·have hi:i<es.length:=by simpa using hi
   rw [hgs i hi];by_cases e1:j=i
   ·rw [if_pos e1];exact .inr rfl
   ·rw [if_neg e1];exact .inl ⟨hi,rfl⟩
  ·rw [hgs i (by omega)];by_cases e1:j=i
   ·subst e1;rw [if_pos rfl];exact ⟨hjk,(h3 j hj).2.1,fun h=>absurd rfl h⟩
   ·rw [if_neg e1];exact ⟨(h3 i hi).1,(h3 i hi).2.1,fun _=>(h3 i hi).2.2⟩
  ·have:(es.set j (y,none)).map (·.1)=es.map (·.1):=by
    rw [List.map_set];refine List.ext_getElem (by simp) fun n hn1 hn2 => ?_;rw [List.getElem_set];split
    ·rename_i e;subst e;have:j<es.length:=by omega
     simp only [List.getElem_map];rw [← f2];simp [Kh,Ki this]
    ·rfl
   rw [this];exact h5
end
section
variable {P:Program} {l:List Oper}
def ub (e:cF):Bool:=(e.ws.all fun p => !p.2.hasR)&&e.os.all fun p => !p.2.hasR
theorem Dt {α:Type} {p:α→Bool} {k:Nat} {v:α} (hv:p v=true):∀ {l:List (Nat×α)},(l.all fun x=>p x.2)=true→((ins k v l).all fun x=>p x.2)=true
 | [],_=>by simp [ins,hv]
 | (j,u)::l,h=>by
  simp only [List.all_cons,Kj] at h;unfold ins;cases Nat.blt k j with
  | true=>simp only [cond_true,List.all_cons,Kj];exact ⟨hv,h⟩
  | false =>
   cases Nat.beq k j with
   | true=>simp only [cond_true,cond_false,List.all_cons,Kj];exact ⟨hv,h.2⟩
   | false=>simp only [cond_false,List.all_cons,Kj];exact ⟨h.1,Dt hv h.2⟩
theorem wv {α:Type} {p:α→Bool} {m:List (Nat×α)} (hm:(m.all fun x=>p x.2)=true):∀ {l:List (Nat×α)},(l.all fun x=>p x.2)=true→((im l m).all fun x=>p x.2)=true
 | [],_=>hm
 | (k,v)::l,h=>by simp only [List.all_cons,Kj] at h;exact Dt h.1 (wv hm h.2)
theorem Fx:∀ (es:List cF) (bs:List Bool) (s:AS),s.noR=true→es.all ub=true→(sL es bs s).noR=true
 | [],bs,s,h,_=>by cases bs<;>exact h
 | e::es,[],s,h,_=>h
 | e::es,b::bs,s,h,he=>by
  simp only [List.all_cons,Kj] at he;rw [sL];refine Fx es bs _ ?_ he.2;cases b with
  | false=>exact h
  | true =>
   simp only [AS.noR,Kj] at h;have h1:=he.1;simp only [ub,Kj] at h1;show ((e.app s).noR)=true;simp only [AS.noR,cF.app,Kj];exact ⟨wv (p:=fun v:AV => !v.hasR) h.1 h1.1,wv (p:=fun v:AO => !v.hasR) h.2 h1.2⟩
def rQ (P:Program) (ops:Array Oper) (cl:List (List Nat)) (J:(Nat→Bool)→Act→World→(Nat→Nat)→Prop) (i:Nat) (o:Oper) (s:AS) (e:cF):Prop :=
 ∀ (s':AS) (b:Nat→Bool),qM ops o s s'→(∀ k∈e.fr,DO k s')→(∀ p∈e.ex,G7 p.1 p.2 s')→s'.noR=true→b i=false→(∀ j x,b j=true→x∈cl.getD j []→b x=true)→(∀ x∈cl.getD i [],b x=true) →
  ∀ (c:Cx P) a w β κ,Rel c s' a w β κ→J b a w β→∀ (K:Act→World→Prop) (Q:Exit→Act→World→Prop),(∀ s'' a' w' β' κ',jr (e.app s') s''→Rel c s'' a' w' β' κ'→J (upd b i true) a' w' β'→K a' w') →
   if Region.wanted o (yielded ops a.tmps) then o.wp P a w K Q else K (a.put o.dst undef) w
theorem xg {id:Nat} {Q:Exit→AS→Prop} (hm:P.follows .mixedOrders=true) (n:Nat) (es:List cF) {s s1:AS} (J:(Nat→Bool)→Act→World→(Nat→Nat)→Prop) (hchk:(wg l n es s&&zL (k7 l []) es s&&zK (k7 l []) es s)=true) (hnr:(s.noR&&es.all ub)=true)
 (k1:(l.take n).length=es.length) (k2:s1=sL es (List.replicate es.length true) s) (k3:∀ (i:Nat) (o:Oper) (e:cF),(l.take n)[i]? = some o→es[i]? = some e→rQ P l.toArray (k7 l []) J i o (sL es ((List.range es.length).map fun j=>decide (j<i)) s) e) (hJ0:∀ a w β,J (fun _=>false) a w β)
 (ht:fy P l.toArray (l.drop n) Q s1):eE P (.region id l.toArray true) Q s:=fun c a w β κ r=>by
 simp only [Kj,wg] at hchk;obtain ⟨⟨⟨⟨⟨⟨c1,c2⟩,c3⟩,c5⟩,c6⟩,c7⟩,c8⟩:=hchk;have hen:es.length=n:=bP.1 c1;have hnl:n≤l.length:=by simpa [Nat.ble_eq] using c2
 rw [Kj] at hnr;have htk:∀ i,i<n→(l.take n)[i]? = l[i]? := fun i hi=>by rw [List.getElem?_take,if_pos hi]
 have htail:(∀ i o,n<i→l[i]? = some o→(i-1)∈aft o)∧(n<l.length→∀ j,j<n→j∈(k7 l []).getD n []):=by
  cases hd:l.drop n with
  | nil =>
   have hle:l.length≤n:=by simpa using hd
   exact ⟨fun i o hi ho=>by have:=(Kq.1 ho).1;omega,fun h=>by omega⟩
  | cons o0 os =>
   rw [hd] at c6;simp only [Kj] at c6;refine ⟨fun i o hi ho => ?_,fun _ j hj => ?_⟩
   ·have hget:os[i-(n+1)]? = some o:=by
     have:(l.drop n)[i-n]? = some o:=by rw [List.getElem?_drop,show n+(i-n)=i by omega];exact ho
     rw [hd,show i-n=(i-(n+1))+1 by omega,List.getElem?_cons_succ] at this;exact this
    have:=qq c6.2 _ o hget;rw [show n+(i-(n+1))=i-1 by omega] at this;exact this
   ·obtain ⟨x,hx,hb⟩:=List.any_eq_true.1 (Ku.1 c6.1 j (vG hj));have:j=x:=bP.1 hb;subst this;exact hx
 have main:∀ (f:Nat) (listed:Array Bool) (a:Act) (w:World) (β:Nat→Nat) (κ:Nat→Nat×Nat),listed.size=l.length→B2 l listed→cntF (listed.toList.take n)=f→(∀ i,n≤i→listed.getD i false=false) →
  Rel c (sL es (listed.toList.take n) s) a w β κ→J (fun j=>listed.getD j false) a w β→wpAny P .any l.toArray (lift c Q) (f+(l.length-n)) listed a w:=by
  intro f;induction f with
  | zero =>
   intro listed a w β κ hs hcl hcnt hun hr hJ;have hml:(listed.toList.take n).length=n:=by simp;omega
   have hall:=sq hcnt;rw [hml] at hall;rw [hall,← hen,← k2] at hr;have hlist:=ht c a w β κ hr;have hdl:(l.drop n).length=l.length-n:=by simp
   rw [Nat.zero_add,← hdl];refine pe c5 (l.drop n) n listed a w hs (fun j=>by rw [List.getElem?_drop]) (by rw [hdl];omega) (fun i hi => ?_) hun htail.1 hlist;have h1:=nF (listed:=listed) hi (by omega);rw [hall,List.getElem?_replicate,if_pos hi] at h1;exact (Kt h1).symm
  | succ f ih =>
   intro listed a w β κ hs hcl hcnt hun hr hJ;have hml:(listed.toList.take n).length=n:=by simp;omega
   obtain ⟨i0,hi0⟩:=uW (bs:=listed.toList.take n) (by omega);have hi0n:i0<n:=by have:=(Kq.1 hi0).1;omega
   have hgf:∀ i,i<n→(listed.toList.take n)[i]? = some (listed.getD i false):=fun i hi=>nF hi (by omega);have hready:∀ i∈Region.ready .any l.toArray listed,i<n∧listed.getD i false=false∧∃ o,l[i]? = some o∧∀ j∈aft o,listed.getD j false=true:=by
    intro i hi;obtain ⟨h4,o,ho,h5⟩:=gY.1 hi;have hil:i<l.length:=(Kq.1 ho).1;have h6:listed.getD i false=false:=by simp [Kk,Ks (show i<listed.size by omega)] at h4 ⊢;exact h4
    refine ⟨?_,h6,o,ho,h5⟩;by_cases hin:i<n
    ·exact hin
    ·exfalso;by_cases e:i=n
     ·subst e;have:=dK hcl l [] (fun j=>by simp) (fun k hk=>by simp at hk) (by simpa using c5) i o ho (by simpa using hil) h5 i0 (htail.2 hil i0 hi0n);rw [hgf i0 hi0n,this] at hi0;cases hi0
     ·have:=h5 _ (htail.1 i o (by omega) ho);rw [hun (i-1) (by omega)] at this;cases this
   rw [show f+1+(l.length-n)=(f+(l.length-n))+1 by omega];refine ⟨fun h0 => ?_,fun i hi => ?_⟩
   ·
    exfalso;have hex:∃ i,i<n∧listed.getD i false=false∧∀ j,j<i→listed.getD j false=true:=by
     have gen:∀ m,(∀ j,j<m→listed.getD j false=true)∨∃ i,i<m∧listed.getD i false=false∧∀ j,j<i→listed.getD j false=true:=by
      intro m;induction m with
      | zero=>exact .inl fun j hj=>by omega
      | succ m ihm =>
       rcases ihm with h | ⟨i,h1,h2,h3⟩
       ·cases hb:listed.getD m false with
        | true =>
         refine .inl fun j hj => ?_;by_cases e:j=m
         ·rw [e];exact hb
         ·exact h j (by omega)
        | false=>exact .inr ⟨m,by omega,hb,h⟩
       ·exact .inr ⟨i,by omega,h2,h3⟩
     rcases gen n with h | ⟨i,h1,h2,h3⟩
     ·have:=h i0 hi0n;rw [hgf i0 hi0n,this] at hi0;cases hi0
     ·exact ⟨i,h1,h2,h3⟩
    obtain ⟨i,h1,h2,h3⟩:=hex;have hil:i<l.length:=by omega
    have:i∈Region.ready .any l.toArray listed:=by
     refine gY.2 ⟨?_,l[i],Ki hil,fun j hj=>h3 j ?_⟩
     ·simp [Kk,Ks (show i<listed.size by omega)] at h2 ⊢;exact h2
     ·have:=nE c5 i _ (Ki hil) j hj;omega
    rw [h0] at this;cases this
   ·obtain ⟨hin,hif,o,ho,haft⟩:=hready i hi;obtain ⟨e,he⟩:∃ e,es[i]? = some e:=⟨es[i]'(by omega),Ki (by omega)⟩;have hloc:=k3 i o e (by rw [htk i hin];exact ho) he;have hbi:(listed.toList.take n)[i]? = some false:=by rw [hgf i hin,hif]
    let lex:=(List.range es.length).map fun j=>decide (j<i)
    have hlex:∀ j,j<n→lex[j]? = some (decide (j<i)):=fun j hj=>by simp [lex,hen,hj]
    have hlexl:lex.length=(listed.toList.take n).length:=by simp [lex,hen];omega
    have hord:∀ (j:Nat) (oj:Oper) (ej:cF),l[j]? = some oj→es[j]? = some ej→j≠i →
     (∀ r1 r2,(infos l.toArray (l.take n) es s)[min i j]? = some r1→(infos l.toArray (l.take n) es s)[max i j]? = some r2→oe (if i<j then e else ej) (if i<j then ej else e) r1 r2=true)→(listed.toList.take n)[j]? = lex[j]? := by
     intro j oj ej hoj hej hji hcf;have hjn:j<n:=by have:=(Kq.1 hej).1;omega
     have i1:=gr (ops:=l.toArray) (s:=s) k1 i o (by rw [htk i hin];exact ho);have i2:=gr (ops:=l.toArray) (s:=s) k1 j oj (by rw [htk j hjn];exact hoj);rw [hgf j hjn,hlex j hjn];rcases Nat.lt_or_ge j i with hlt | hge
     ·rw [show min i j=j by omega,show max i j=i by omega,if_neg (by omega),if_neg (by omega)] at hcf;have hm:=nG c3 hej i2 he i1 hlt (hcf _ _ i2 i1);have:=dK hcl l [] (fun j=>by simp) (fun k hk=>by simp at hk) (by simpa using c5) i o ho (by simpa using (Kq.1 ho).1) haft j hm;rw [this];simp [hlt]
     ·rw [show min i j=i by omega,show max i j=j by omega,if_pos (by omega),if_pos (by omega)] at hcf;have hm:=nG c3 he i1 hej i2 (by omega) (hcf _ _ i1 i2);have:listed.getD j false=false:=by
       cases hb:listed.getD j false with
       | false=>rfl
       | true =>
        have:=dK hcl l [] (fun j=>by simp) (fun k hk=>by simp at hk) (by simpa using c5) j oj hoj (by simpa using (Kq.1 hoj).1) (hcl j oj hoj hb) i hm;rw [hif] at this;cases this
      rw [this];simp;omega
    have hoj:∀ (j:Nat) (ej:cF),es[j]? = some ej→∃ oj,l[j]? = some oj:=fun j ej h=>by have:=(Kq.1 h).1;exact ⟨l[j]'(by omega),Ki (by omega)⟩
    have hii:(listed.toList.take n)[i]? = lex[i]? := by rw [hbi,hlex i hin];simp
    have hagree:qM l.toArray o (sL es lex s) (sL es (listed.toList.take n) s):=by
     refine ⟨by rw [BM,BM],fun t hlt => ?_,fun hmv x hx k hk => ?_⟩
     ·rw [uh,uh,kU hlexl.symm fun j ej h1 h2 => ?_];by_cases hji:j=i
      ·rw [hji];exact hii
      obtain ⟨oj,h3⟩:=hoj j ej h1;refine hord j oj ej h3 h1 hji fun r1 r2 q1 q2 => ?_;have i1:=gr (ops:=l.toArray) (s:=s) k1 i o (by rw [htk i hin];exact ho);by_cases hlt2:i<j
      ·rw [if_pos hlt2,if_pos hlt2];rw [show min i j=i by omega,i1] at q1;cases q1;exact Di h2 hlt
      ·rw [if_neg hlt2,if_neg hlt2];rw [show max i j=i by omega,i1] at q2;cases q2;exact C4 h2 hlt
     ·rw [uM,uM,kU hlexl.symm fun j ej h1 h2 => ?_];by_cases hji:j=i
      ·rw [hji];exact hii
      obtain ⟨oj,h3⟩:=hoj j ej h1;refine hord j oj ej h3 h1 hji fun r1 r2 q1 q2 => ?_;have i1:=gr (ops:=l.toArray) (s:=s) k1 i o (by rw [htk i hin];exact ho);have hxm:(sL es lex s).op x∈(bif Ic o.op then [] else o.op.operands.toList.map (sL es lex s).op):=by rw [hmv];exact List.mem_map.2 ⟨x,by simpa using hx,rfl⟩
      by_cases hlt2:i<j
      ·rw [if_pos hlt2,if_pos hlt2];rw [show min i j=i by omega,i1] at q1;cases q1;exact Dm h2 hxm hk
      ·rw [if_neg hlt2,if_neg hlt2];rw [show max i j=i by omega,i1] at q2;cases q2;exact Ck h2 hxm hk
    have hfree:∀ k∈e.fr,DO k (sL es (listed.toList.take n) s):=by
     intro k hk;have h1:=Ku.1 (Ku.1 c7 (e,i) (by rw [List.mem_iff_getElem?];exact ⟨i,by simp [he]⟩)) k hk;simp only [Kj] at h1;obtain ⟨f1,f2⟩:=sP h1.1;have hother:∀ (j:Nat) (e':cF),es[j]? = some e'→(listed.toList.take n)[j]? = some true→qm k e'=false:=by
      intro j e' h2 h3;have hne:i≠j:=by rintro rfl;rw [hbi] at h3;cases h3
      have h4:=Ku.1 h1.2 (e',j) (by rw [List.mem_iff_getElem?];exact ⟨j,by simp [h2]⟩);simp only [bG hne,Bool.false_or,Bool.or_eq_true,Bool.not_eq_true',Kj] at h4;rcases h4 with h4 | ⟨h4,h5⟩
      ·exact h4
      ·exfalso;obtain ⟨x,hx,hb⟩:=List.any_eq_true.1 h5;have hxi:i=x:=bP.1 hb;subst hxi;obtain ⟨oj,hoj'⟩:=hoj j e' h2;have hjn:j<n:=by have:=(Kq.1 h2).1;omega
       rw [hgf j hjn] at h3;have hb2:listed.getD j false=true:=Kt h3;have:=dK hcl l [] (fun j=>by simp) (fun k hk=>by simp at hk) (by simpa using c5) j oj hoj' (by simpa using (Kq.1 hoj').1) (hcl j oj hoj' hb2) i hx;rw [hif] at this;cases this
     refine ⟨fun t => ?_,fun t => ?_⟩
     ·rw [uh];cases hv:lw (fun e=>fU e.ws t) es (listed.toList.take n) with
      | none=>exact f1 t
      | some v =>
       obtain ⟨j,e',h2,h3,h4⟩:=nL hv;exact AH (hother j e' h2 h3) h4
     ·rw [uM];cases hv:lw (fun e=>fU e.os t) es (listed.toList.take n) with
      | none=>exact f2 t
      | some v =>
       obtain ⟨j,e',h2,h3,h4⟩:=nL hv;exact zo (hother j e' h2 h3) h4
    have honly:∀ p∈e.ex,G7 p.1 p.2 (sL es (listed.toList.take n) s):=by
     rintro ⟨k,t0⟩ hk;have h1:=Ku.1 (Ku.1 c8 (e,i) (by rw [List.mem_iff_getElem?];exact ⟨i,by simp [he]⟩)) (k,t0) hk;simp only [Kj] at h1;obtain ⟨f1,f2⟩:=ti h1.1;have hother:∀ (j:Nat) (e':cF),es[j]? = some e'→(listed.toList.take n)[j]? = some true→nK k t0 e'=false:=by
      intro j e' h2 h3;have hne:i≠j:=by rintro rfl;rw [hbi] at h3;cases h3
      have h4:=Ku.1 h1.2 (e',j) (by rw [List.mem_iff_getElem?];exact ⟨j,by simp [h2]⟩);simp only [bG hne,Bool.false_or,Bool.or_eq_true,Bool.not_eq_true',Kj] at h4;rcases h4 with h4 | ⟨h4,h5⟩
      ·exact h4
      ·exfalso;obtain ⟨x,hx,hb⟩:=List.any_eq_true.1 h5;have hxi:i=x:=bP.1 hb;subst hxi;obtain ⟨oj,hoj'⟩:=hoj j e' h2;have hjn:j<n:=by have:=(Kq.1 h2).1;omega
       rw [hgf j hjn] at h3;have hb2:listed.getD j false=true:=Kt h3;have:=dK hcl l [] (fun j=>by simp) (fun k hk=>by simp at hk) (by simpa using c5) j oj hoj' (by simpa using (Kq.1 hoj').1) (hcl j oj hoj' hb2) i hx;rw [hif] at this;cases this
     refine ⟨fun t htt => ?_,fun t => ?_⟩
     ·rw [uh];cases hv:lw (fun e=>fU e.ws t) es (listed.toList.take n) with
      | none=>exact f1 t htt
      | some v =>
       obtain ⟨j,e',h2,h3,h4⟩:=nL hv;exact wU (hother j e' h2 h3) h4 htt
     ·rw [uM];cases hv:lw (fun e=>fU e.os t) es (listed.toList.take n) with
      | none =>
       rw [Option.getD_none,Bool.eq_false_iff];intro hmen;refine uz (f2 t hmen) (fun j hj hjl => ?_) hv;have:=dK hcl l [] (fun j=>by simp) (fun k hk=>by simp at hk) (by simpa using c5) i o ho (by simpa using (Kq.1 ho).1) haft j hj;rw [hgf j (by omega),this]
      | some v =>
       obtain ⟨j,e',h2,h3,h4⟩:=nL hv;exact xm (hother j e' h2 h3) h4
    have hlater:∀ (j:Nat) (e':cF),i<j→es[j]? = some e'→(listed.toList.take n)[j]? = some true→(∀ r1 r2,oe e e' r1 r2=true)→False:=by
     intro j e' hij h1 h2 hcf;obtain ⟨oj,h3⟩:=hoj j e' h1;have:=hord j oj e' h3 h1 (by omega) fun r1 r2 _ _=>by rw [if_pos hij,if_pos hij];exact hcf r1 r2
     have hjn:j<n:=by have:=(Kq.1 h1).1;omega
     rw [h2,hlex j hjn] at this;simp at this;omega
    have hcl2:∀ j x,listed.getD j false=true→x∈(k7 l []).getD j []→listed.getD x false=true:=by
     intro j x hj hx;have hjl:j<l.length:=by apply Classical.byContradiction;intro hn;rw [Kk,Array.getElem?_eq_none (by omega)] at hj;cases hj
     exact dK hcl l [] (fun j=>by simp) (fun k hk=>by simp at hk) (by simpa using c5) j l[j] (Ki hjl) (by simpa using hjl) (hcl j _ (Ki hjl) hj) x hx
    have hcl3:∀ x∈(k7 l []).getD i [],listed.getD x false=true:=fun x hx=>dK hcl l [] (fun j=>by simp) (fun k hk=>by simp at hk) (by simpa using c5) i o ho (by simpa using (Kq.1 ho).1) haft x hx;have hop:=hloc _ (fun j=>listed.getD j false) hagree hfree honly (Fx es _ s hnr.1 hnr.2) hif hcl2 hcl3 c a w β κ hr hJ (wpAny P .any l.toArray (lift c Q) (f+(l.length-n)) (listed.setIfInBounds i true)) (lift c Q) (fun s' a' w' β' κ' hs' hr' hJ'=>by
     have hset:∀ j,(listed.setIfInBounds i true).getD j false=if j=i then true else listed.getD j false:=by
      intro j;simp only [Kk,Array.getElem?_setIfInBounds];by_cases e:j=i
      ·subst e;rw [if_pos rfl,if_pos (by omega)];simp
      ·rw [if_neg (fun h=>e h.symm),if_neg e]
     have htake:(listed.setIfInBounds i true).toList.take n=(listed.toList.take n).set i true:=by rw [Array.toList_setIfInBounds,List.take_set]
     refine ih (listed.setIfInBounds i true) a' w' β' κ' (by simpa using hs) (fun j oj hoj hl' j' hj' => ?_) ?_ (fun j hj => ?_) ?_ ?_
     ·rw [hset];by_cases e1:j'=i
      ·rw [if_pos e1]
      ·rw [if_neg e1];rw [hset] at hl';by_cases e2:j=i
       ·subst e2;rw [ho] at hoj;cases hoj;exact haft j' hj'
       ·rw [if_neg e2] at hl';exact hcl j oj hoj hl' j' hj'
     ·rw [htake];have:=vD hbi;omega
     ·rw [hset,if_neg (by omega)];exact hun j hj
     ·rw [htake];exact (hr'.same hs'.symm').same (Fz he hbi (fun t ht j e' hij h1 h2=>by
       cases hw:fU e'.ws t with
       | none=>rfl
       | some v=>exact (hlater j e' hij h1 h2 fun r1 r2=>Cz ht (by rw [hw];simp)).elim) (fun k hk j e' hij h1 h2=>by
       cases hw:fU e'.os k with
       | none=>rfl
       | some v=>exact (hlater j e' hij h1 h2 fun r1 r2=>CN hk (by rw [hw];simp)).elim) s)
     ·rw [show (fun j=>(listed.setIfInBounds i true).getD j false)=upd (fun j=>listed.getD j false) i true from funext fun j=>by rw [hset];rfl];exact hJ')
    have hopi:l.toArray[i]? = some o:=by simpa using ho
    unfold wpOp;simp only [hopi];split
    ·rename_i hw;rw [if_pos hw] at hop;exact .inl hop
    ·rename_i hw;rw [if_neg hw] at hop;exact hop
 refine wp_region_any hm ?_;have hrep:((Array.replicate l.toArray.size false).toList.take n)=List.replicate n false:=by simp [List.take_replicate];omega
 have hcf:∀ n,cntF (List.replicate n false)=n:=by
  intro n;induction n with
  | zero=>rfl
  | succ n ih=>rw [List.replicate_succ,cntF,ih];simp;omega
 have hs0:∀ (es:List cF) (n:Nat) (s:AS),sL es (List.replicate n false) s=s:=by
  intro es;induction es with
  | nil=>intro n s;cases n<;>rfl
  | cons e es ih=>intro n s;cases n with
   | zero=>rfl
   | succ n=>rw [List.replicate_succ,sL];exact ih n s
 have hrf:∀ i,(Array.replicate l.toArray.size false).getD i false=false:=by intro i;simp [Kk,Array.getElem?_replicate];split<;>simp
 have:=main n (Array.replicate l.toArray.size false) a w.drew β κ (by simp) (fun i o _ h=>by rw [hrf] at h;cases h) (by rw [hrep,hcf]) (fun i _=>hrf i) (by rw [hrep,hs0];exact r.drew) (by rw [show (fun j=>(Array.replicate l.toArray.size false).getD j false)=fun _=>false from funext hrf];exact hJ0 _ _ _);rw [show n+(l.length-n)=l.toArray.size by simp;omega] at this;exact this
end
structure yX where
 t:TypeId
 k:Nat
 y:List UInt8
 t1:Nat
 t2:Nat
 i0:Nat
 i1:Nat
 i2:Nat
section
variable {P:Program} {ops:Array Oper} {o:Oper} {s:AS} {cl:List (List Nat)} {c:yX} {i:Nat}
def J3 (P:Program) (c:yX) (b:Nat→Bool) (a:Act) (w:World) (β:Nat→Nat):Prop :=
 b c.i0=true→b c.i2=false→∃ (v0:Value) (st:Nat),c.y.length≤maxLen∧(Instr.mapEntry c.t (.map (some (β c.k))) (.string ⟨c.y.toArray⟩)).run P w = .ok (.tuple #[v0,goInt st]) w ∧
  (b c.i1=false→a.eval (.tmp c.t1) = .tuple #[v0,goInt st])∧(b c.i1=true→a.eval (.tmp c.t2)=goInt st)
def DJ (x:Nat) (l:List Nat):Bool:=l.any (Nat.beq x)
theorem pE {x:Nat} {l:List Nat} (h:DJ x l=true):x∈l:=by obtain ⟨y,hy,hb⟩:=List.any_eq_true.1 h;have:x=y:=bP.1 hb;subst this;exact hy
def yX.ok (c:yX) (cl:List (List Nat)):Bool:=DJ c.i0 (cl.getD c.i1 [])&&DJ c.i0 (cl.getD c.i2 [])&&DJ c.i1 (cl.getD c.i2 [])&&(!Nat.beq c.i0 c.i1 && !Nat.beq c.i0 c.i2 && !Nat.beq c.i1 c.i2)
theorem yX.ok_spec (h:c.ok cl=true):c.i0∈cl.getD c.i1 []∧c.i0∈cl.getD c.i2 []∧c.i1∈cl.getD c.i2 []∧c.i0≠c.i1∧c.i0≠c.i2∧c.i1≠c.i2:=by simp only [yX.ok,Kj,Bool.not_eq_true'] at h;obtain ⟨⟨⟨h1,h2⟩,h3⟩,⟨h4,h5⟩,h6⟩:=h;exact ⟨pE h1,pE h2,pE h3,fun e=>(by rw [e,Nat.beq_refl] at h4;cases h4),fun e=>(by rw [e,Nat.beq_refl] at h5;cases h5),fun e=>(by rw [e,Nat.beq_refl] at h6;cases h6)⟩
theorem Ba {e:cF} (h:Loc P ops o s e) (hne:i≠c.i0) (hi:i∈cl.getD c.i0 []):rQ P ops cl (J3 P c) i o s e :=
 fun s' b ha hf hx _ hbi hcl _ c' a w β κ r _ K Q hK=>h s' ha hf hx c' a w β κ r K Q fun s'' a' w' β' κ' hs hr=>hK s'' a' w' β' κ' hs hr fun h0 _=>by rw [be _ hne.symm] at h0;have:=hcl c.i0 i h0 hi;rw [hbi] at this;cases this
theorem DQ (hg:gd ops s o=some true) {p:Prop} {v:AV} (hv:gq P s o.op=some (p,v)) (hp:p) {dst:Nat} (hd:o.dst=some dst) (hn:dst<s.n) (h1:dst≠c.t1) (h2:dst≠c.t2) (n0:i≠c.i0) (n1:i≠c.i1) (n2:i≠c.i2):rQ P ops cl (J3 P c) i o s (.put o.dst v) :=
 fun s' b ha _ _ _ _ _ _ c' a w β κ r hJ K Q hK=>by
  have hv':gq P s' o.op=some (p,v):=by rw [ux ha];exact hv
  have hg':gd ops s' o=some true:=by rw [bC ha];exact hg
  obtain ⟨dst0,op,ty,pos,af,g⟩:=o;obtain ⟨V,hr,hG⟩:=vn r hv' hp dst0 ty pos af g;rw [fT r hg'];simp only [if_true];unfold Oper.wp;rw [hr];have hd:dst0=some dst:=hd;subst hd;have hput:AS.put s' (some dst) v=some ⟨s'.n,ins dst v s'.t,s'.h⟩:=by simp only [AS.put,show Nat.blt dst s'.n=true by rw [ha.n];simpa [Nat.blt_eq] using hn,cond_true]
  refine hK _ _ _ β κ ?_ (bE r hG hput) fun h0 hh2 => ?_
  ·exact ⟨rfl,fun _=>rfl,fun _=>rfl⟩
  ·rw [be _ n0.symm] at h0;rw [be _ n2.symm] at hh2;rw [be _ n1.symm];obtain ⟨v0,st,q0,q1,q2,q3⟩:=hJ h0 hh2;have ev:∀ l,l≠dst→(a.put (some dst) V).eval (.tmp l)=a.eval (.tmp l):=fun l h=>by simp [Act.put,Act.eval,Ne.symm h]
   exact ⟨v0,st,q0,q1,fun h=>by rw [ev _ (Ne.symm h1)];exact q2 h,fun h=>by rw [ev _ (Ne.symm h2)];exact q3 h⟩
theorem GZ (hg:gd ops s o=some true) {tm:Nat} {x:Operand} {K E:TypeId} {e:TypeId} {sz:Nat} {es es':kA} {z:Value} (hop:o.op = .mapEntry c.t (.tmp tm) x) (hd:o.dst=some c.t1) (hn:c.t1<s.n) (hm:lk .any s.t tm = .amap c.k) {y:List UInt8} (hx:s.op x = .str y) (hy:y=c.y)
 (hk:lk .gone s.h c.k = .rmap e sz es) (hu:P.underlying c.t=some (.map K E)) (hK:P.underlying K=some .string) (hz:zeroOf P E=some z) (hl6:es.length<1000000) (hes:oN c.y es=es') (hc:c.ok cl=true) :
 rQ P ops cl (J3 P c) c.i0 o s ⟨[(c.t1,.any)],[(c.k,.rmap e sz es')],[],[]⟩:=by
 subst hy;subst hes;intro s' b ha _ _ _ hbi hcl _ c' a w β κ r _ K2 Q hK2;obtain ⟨o1,o2,o3,o4,o5,o6⟩:=yX.ok_spec hc;have hmo:Operand.tmp tm∈o.op.operands:=by rw [hop];simp [Op.operands]
 have hm':s'.op (.tmp tm) = .amap c.k:=by rw [aS ha hmo];exact hm
 have hx':s'.op x = .str c.y:=by rw [aS ha (by rw [hop];simp [Op.operands])];exact hx
 have hk':lk .gone s'.h c.k = .rmap e sz es:=by rw [ha.h (by rw [hop];rfl) _ hmo c.k (by show AV.men c.k (lk .any s.t tm)=true;rw [hm];simp [AV.men])];exact hk
 have hM:=r.op (.tmp tm);have hX:=r.op x;rw [hm'] at hM;rw [hx'] at hX;obtain ⟨v0,st,w',r1,r2,rel⟩:=DA r hk' hu hK hz hl6 hX.str_len;rw [fT r (by rw [bC ha];exact hg)];simp only [if_true];unfold Oper.wp;have he:(execOp a.eval o).run P w = .ok (.value (.tuple #[v0,goInt st])) w':=by simp [execOp,hop,hM.amap_inv,hX.str_inv,r1,Result.andThen]
 rw [he];show K2 (a.put o.dst _) _;rw [hd];have hput:AS.put ⟨s'.n,s'.t,ins c.k (.rmap e sz (oN c.y es)) s'.h⟩ (some c.t1) .any=some ⟨s'.n,ins c.t1 .any s'.t,ins c.k (.rmap e sz (oN c.y es)) s'.h⟩:=by simp only [AS.put,show Nat.blt c.t1 s'.n=true by rw [ha.n];simpa [Nat.blt_eq] using hn,cond_true]
 refine hK2 _ _ _ β κ ⟨rfl,fun _=>rfl,fun _=>rfl⟩ (bE rel (V:=.tuple #[v0,goInt st]) (.d (.any _)) hput) fun h0 h2=>⟨v0,st,hX.str_len,r2,fun _ => ?_,fun h1 => ?_⟩
 ·have:c.t1<a.tmps.size:=by rw [r.sz,ha.n];exact hn
  simp [Act.put,Act.eval,this]
 ·rw [be _ o4.symm] at h1;have:=hcl c.i1 c.i0 h1 o1;rw [hbi] at this;cases this
theorem GW (hg:gd ops s o=some true) (hop:o.op = .extract (.tmp c.t1) 1) (hd:o.dst=some c.t2) (hn:c.t2<s.n) (hc:c.ok cl=true) :
 rQ P ops cl (J3 P c) c.i1 o s ⟨[(c.t2,.any)],[],[],[]⟩:=by
 intro s' b ha _ _ _ hbi hcl hcl2 c' a w β κ r hJ K2 Q hK2;obtain ⟨o1,o2,o3,o4,o5,o6⟩:=yX.ok_spec hc;have hb2:b c.i2=false:=by
  cases h:b c.i2 with
  | false=>rfl
  | true=>rw [hcl c.i2 c.i1 h o3] at hbi;cases hbi
 obtain ⟨v0,st,q0,q1,q2,q3⟩:=hJ (hcl2 _ o1) hb2;rw [fT r (by rw [bC ha];exact hg)];simp only [if_true];unfold Oper.wp;have he:(execOp a.eval o).run P w = .ok (.value (goInt st)) w:=by simp [execOp,hop,q2 hbi,Instr.extract,Result.andThen]
 rw [he];show K2 (a.put o.dst _) _;rw [hd];have hput:AS.put s' (some c.t2) .any=some ⟨s'.n,ins c.t2 .any s'.t,s'.h⟩:=by simp only [AS.put,show Nat.blt c.t2 s'.n=true by rw [ha.n];simpa [Nat.blt_eq] using hn,cond_true]
 refine hK2 _ _ _ β κ ⟨rfl,fun _=>rfl,fun _=>rfl⟩ (bE r (V:=goInt st) (.d (.any _)) hput) fun h0 h2=>⟨v0,st,q0,q1,fun h1 => ?_,fun _ => ?_⟩
 ·rw [ao] at h1;cases h1
 ·have:c.t2<a.tmps.size:=by rw [r.sz,ha.n];exact hn
  simp [Act.put,Act.eval,this]
theorem GY (hg:gd ops s o=some true) {tm tv q:Nat} {K E:TypeId} {e:TypeId} {sz:Nat} {es es':kA} {zs:List (List AV)} {z:Value} (hop:o.op = .entryStore c.t (.tmp tm) (.tmp c.t2) (.tmp tv)) (hd:o.dst=none) (hm:lk .any s.t tm = .amap c.k) (hv:lk .any s.t tv = .rslice q)
 (hq:lk .gone s.h q = .row e sz zs) (hk:lk .gone s.h c.k = .rmap e sz es) (hu:P.underlying c.t=some (.map K E)) (hK:P.underlying K=some .string) (hz:zeroOf P E=some z) (hl6:es.length<1000000) (hes:jV c.y zs es=es') (hc:c.ok cl=true) :
 rQ P ops cl (J3 P c) c.i2 o s ⟨[(tv,.any)],[(q,.gone),(c.k,.rmap e sz es')],[],[(q,tv)]⟩:=by
 subst hes;intro s' b ha _ hx hnr hbi hcl hcl2 c' a w β κ r hJ K2 Q hK2;obtain ⟨o1,o2,o3,o4,o5,o6⟩:=yX.ok_spec hc;obtain ⟨x1,x2⟩:=hx (q,tv) (by simp);obtain ⟨v0,st,q0,q1,q2,q3⟩:=hJ (hcl2 _ o2) hbi;have q3:=q3 (hcl2 _ o3);have hmo:Operand.tmp tm∈o.op.operands:=by rw [hop];simp [Op.operands]
 have hvo:Operand.tmp tv∈o.op.operands:=by rw [hop];simp [Op.operands]
 have hm':s'.op (.tmp tm) = .amap c.k:=by rw [aS ha hmo];exact hm
 have hv':s'.op (.tmp tv) = .rslice q:=by rw [aS ha hvo];exact hv
 have hk':lk .gone s'.h c.k = .rmap e sz es:=by rw [ha.h (by rw [hop];rfl) _ hmo c.k (by show AV.men c.k (lk .any s.t tm)=true;rw [hm];simp [AV.men])];exact hk
 have hq':lk .gone s'.h q = .row e sz zs:=by rw [ha.h (by rw [hop];rfl) _ hvo q (by show AV.men q (lk .any s.t tv)=true;rw [hv];simp [AV.men])];exact hq
 have hM:=r.op (.tmp tm);have hV:=r.op (.tmp tv);rw [hm'] at hM;rw [hv'] at hV;obtain ⟨j,ents',clock',g1,_,⟨ob,g3⟩,v1,st1,ents1,clock1,g4,g5⟩:=qu r hq' hk' hnr hu hK hz hl6 q0 hV;rw [q1] at g4;simp only [Result.ok.injEq,Value.tuple.injEq] at g4;obtain ⟨g6,g7⟩:=g4;have hst:goInt st=goInt st1:=by have:=congrArg (fun x:Array Value=>x.getD 1 undef) g6;simpa using this
 have hblk:w.heap[β c.k]? = some (.map ents1 clock1):=by have h8:=congrArg World.heap g7;have:({ w with heap:=w.heap.setIfInBounds (β c.k) (.map ents1 clock1) }:World).heap[β c.k]? = some (.map ents1 clock1):=(MapKept.heap_set g3).1;rw [← h8] at this;exact this
 have g8:=g5 w hblk;rw [fT r (by rw [bC ha];exact hg)];simp only [if_true];unfold Oper.wp;have he:(execOp a.eval o).run P w = .ok .skip { w with heap:=w.heap.setIfInBounds (β c.k) (.map ents' clock') }:=by simp [execOp,hop,hM.amap_inv,q3,hst,g8,Result.andThen]
 rw [he];show K2 (a.put o.dst _) _;rw [hd];have rel:=g1 { w with heap:=w.heap.setIfInBounds (β c.k) (.map ents' clock') } (fun i hi=>(MapKept.heap_set g3).2 i hi) (r5 w _ _) (MapKept.heap_set g3).1;refine hK2 (s'.stow c.k q e sz (jV c.y zs es)) _ _ _ _ ⟨rfl,fun i => ?_,fun n => ?_⟩ rel fun _ h2 => ?_
 ·show lk .any (gC q s'.t) i=lk .any (im [(tv,.any)] s'.t) i;rw [cq,cg];simp only [fU];by_cases e1:i=tv
  ·subst e1;have hv2:lk .any s'.t i = .rslice q:=hv';simp [hv2,AV.pg,AV.men]
  ·rw [bG e1,AV.pg_free (x1 i e1)];rfl
 ·show lk .gone (rm q (dc q (ins c.k (.rmap e sz (jV c.y zs es)) s'.h))) n=lk .gone (im [(q,.gone),(c.k,.rmap e sz (jV c.y zs es))] s'.h) n;rw [cg,iT,cu,az];simp only [fU];by_cases e1:n=q
  ·subst e1;simp
  ·rw [if_neg e1,bG e1];simp only [cond_false];by_cases e2:n=c.k
   ·subst e2;simp [AO.pg]
   ·rw [if_neg e2,bG e2,AO.pg_free (x2 n)];rfl
 ·rw [ao] at h2;cases h2
end
section
variable {P:Program} {ops:Array Oper} {o:Oper} {s:AS}
def Hi:List AV→Option (List Value)
 | []=>some []
 | .int k n::l=>match Hi l with | some vs=>some (.int k n::vs) | none=>none
 | _::_=>none
theorem z8 {w:World} {X:Nat→Prop} {β:Nat→Nat} {κ:Nat→Nat×Nat}:∀ {l:List AV} {us vs:List Value},Hi l=some us→vs.length=l.length→(∀ i,i<l.length→G w X β κ (l.getD i .any) (vs.getD i undef))→vs=us
 | [],us,vs,h,hl,_=>by cases h;exact List.eq_nil_of_length_eq_zero hl
 | v::l,us,[],h,hl,_=>by simp at hl
 | v::l,us,u::vs,h,hl,hg=>by
  cases v with
  | int k n =>
   simp only [Hi] at h;split at h
   ·rename_i us' hu;cases h;have h0:G w X β κ (.int k n) u:=by simpa using hg 0 (by simp)
    have h1:=z8 (w:=w) (X:=X) (β:=β) (κ:=κ) (vs:=vs) hu (by simpa using hl) fun i hi=>by simpa using hg (i+1) (by simpa using hi)
    rw [h0.int_inv,h1]
   ·cases h
  | _=>cases h
theorem HH {w:World} {X:Nat→Prop}:∀ {l:List AV} {us:List Value},Hi l=some us→us.length=l.length∧∀ i,i<l.length→D w X (l.getD i .any) (us.getD i undef)
 | [],us,h=>by cases h;exact ⟨rfl,fun i hi=>by simp at hi⟩
 | v::l,us,h=>by
  cases v with
  | int k n =>
   simp only [Hi] at h;split at h
   ·rename_i us' hu;cases h;obtain ⟨h1,h2⟩:=HH (w:=w) (X:=X) hu;refine ⟨by simp [h1],fun i hi => ?_⟩;cases i with
    | zero=>exact .int k n
    | succ i=>simpa using h2 i (by simpa using hi)
   ·cases h
  | _=>cases h
def EY (P:Program) (s:AS) (op:Op) (v:AV):Option (List Prop) :=
 match op with
 | .call ⟨.value x,ar,_⟩=>match s.op x,v with
  | .fn f [],.tup cs=>match Hi (s.args ar []),Hi cs with
   | some vs,some us=>some [∀ w:World,(callFunc f vs.toArray).run P w = .ok (.value (.tuple us.toArray)) w]
   | _,_=>none
  | _,_=>none
 | _=>none
theorem IQ {x:Operand} {ar:Array Operand} {tys:Array TypeId} {f:FuncId} {cs:List AV} {vs us:List Value} (hg:gd ops s o=some true) (hop:o.op = .call ⟨.value x,ar,tys⟩) (hx:s.op x = .fn f []) (h1:Hi (s.args ar [])=some vs) (h2:Hi cs=some us)
 (hc:∀ w:World,(callFunc f vs.toArray).run P w = .ok (.value (.tuple us.toArray)) w) {s1:AS} (h:s.put o.dst (.tup cs)=some s1):Loc P ops o s (.put o.dst (.tup cs)) :=
 lI rfl h fun s' ha s2 h2'=>by
  have hxx:s'.op x=s.op x:=aS ha (by simp [hop,Op.operands,Call.operands]);have har:∀ y∈ar,s'.op y=s.op y:=fun y hy=>aS ha (by simp [hop,Op.operands,Call.operands,hy]);have e1:s'.args ar []=s.args ar []:=by unfold AS.args;rw [List.map_congr_left (fun y hy=>har y (by simpa using hy))]
  refine b9 (by rw [bC ha];exact hg) fun c a w β κ r => ?_;have hX:=r.op x;rw [hxx,hx] at hX;obtain ⟨Vs,eV,hl,hgs⟩:=hX.fn_inv;obtain ⟨a1,a2⟩:=nh r ar hl hgs;rw [e1] at a1 a2;have hvs:=z8 h1 (vs:=(ar.map a.eval++Vs).toList) (by simpa using a1) a2;have hrun:(execOp a.eval o).run P w = .ok (.value (.tuple us.toArray)) w:=by simp only [execOp,hop,resolve,eV,Deferred.ofValue,pure_bind,invoke,Array.empty_append];rw [show ar.map a.eval++Vs=vs.toArray by rw [← hvs]];exact hc w
  obtain ⟨d1,d2⟩:=HH (w:=w) (X:=c.XX s'.h β) h2;exact ⟨_,w,β,κ,.inl hrun,bE r (.d (.tup cs us.toArray (by simp [d1]) fun i hi=>by have:=d2 i hi;simpa [Kh,Kk] using this)) h2'⟩
end
abbrev ug:=List (Option (List (List AV)))
section
variable {P:Program} {ops:Array Oper} {o:Oper} {s:AS} {c:Cx P} {a:Act} {w:World} {β:Nat→Nat} {κ:Nat→Nat×Nat}
theorem Bt (es:ug) (j:Nat) (v:Option (List (List AV))) (i:Nat) (hj:j<es.length):(es.set j v).getD i none=if i=j then v else es.getD i none:=by
 simp only [Kh,List.getElem?_set];by_cases e:j=i
 ·subst e;simp [hj]
 ·rw [if_neg e,if_neg (fun h=>e h.symm)]
theorem Rel.weakR (r:Rel c s a w β κ) {k j:Nat} {eo e:TypeId} {sz:Nat} {es:ug} (hk:lk .gone s.h k = .rrow eo e sz es) (hj:j<es.length) :
 Rel c ⟨s.n,s.t,ins k (.rrow eo e sz (es.set j none)) s.h⟩ a w β κ∧(∀ n,lv (ins k (.rrow eo e sz (es.set j none)) s.h) n→lv s.h n)∧(∀ n,lv (ins k (.rrow eo e sz (es.set j none)) s.h) n→n≠gk k j) ∧
 ∀ X':Nat→Prop,(∀ b,¬ c.XX s.h β b→b<w.heap.size→¬ X' b)→∀ n,HO w X' β κ n (lk .gone (ins k (.rrow eo e sz (es.set j none)) s.h) n):=by
 have hne:es≠[]:=by intro e1;subst e1;simp at hj
 have hlive:(lk .gone s.h k).live:=by rw [hk];exact hne
 have ho:=r.hp.ob k;rw [hk] at ho;obtain ⟨o1,o2,o3⟩:=ho;have hj6:j<1000000:=by omega
 have hinn:∀ i,(AO.rrow eo e sz (es.set j none)).inn i→(AO.rrow eo e sz es).inn i∧i≠j:=by
  rintro i ⟨h1,h2,y,ys,h3⟩;rw [Bt es j none i hj] at h3;by_cases e1:i=j
  ·rw [if_pos e1] at h3;cases h3
  ·rw [if_neg e1] at h3;exact ⟨⟨h1,by simpa using h2,y,ys,h3⟩,e1⟩
 have hlv:∀ n,lv (ins k (.rrow eo e sz (es.set j none)) s.h) n→lv s.h n:=by
  rintro n (h | ⟨m,i,rfl,h⟩)
  ·rw [az] at h;by_cases ej:n=k
   ·rw [ej];exact .inl hlive
   ·rw [if_neg ej] at h;exact .inl h
  ·rw [az] at h;by_cases ej:m=k
   ·rw [if_pos ej] at h;refine bq ?_;rw [ej,hk];exact (hinn i h).1
   ·rw [if_neg ej] at h;exact bq h
 have hX:∀ b,¬ c.XX s.h β b→b<w.heap.size→¬ c.XX (ins k (.rrow eo e sz (es.set j none)) s.h) β b:=by
  rintro b hb _ (h | ⟨n,h1,h2⟩)
  ·exact hb (.inl h)
  ·exact hb (.inr ⟨n,hlv n h1,h2⟩)
 have hHO:∀ X':Nat→Prop,(∀ b,¬ c.XX s.h β b→b<w.heap.size→¬ X' b)→∀ n,HO w X' β κ n (lk .gone (ins k (.rrow eo e sz (es.set j none)) s.h) n):=by
  intro X' hX n;rw [az];by_cases ej:n=k
  ·rw [if_pos ej,ej];refine ⟨by rw [o1];simp,by simpa using o2,fun _ => ?_⟩;obtain ⟨cur,h1,h2,h3,h4,h5⟩:=o3 hne;refine ⟨cur,h1,h2,by simpa using h3,h4,fun i hi => ?_⟩;have a3:=h5 i (by simpa using hi);rw [Bt es j none i hj];by_cases e1:i=j
   ·rw [if_pos e1];trivial
   ·rw [if_neg e1];generalize es.getD i none=o at a3 ⊢;match o,a3 with
    | none,_=>trivial
    | some [],h5=>exact h5
    | some (x::xs),h5=>exact ⟨h5.1,h5.2.1,h5.2.2.mono (fun _ _ _=>rfl) hX rfl⟩
  ·rw [if_neg ej];exact (r.hp.ob n).mono (fun _ _ _=>rfl) hX (fun _ _=>.refl) .refl (fun _=>rfl) (fun _ _=>rfl)
 refine ⟨⟨r.df,r.sz,fun i=>(r.tm i).mono (fun _ _ _=>rfl) hX (fun _ _=>.refl),⟨hHO _ hX,fun i j hi hj e=>r.hp.inj i j (hlv i hi) (hlv j hj) e,r.hp.kp,fun j hj=>r.hp.nk j (hlv j hj),fun j hj=>r.hp.nx j (hlv j hj),r.hp.fix,fun n hn => ?_⟩⟩,hlv,fun n hn => ?_,hHO⟩
 ·have hn:lk .gone (ins k (.rrow eo e sz (es.set j none)) s.h) n ≠ .gone:=hn;rw [az] at hn;by_cases ej:n=k
  ·rw [ej];exact r.hp.sm k hlive
  ·rw [if_neg ej] at hn;exact r.hp.sg n hn
 ·rintro rfl;rcases hn with h | ⟨m,i,e1,h⟩
  ·rw [az] at h;by_cases ej:gk k j=k
   ·have:=cL k j;have:=r.hp.sm k hlive;omega
   ·rw [if_neg ej] at h;have:=r.hp.sm _ h;have:=cL k j;omega
  ·rw [az] at h;by_cases ej:m=k
   ·rw [if_pos ej] at h;have hi:=(AO.inn_isR h).1;obtain ⟨_,rfl⟩:=dR hj6 hi e1;exact (hinn j h).2 rfl
   ·rw [if_neg ej] at h;exact ej (dR hj6 (AO.inn_isR h).1 e1).1.symm
def AS.takeR (s:AS) (k q:Nat) (eo e:TypeId) (sz:Nat) (zs:List (List AV)) (es':ug):AS :=
 ⟨s.n,ins q (.rslice q) (gC q s.t),ins q (.row e sz zs) (dc q (ins k (.rrow eo e sz es') s.h))⟩
theorem Rel.takeR_in (r:Rel c s a w β κ) {k q j:Nat} {eo e:TypeId} {sz:Nat} {es:ug} {zs:List (List AV)} {V:Value} (hq:q<s.n∧q<1000) (hk:lk .gone s.h k = .rrow eo e sz es) (hjl:j<es.length) (hj:es.getD j none=some zs) (hz:zs≠[])
 (hV:zu w (c.XX s.h β) (β (gk k j)) (κ (gk k j)) e sz V (some zs)):∃ β' κ',Rel c (s.takeR k q eo e sz zs (es.set j none)) (a.put (some q) V) w β' κ':=by
 obtain ⟨y,ys,rfl⟩:∃ y ys,zs=y::ys:=by cases zs with | nil=>exact absurd rfl hz | cons y ys=>exact ⟨y,ys,rfl⟩
 obtain ⟨v1,v2,v3⟩:=hV;have hj6:j<1000000:=by have ho:=r.hp.ob k;rw [hk] at ho;have:=ho.2.1;omega
 have hinn:(lk .gone s.h k).inn j:=by rw [hk];exact ⟨hj6,hjl,y,ys,hj⟩
 obtain ⟨r1,w1,w2,w3⟩:=r.weakR hk hjl;have r2:=r1.pg q;have hlvp:∀ n,lv (dc q (ins k (.rrow eo e sz (es.set j none)) s.h)) n→lv (ins k (.rrow eo e sz (es.set j none)) s.h) n:=fun n h=>by rw [k8] at h;exact h
 have hXb:c.XX s.h β (β (gk k j)):=.inr ⟨_,bq hinn,rfl⟩;have hsub:∀ b,¬ c.XX s.h β b→b<w.heap.size→¬ (c.XX (dc q (ins k (.rrow eo e sz (es.set j none)) s.h)) β b∨b=β (gk k j)):=by
  rintro b hb _ ((h | ⟨n,h1,h2⟩) | rfl)
  ·exact hb (.inl h)
  ·exact hb (.inr ⟨n,w1 n (hlvp n h1),h2⟩)
  ·exact hb hXb
 have hXs:∀ b,¬ c.XX s.h β b→b<w.heap.size→¬ c.XX (ins q (.row e sz (y::ys)) (dc q (ins k (.rrow eo e sz (es.set j none)) s.h))) (upd β q (β (gk k j))) b:=by
  rintro b hb _ (h | ⟨n,h1,h2⟩)
  ·exact hb (.inl h)
  ·rcases eG (o:=.row e sz (y::ys)) (by omega) (fun _ h=>h) h1 with ⟨e1,_⟩ | ⟨e1,h1⟩
   ·subst e1;rw [ao] at h2;exact hb (h2 ▸ hXb)
   ·rw [be β e1] at h2;exact hb (.inr ⟨n,w1 n (hlvp n h1),h2⟩)
 obtain ⟨g1,g2⟩:=r2.hp.rebind (w':=w) (k':=q) (b:=β (gk k j)) hq.2 (fun j _=>by rw [cu];exact AO.men_pg q _) (κ (gk k j)) (ob:=.row e sz (y::ys))
  (r.hp.nx _ (bq hinn)) (r.hp.nk _ (bq hinn)) (fun n hn e1=>w2 n (hlvp n hn) (r.hp.inj n _ (w1 n (hlvp n hn)) (bq hinn) e1)) (fun _ _=>rfl) (cI.refl _ _)
  ⟨by rw [ao];exact v1,fun _=>by obtain ⟨cur,h1,h2,h3,h4,h0,h5,h6⟩:=v3;exact ⟨cur,by rw [ao];exact h1,by rw [ao];exact h2,by rw [ao];exact h3,by rw [ao];exact h4,h0,h5,fun i l hi hl=>(h6 i l hi hl).mono (fun _ _ _=>rfl) hXs⟩⟩
  (fun n=>by rw [cu];exact (w3 _ hsub n).pg)
 refine ⟨_,_,r.df,by simp [Act.put,r.sz,AS.takeR],fun i => ?_,g1⟩;show G w (c.XX (ins q (.row e sz (y::ys)) (dc q (ins k (.rrow eo e sz (es.set j none)) s.h))) (upd β q (β (gk k j)))) (upd β q (β (gk k j))) (upd κ q (κ (gk k j))) (lk .any (ins q (.rslice q) (gC q s.t)) i) _;rw [az];by_cases hi:i=q
 ·subst hi;have hi':i<a.tmps.size:=by rw [r.sz];exact hq.1
  have:=G.rslice (w:=w) (X:=c.XX (ins i (.row e sz (y::ys)) (dc i (ins k (.rrow eo e sz (es.set j none)) s.h))) (upd β i (β (gk k j)))) (β:=upd β i (β (gk k j))) (κ:=upd κ i (κ (gk k j))) i (by rw [ao,v1];simp);rw [ao,ao,← v2] at this;simpa [Act.put,Kk,Array.getElem?_setIfInBounds,hi'] using this
 ·rw [if_neg hi];have g0:G w (fun b=>c.XX (dc q (ins k (.rrow eo e sz (es.set j none)) s.h)) β b∨b=β (gk k j)) β κ (lk .any (gC q s.t) i) (a.tmps.getD i undef):=by rw [cq];exact ((r.tm i).pg q).mono (fun _ _ _=>rfl) hsub (fun _ _=>.refl)
  have:=g2 g0 (by rw [cq];exact AV.men_pg q _);have hne:¬ q=i:=fun e=>hi e.symm;simpa [Act.put,Kk,Array.getElem?_setIfInBounds,hne] using this
theorem Rel.takeR_empty (r:Rel c s a w β κ) {k q j:Nat} {eo e:TypeId} {sz:Nat} {es:ug} {ad:Option Addr} (hq:q<s.n∧q<1000) (hk:lk .gone s.h k = .rrow eo e sz es) (hjl:j<es.length):∃ κ',Rel c (s.takeR k q eo e sz [] (es.set j none)) (a.put (some q) (.slice ad 0 0)) w β κ':=by
 obtain ⟨r1,_⟩:=r.weakR hk hjl;have hput:AS.put ⟨s.n,s.t,ins k (.rrow eo e sz (es.set j none)) s.h⟩ (some q) .eslice=some ⟨s.n,ins q .eslice s.t,ins k (.rrow eo e sz (es.set j none)) s.h⟩:=by simp only [AS.put,show Nat.blt q s.n=true by simpa [Nat.blt_eq] using hq.1,cond_true]
 have r2:=bE r1 (v:=.eslice) (V:=.slice ad 0 0) (.d (.eslice ad)) hput;have her:AS.erow ⟨s.n,ins q .eslice s.t,ins k (.rrow eo e sz (es.set j none)) s.h⟩ q q e sz=some ⟨s.n,ins q (.rslice q) (gC q (ins q .eslice s.t)),ins q (.row e sz []) (dc q (ins k (.rrow eo e sz (es.set j none)) s.h))⟩:=by
  have h0:lk .any (ins q .eslice s.t) q = .eslice:=by rw [az,if_pos rfl]
  simp only [AS.erow,h0,show Nat.blt q 1000=true by simpa [Nat.blt_eq] using hq.2,cond_true]
 obtain ⟨κ',r3⟩:=r2.erow her;refine ⟨κ',r3.same ⟨rfl,fun i => ?_,fun _=>rfl⟩⟩;show lk .any (ins q (.rslice q) (gC q s.t)) i=lk .any (ins q (.rslice q) (gC q (ins q .eslice s.t))) i;rw [az,az,cq,cq,az];by_cases h:i=q
 ·rw [if_pos h,if_pos h]
 ·rw [if_neg h,if_neg h,if_neg h]
end
section
variable {P:Program} {ops:Array Oper} {o:Oper} {s:AS} {c:Cx P} {a:Act} {w:World} {β:Nat→Nat} {κ:Nat→Nat×Nat}
def AS.stowR (s:AS) (k q:Nat) (eo e:TypeId) (sz:Nat) (es':ug):AS:=⟨s.n,gC q s.t,rm q (dc q (ins k (.rrow eo e sz es') s.h))⟩
theorem Rel.stowR (r:Rel c s a w β κ) {k q j:Nat} {eo e:TypeId} {sz:Nat} {es:ug} {zs:List (List AV)} {V:Value} (hq:lk .gone s.h q = .row e sz zs) (hk:lk .gone s.h k = .rrow eo e sz es) (hnoR:s.noR=true) (hjl:j<es.length) {w':World}
 {cur new:Array Value} (hw:∀ i,i≠β k→w'.heap[i]? = w.heap[i]?) (hkp:cI (fun i=>i≠β k) w w') (h1:w.heap[β k]? = some (.cells cur eo (0,0))) (hm:w'.heap[β k]? = some (.cells new eo (0,0)))
 (hs:new.size=cur.size) (hnew:∀ i,new.getD i undef=if i=j then V else cur.getD i undef) (hV:G w (c.XX s.h β) β κ (.rslice q) V) :
 Rel c (s.stowR k q eo e sz (es.set j (some zs))) a w' (upd β (gk k j) (β q)) (upd κ (gk k j) (κ q)):=by
 have hne:es≠[]:=by intro e1;subst e1;simp at hjl
 have hlk:(lk .gone s.h k).live:=by rw [hk];exact hne
 have hok:=r.hp.ob k;rw [hk] at hok;obtain ⟨o1,o2,o3⟩:=hok;obtain ⟨cur',p1,p2,p3,p4,p5⟩:=o3 hne;rw [h1] at p1;simp only [Kr,Obj.cells.injEq] at p1;obtain ⟨rfl,_⟩:=p1;have hj6:j<1000000:=by omega
 have hk6:=r.hp.sm k hlk;have hq6:q<1000000:=r.hp.sg q (by rw [hq];exact fun h=>by cases h);have hkq:k≠q:=fun e1=>by rw [e1,hq] at hk;cases hk
 have hgne:∀ n,n<1000000→n≠gk k j:=fun n hn e1=>by have:=cL k j;omega
 have b2:∀ n,n≠gk k j→upd β (gk k j) (β q) n=β n∧upd κ (gk k j) (κ q) n=κ n:=fun n h=>⟨be β h,be κ h⟩;have hat:=fun i=>Bt es j (some zs) i hjl;have hlk2:∀ n,lk .gone (s.stowR k q eo e sz (es.set j (some zs))).h n=if n=q then .gone else if n=k then .rrow eo e sz (es.set j (some zs)) else AO.pg q (lk .gone s.h n):=fun n=>by
  show lk .gone (rm q (dc q (ins k (.rrow eo e sz (es.set j (some zs))) s.h))) n=_;rw [iT,cu,az];by_cases h1:n=q
  ·rw [if_pos h1,if_pos h1]
  ·rw [if_neg h1,if_neg h1];by_cases h2:n=k
   ·rw [if_pos h2,if_pos h2];rfl
   ·rw [if_neg h2,if_neg h2]
 have hlv:∀ n,lv (s.stowR k q eo e sz (es.set j (some zs))).h n→(n=gk k j∧zs≠[])∨(lv s.h n∧n≠q∧n≠gk k j):=by
  rintro n (h | ⟨m,i,rfl,h⟩)
  ·rw [hlk2] at h;by_cases h1:n=q
   ·rw [if_pos h1] at h;exact h.elim
   ·rw [if_neg h1] at h;by_cases h2:n=k
    ·exact .inr ⟨by rw [h2];exact .inl hlk,h1,hgne n (by omega)⟩
    ·rw [if_neg h2,AO.live_pg] at h;exact .inr ⟨.inl h,h1,hgne n (r.hp.sm n h)⟩
  ·rw [hlk2] at h;have hne:gk m i≠q:=by have:=cL m i;omega
   by_cases h1:m=q
   ·rw [if_pos h1] at h;exact h.elim
   ·rw [if_neg h1] at h;by_cases h2:m=k
    ·rw [if_pos h2] at h;obtain ⟨g1,g2,z,zs',g3⟩:=h;rw [hat] at g3;by_cases h3:i=j
     ·refine .inl ⟨by rw [h2,h3],?_⟩;rw [if_pos h3] at g3;intro e1;rw [e1] at g3;cases g3
     ·rw [if_neg h3] at g3;refine .inr ⟨bq ?_,hne,fun e1=>h3 (dR g1 hj6 e1).2⟩;rw [h2,hk];exact ⟨g1,by simpa using g2,z,zs',g3⟩
    ·rw [if_neg h2,AO.inn_pg] at h;exact .inr ⟨bq h,hne,fun e1=>h2 (dR (AO.inn_isR h).1 hj6 e1).1⟩
 have hqlive:zs≠[]→(lk .gone s.h q).live:=fun h=>by rw [hq];exact h
 have hX:∀ b,¬ c.XX s.h β b→b<w.heap.size→¬ c.XX (s.stowR k q eo e sz (es.set j (some zs))).h (upd β (gk k j) (β q)) b:=by
  rintro b hb _ (h | ⟨n,h1,h2⟩)
  ·exact hb (.inl h)
  ·rcases hlv n h1 with ⟨e1,hz⟩ | ⟨h3,_,h4⟩
   ·rw [e1,ao] at h2;exact hb (.inr ⟨q,.inl (hqlive hz),h2⟩)
   ·rw [(b2 n h4).1] at h2;exact hb (.inr ⟨n,h3,h2⟩)
 have hw2:∀ b,¬ c.XX s.h β b→b<w.heap.size→w'.heap[b]? = w.heap[b]? := fun b hb _=>hw b (fun e1=>hb (.inr ⟨k,.inl hlk,e1.symm⟩));have hmn:∀ {v:AV},AV.hasR v=false→∀ n,AV.men n v=true→upd β (gk k j) (β q) n=β n∧upd κ (gk k j) (κ q) n=κ n:=fun {v} hr n hn=>b2 n (hgne n (men_lt hr hn));refine ⟨r.df,r.sz,fun i => ?_,⟨fun n => ?_,fun n n' hn hn' e1 => ?_,r.hp.kp.trans hkp (fun b hb e1=>r.hp.nk k (.inl hlk) (e1 ▸ hb)),fun n hn => ?_,fun n hn => ?_,fun n hn hn6 => ?_,fun n hn => ?_⟩⟩
 ·show G w' (c.XX (s.stowR k q eo e sz (es.set j (some zs))).h (upd β (gk k j) (β q))) (upd β (gk k j) (β q)) (upd κ (gk k j) (κ q)) (lk .any (gC q s.t) i) _;rw [cq];have hR:=AV.hasR_pg (k:=q) (AS.noR_t hnoR i);exact ((r.tm i).pg q).mono2 hw2 hX hR (hmn hR)
 ·show HO w' (c.XX (s.stowR k q eo e sz (es.set j (some zs))).h (upd β (gk k j) (β q))) (upd β (gk k j) (β q)) (upd κ (gk k j) (κ q)) n (lk .gone (s.stowR k q eo e sz (es.set j (some zs))).h n);rw [hlk2];by_cases h1:n=q
  ·rw [if_pos h1];trivial
  ·rw [if_neg h1];by_cases h2:n=k
   ·rw [if_pos h2,h2];refine ⟨by rw [(b2 k (hgne k hk6)).2,o1];simp,by simpa using o2,fun _=>⟨new,by rw [(b2 k (hgne k hk6)).1];exact hm,by rw [(b2 k (hgne k hk6)).2,hs];exact p2,by rw [(b2 k (hgne k hk6)).2];simpa using p3,by rw [(b2 k (hgne k hk6)).2];exact p4,fun i hi => ?_⟩⟩;have hi:i<es.length:=by simpa using hi
    rw [hat,hnew];by_cases h3:i=j
    ·subst h3;rw [if_pos rfl,if_pos rfl,ao,ao];have ho:=r.hp.ob q;rw [hq] at ho;cases zs with
     | nil =>
      rcases hV.rslice_inv with ⟨h0,_⟩ | ⟨h0,ad,e2⟩
      ·rw [ho.1] at h0;simp at h0
      ·exact ⟨h0,ad,e2⟩
     | cons z zs =>
      rcases hV.rslice_inv with ⟨h0,e2⟩ | ⟨h0,_⟩
      ·obtain ⟨cur,q1,q2,q3,q4,q5,q6,q7⟩:=ho.2 (by simp);have hb:w'.heap[β q]? = w.heap[β q]? := hw _ fun e3=>hkq (r.hp.inj k q (.inl hlk) (.inl (hqlive (by simp))) e3.symm);exact ⟨ho.1,e2,xp.mono hw2 hX ⟨cur,q1,q2,q3,q4,q5,q6,q7⟩ hb⟩
      ·rw [ho.1] at h0;simp at h0
    ·rw [if_neg h3,if_neg h3];have hne:gk k i≠gk k j:=fun e3=>h3 (dR (by omega) hj6 e3).2;rw [(b2 _ hne).1,(b2 _ hne).2];have a5:=p5 i hi;have hin:∀ z zs',es.getD i none=some (z::zs')→(lk .gone s.h k).inn i:=fun z zs' h=>by rw [hk];exact ⟨by omega,hi,z,zs',h⟩
     generalize es.getD i none=o at a5 hin ⊢;match o,a5,hin with
     | none,_,_=>trivial
     | some [],a5,_=>exact a5
     | some (z::zs'),a5,hin=>exact ⟨a5.1,a5.2.1,a5.2.2.mono hw2 hX (hw _ (r.hp.vne hlk (hin z zs' rfl)))⟩
   ·rw [if_neg h2];have hR:=AO.hasR_pg (k:=q) (AS.noR_h hnoR n);by_cases hg0:lk .gone s.h n = .gone
    ·rw [hg0];trivial
    ·have hn6:=r.hp.sg n hg0;refine ((r.hp.ob n).pg (j:=q)).mono2 hw2 hX hR (fun l hl=>b2 l (hgne l (AO.men_lt hR hl))) ⟨(b2 n (hgne n hn6)).1,(b2 n (hgne n hn6)).2,fun i hi=>b2 _ (fun e3=>h2 (dR hi hj6 e3).1)⟩ (fun hl => ?_) (fun i hl => ?_)
     ·rw [AO.live_pg] at hl;exact hw _ fun e3=>h2 (r.hp.inj n k (.inl hl) (.inl hlk) e3)
     ·rw [AO.inn_pg] at hl;exact hw _ (r.hp.vne hlk hl)
 ·rcases hlv n hn with ⟨e2,hz⟩ | ⟨h3,h4,h5⟩<;>rcases hlv n' hn' with ⟨e3,hz'⟩ | ⟨h6,h7,h8⟩
  ·rw [e2,e3]
  ·rw [e2,ao,(b2 n' h8).1] at e1;exact absurd (r.hp.inj q n' (.inl (hqlive hz)) h6 e1).symm h7
  ·rw [e3,ao,(b2 n h5).1] at e1;exact absurd (r.hp.inj n q h3 (.inl (hqlive hz')) e1) h4
  ·rw [(b2 n h5).1,(b2 n' h8).1] at e1;exact r.hp.inj n n' h3 h6 e1
 ·rcases hlv n hn with ⟨e2,hz⟩ | ⟨h3,_,h5⟩
  ·rw [e2,ao];exact r.hp.nk q (.inl (hqlive hz))
  ·rw [(b2 n h5).1];exact r.hp.nk n h3
 ·rcases hlv n hn with ⟨e2,hz⟩ | ⟨h3,_,h5⟩
  ·rw [e2,ao];exact r.hp.nx q (.inl (hqlive hz))
  ·rw [(b2 n h5).1];exact r.hp.nx n h3
 ·rw [(b2 n (hgne n hn6)).1,(b2 n (hgne n hn6)).2];exact r.hp.fix n hn hn6
 ·have hn:lk .gone (s.stowR k q eo e sz (es.set j (some zs))).h n ≠ .gone:=hn;rw [hlk2] at hn;by_cases h1:n=q
  ·rw [if_pos h1] at hn;exact absurd rfl hn
  ·rw [if_neg h1] at hn;by_cases h2:n=k
   ·rw [h2];exact hk6
   ·rw [if_neg h2] at hn;exact r.hp.sg n (fun e3=>hn (by rw [e3];rfl))
theorem CT (r:Rel c s a w β κ) {t:TypeId} {k q j:Nat} {eo e:TypeId} {sz:Nat} {es:ug} {zs:List (List AV)} {X Y:Value} (hx:G w (c.XX s.h β) β κ (.hptr k j) X) (hy:G w (c.XX s.h β) β κ (.rslice q) Y)
 (hsz:lR P t=some 1) (hq:lk .gone s.h q = .row e sz zs) (hk:lk .gone s.h k = .rrow eo e sz es) (hnoR:s.noR=true) (hjl:j<es.length) :
 ∃ w',(Instr.storeAt t X Y).run P w = .ok () w'∧Rel c (s.stowR k q eo e sz (es.set j (some zs))) a w' (upd β (gk k j) (β q)) (upd κ (gk k j) (κ q)):=by
 have hne:es≠[]:=by intro e1;subst e1;simp at hjl
 have hok:=r.hp.ob k;rw [hk] at hok;obtain ⟨o1,o2,o3⟩:=hok;obtain ⟨cur,p1,p2,p3,p4,p5⟩:=o3 hne;have hYc:Y.cells = #[Y]∧Y.oneCell'=true:=by rcases hy.rslice_inv with ⟨_,e1⟩ | ⟨_,ad,e1⟩<;>rw [e1]<;>exact ⟨rfl,rfl⟩
 have hend:j+1≤cur.size:=by rw [p2];omega
 have hst:=run_storeCells_at P (β k) j eo [Y] 0 cur w p1 (by simp;omega) (fun v hv=>by simp only [List.mem_singleton] at hv;rw [hv];exact hYc.2);simp only [Nat.add_zero,List.length_singleton] at hst;let new:Array Value:=(cur.toList.take j++[Y]++cur.toList.drop (j+1)).toArray
 have hnewsz:new.size=cur.size:=by simp [new];omega
 have hnew:∀ i,new.getD i undef=if i=j then Y else cur.getD i undef:=by
  intro i;have hN:new.getD i undef=(cur.toList.take j++[Y]++cur.toList.drop (j+1)).getD i undef:=by simp [new,Kk,Kh]
  have hl1:(cur.toList.take j).length=j:=by simp;omega
  rw [hN];by_cases h4:i<j
  ·rw [if_neg (by omega),List.append_assoc,bR (by omega),getD_take _ _ _ _ h4];simp [Kk,Kh]
  ·by_cases h5:i=j
   ·rw [if_pos h5,List.append_assoc,bb (by omega),hl1,h5,Nat.sub_self];rfl
   ·rw [if_neg h5,bb (by simp;omega),dA];have:j+1+(i-(cur.toList.take j++[Y]).length)=i:=by simp;omega
    rw [this];simp [Kk,Kh]
 refine ⟨w.setRow (β k) new,?_,?_⟩
 ·rw [hx.hptr_inv];simp only [Instr.storeAt,Instr.sureAddr,pure_bind,storeVar,Sem.run_bind,run_sizeOf hsz,Result.andThen];rw [hYc.1];rw [if_neg (by simp)];exact hst
 ·exact r.stowR hq hk hnoR hjl (fun i hi=>bj _ _ _ hi) ⟨rfl,rfl,rfl,by simp [World.setRow],fun b hb=>bj _ _ _ hb⟩ p1 (eT w _ cur eo new p1) hnewsz hnew hy
theorem I7 {t:TypeId} {x y:Operand} {k q j:Nat} {eo e:TypeId} {sz:Nat} {es:ug} {zs:List (List AV)} (hg:gd ops s o=some true) (hop:o.op = .store t x y) (hd:o.dst=none) (hx:s.op x = .hptr k j) (hy:s.op y = .rslice q)
 (hsz:lR P t=some 1) (hq:lk .gone s.h q = .row e sz zs) (hk:lk .gone s.h k = .rrow eo e sz es) (hnoR:s.noR=true) (hjl:j<es.length):jl P ops o s (· = s.stowR k q eo e sz (es.set j (some zs))) :=
 b9 hg fun c a w β κ r=>by obtain ⟨w',hr,r'⟩:=CT r (by have:=r.op x;rwa [hx] at this) (by have:=r.op y;rwa [hy] at this) hsz hq hk hnoR hjl;refine ⟨undef,w',_,_,.inr ⟨?_,rfl⟩,by rw [hd];exact r'⟩;simp only [execOp,hop,Sem.run_bind,hr,Result.andThen];rfl
theorem Gk {t:TypeId} {x:Operand} {k q j:Nat} {eo e:TypeId} {sz:Nat} {es:ug} {zs:List (List AV)} (hg:gd ops s o=some true) (hop:o.op = .load t x) (hd:o.dst=some q) (hx:s.op x = .hptr k j)
 (hag:zQ P t=some false) (hk:lk .gone s.h k = .rrow eo e sz es) (hjl:j<es.length) (hj:es.getD j none=some zs) (hq:q<s.n∧q<1000):jl P ops o s (· = s.takeR k q eo e sz zs (es.set j none)) :=
 b9 hg fun c a w β κ r=>by
  have hX:=r.op x;rw [hx] at hX;have hne:es≠[]:=by intro e1;subst e1;simp at hjl
  have hok:=r.hp.ob k;rw [hk] at hok;obtain ⟨o1,o2,o3⟩:=hok;obtain ⟨cur,p1,p2,p3,p4,p5⟩:=o3 hne;have hc:=bu p1 (i:=j) (by rw [p2];omega);have hr:(execOp a.eval o).run P w = .ok (.value (cur.getD j undef)) w:=by
   have h2:(Instr.loadAt t (a.eval x)).run P w = .ok (cur.getD j undef) w:=by rw [hX.hptr_inv];simp [Instr.loadAt,Instr.sureAddr,loadVar,run_isAgg hag,hc,go_sem]
   simp only [execOp,hop,Sem.run_bind,h2,Result.andThen];rfl
  have hv:=p5 j hjl;rw [hj] at hv;rw [hd];cases zs with
  | nil =>
   obtain ⟨_,ad,hv2⟩:=hv;obtain ⟨κ',r'⟩:=r.takeR_empty (ad:=ad) hq hk hjl;exact ⟨_,w,β,κ',.inl hr,by rw [hv2];exact r'⟩
  | cons z zs =>
   obtain ⟨β',κ',r'⟩:=r.takeR_in (j:=j) hq hk hjl hj (by simp) hv;exact ⟨_,w,β',κ',.inl hr,r'⟩
theorem Hp {t:TypeId} {x:Operand} {k q j:Nat} {eo e:TypeId} {sz:Nat} {es es':ug} {zs:List (List AV)} (hg:gd ops s o=some true) (hop:o.op = .load t x) (hd:o.dst=some q) (hx:s.op x = .hptr k j)
 (hag:zQ P t=some false) (hk:lk .gone s.h k = .rrow eo e sz es) (hjl:j<es.length) (hj:es.getD j none=some zs) (he:es.set j none=es') (hq:(Nat.blt q s.n&&Nat.blt q 1000)=true) :
 Loc P ops o s ⟨[(q,.rslice q)],[(q,.row e sz zs),(k,.rrow eo e sz es')],[q],[]⟩:=by
 subst he;intro s' ha hf _;have hfk:=hf q (by simp);simp only [Kj,Nat.blt_eq] at hq;have hxo:x∈o.op.operands:=by rw [hop];simp [Op.operands]
 have hx':s'.op x = .hptr k j:=by rw [aS ha hxo];exact hx
 have hk':lk .gone s'.h k = .rrow eo e sz es:=by rw [ha.h (by rw [hop];rfl) _ hxo k (by rw [hx];simp [AV.men])];exact hk
 refine (Gk (by rw [bC ha];exact hg) hop hd hx' hag hk' hjl hj ⟨by rw [ha.n];exact hq.1,hq.2⟩).mono fun s'' e1 => ?_;subst e1;have hfh:∀ i,AO.men q (lk .gone (ins k (.rrow eo e sz (es.set j none)) s'.h) i)=false:=fun i=>by
  rw [az];split
  ·rfl
  ·exact hfk.2 i
 refine ⟨rfl,fun i => ?_,fun i => ?_⟩
 ·show lk .any (ins q (.rslice q) (gC q s'.t)) i=lk .any (im [(q,.rslice q)] s'.t) i;rw [az,cg,cq,AV.pg_free (hfk.1 i)];simp only [fU];by_cases e:i=q
  ·subst e;simp
  ·rw [if_neg e,bG e];rfl
 ·show lk .gone (ins q (.row e sz zs) (dc q (ins k (.rrow eo e sz (es.set j none)) s'.h))) i=lk .gone (im [(q,.row e sz zs),(k,.rrow eo e sz (es.set j none))] s'.h) i;rw [az,cg,cu,AO.pg_free (hfh i)];simp only [fU];by_cases e:i=q
  ·subst e;simp
  ·rw [if_neg e,bG e,az];simp only [cond_false];by_cases e2:i=k
   ·subst e2;simp
   ·rw [if_neg e2,bG e2];rfl
end
section
variable {P:Program} {ops:Array Oper} {o:Oper} {s:AS} {c:Cx P} {a:Act} {w:World} {β:Nat→Nat} {κ:Nat→Nat×Nat}
theorem yT (es:ug) (v:Option (List (List AV))) (i:Nat):(i<es.length→(es++[v]).getD i none=es.getD i none)∧(i=es.length→(es++[v]).getD i none=v):=by
 refine ⟨fun h => ?_,fun h => ?_⟩
 ·simp [Kh,List.getElem?_append_left h]
 ·subst h;simp [Kh]
theorem Rel.growR (r:Rel c s a w β κ) {k:Nat} {eo e:TypeId} {sz:Nat} {es:ug} (hk:lk .gone s.h k = .rrow eo e sz es) (hk3:k<1000) (hnoR:s.noR=true) {w':World} {b2 C:Nat} {arr:Array Value} {ad:Option Addr}
 (hw:∀ i,i≠b2→i<w.heap.size→w'.heap[i]? = w.heap[i]?) (hkp:cI c.K c.W w') (hb:(b2=β k∧es≠[])∨w.heap.size≤b2) (hm:w'.heap[b2]? = some (.cells arr eo (0,0))) (hs:arr.size=C*1) (hC:es.length+1≤C) (hCm:C≤maxLen) (hl:es.length<1000000)
 (hold:∀ i,i<es.length→zu w (c.XX s.h β) (β (gk k i)) (κ (gk k i)) e sz (arr.getD i undef) (es.getD i none)) (hnew:arr.getD es.length undef = .slice ad 0 0) :
 Rel c ⟨s.n,gC k s.t,ins k (.rrow eo e sz (es++[some []])) (dc k s.h)⟩ a w' (upd β k b2) (upd (upd κ k (C,es.length+1)) (gk k es.length) (0,0)):=by
 have hk6:k<1000000:=by omega
 have hgk:∀ i,gk k i≠k:=fun i e1=>by have:=cL k i;omega
 have hlive:es≠[]→(lk .gone s.h k).live:=fun h=>by rw [hk];exact h
 have hlk2:∀ n,lk .gone (ins k (.rrow eo e sz (es++[some []])) (dc k s.h)) n=if n=k then .rrow eo e sz (es++[some []]) else AO.pg k (lk .gone s.h n):=fun n=>by rw [az,cu]
 have hinn:∀ i,(AO.rrow eo e sz (es++[some []])).inn i→(lk .gone s.h k).inn i∧i<es.length:=by
  rintro i ⟨h1,h2,y,ys,h3⟩;by_cases h4:i<es.length
  ·rw [(yT es (some []) i).1 h4] at h3;refine ⟨?_,h4⟩;rw [hk];exact ⟨h1,h4,y,ys,h3⟩
  ·rw [(yT es (some []) i).2 (by simp at h2;omega)] at h3;cases h3
 have hlv:∀ n,lv (ins k (.rrow eo e sz (es++[some []])) (dc k s.h)) n→n=k∨(lv s.h n∧n≠k):=by
  rintro n (h | ⟨m,i,rfl,h⟩)
  ·rw [hlk2] at h;by_cases h2:n=k
   ·exact .inl h2
   ·rw [if_neg h2,AO.live_pg] at h;exact .inr ⟨.inl h,h2⟩
  ·rw [hlk2] at h;have hne:gk m i≠k:=by have:=cL m i;omega
   by_cases h2:m=k
   ·rw [if_pos h2] at h;exact .inr ⟨bq (by rw [h2];exact (hinn i h).1),hne⟩
   ·rw [if_neg h2,AO.inn_pg] at h;exact .inr ⟨bq h,hne⟩
 have b1:∀ n,n≠k→upd β k b2 n=β n:=fun n h=>be β h;have hX:∀ b,¬ c.XX s.h β b→b<w.heap.size→¬ c.XX (ins k (.rrow eo e sz (es++[some []])) (dc k s.h)) (upd β k b2) b:=by
  rintro b hb2 hlt (h | ⟨n,h1,h2⟩)
  ·exact hb2 (.inl h)
  ·rcases hlv n h1 with rfl | ⟨h3,h4⟩
   ·rw [ao] at h2;rcases hb with ⟨e1,e2⟩ | e1
    ·exact hb2 (.inr ⟨n,.inl (hlive e2),by rw [← e1];exact h2⟩)
    ·omega
   ·rw [b1 n h4] at h2;exact hb2 (.inr ⟨n,h3,h2⟩)
 have hnb:∀ n,lv s.h n→n≠k→β n≠b2:=by
  intro n hn hne e1;rcases hb with ⟨e2,e3⟩ | e2
  ·exact hne (r.hp.inj n k hn (.inl (hlive e3)) (e1.trans e2))
  ·have:=r.hp.lt hn;omega
 have hw2:∀ b,¬ c.XX s.h β b→b<w.heap.size→w'.heap[b]? = w.heap[b]? := fun b hb2 hlt=>hw b (fun e1=>by
  rcases hb with ⟨e2,e3⟩ | e2
  ·exact hb2 (.inr ⟨k,.inl (hlive e3),(e1.trans e2).symm⟩)
  ·omega) hlt
 have hk1:upd (upd κ k (C,es.length+1)) (gk k es.length) (0,0) k=(C,es.length+1):=by rw [be _ (Ne.symm (hgk _)),ao]
 have hko:∀ n,n≠k→n≠gk k es.length→upd (upd κ k (C,es.length+1)) (gk k es.length) (0,0) n=κ n:=fun n h1 h2=>by rw [be _ h2,be _ h1]
 have hgne:∀ n,n<1000000→n≠gk k es.length:=fun n hn e1=>by have:=cL k es.length;omega
 have hmn:∀ {v:AV},AV.hasR (AV.pg k v)=false→∀ n,AV.men n (AV.pg k v)=true→upd β k b2 n=β n∧upd (upd κ k (C,es.length+1)) (gk k es.length) (0,0) n=κ n:=fun {v} hr n hn=>by
  have h1:n≠k:=fun e1=>by subst e1;rw [AV.men_pg] at hn;cases hn
  exact ⟨b1 n h1,hko n h1 (hgne n (men_lt hr hn))⟩
 refine ⟨r.df,r.sz,fun i => ?_,⟨fun n => ?_,fun n n' hn hn' e1 => ?_,hkp,fun n hn => ?_,fun n hn => ?_,fun n hn hn6 => ?_,fun n hn => ?_⟩⟩
 ·show G w' (c.XX (ins k (.rrow eo e sz (es++[some []])) (dc k s.h)) (upd β k b2)) (upd β k b2) _ (lk .any (gC k s.t) i) _;rw [cq];have hR:=AV.hasR_pg (k:=k) (AS.noR_t hnoR i);exact ((r.tm i).pg k).mono2 hw2 hX hR (hmn hR)
 ·show HO w' (c.XX (ins k (.rrow eo e sz (es++[some []])) (dc k s.h)) (upd β k b2)) (upd β k b2) _ n (lk .gone (ins k (.rrow eo e sz (es++[some []])) (dc k s.h)) n);rw [hlk2];by_cases h2:n=k
  ·rw [if_pos h2,h2];refine ⟨by rw [hk1];simp,by simp;omega,fun _=>⟨arr,by rw [ao];exact hm,by rw [hk1];exact hs,by rw [hk1];simpa using hC,by rw [hk1];exact hCm,fun i hi => ?_⟩⟩;by_cases h4:i<es.length
   ·rw [(yT es (some []) i).1 h4,b1 _ (hgk i),hko _ (hgk i) (fun e3=>by have:=(dR (by omega) hl e3).2;omega)];have a5:=hold i h4;have hin:∀ z zs',es.getD i none=some (z::zs')→(lk .gone s.h k).inn i:=fun z zs' h=>by rw [hk];exact ⟨by omega,h4,z,zs',h⟩
    generalize es.getD i none=o at a5 hin ⊢;match o,a5,hin with
    | none,_,_=>trivial
    | some [],a5,_=>exact a5
    | some (z::zs'),a5,hin =>
     have hi9:=bq (hin z zs' rfl);exact ⟨a5.1,a5.2.1,a5.2.2.mono hw2 hX (hw _ (hnb _ hi9 (hgk i)) (r.hp.lt hi9))⟩
   ·have h5:i=es.length:=by simp at hi;omega
    rw [(yT es (some []) i).2 h5,h5,hnew,ao];exact ⟨rfl,ad,rfl⟩
  ·rw [if_neg h2];have hR:=AO.hasR_pg (k:=k) (AS.noR_h hnoR n);by_cases hg0:lk .gone s.h n = .gone
   ·rw [hg0];trivial
   ·have hn6:=r.hp.sg n hg0;refine ((r.hp.ob n).pg (j:=k)).mono2 hw2 hX hR (fun l hl => ?_) ⟨b1 n h2,hko n h2 (hgne n hn6),fun i hi=>⟨b1 _ (fun e3=>by have:=cL n i;omega),hko _ (fun e3=>by have:=cL n i;omega) (fun e3=>h2 (dR hi hl e3).1)⟩⟩ (fun hl => ?_) (fun i hl => ?_)
    ·have h1:l≠k:=fun e1=>by subst e1;rw [AO.men_pg] at hl;cases hl
     exact ⟨b1 l h1,hko l h1 (hgne l (AO.men_lt hR hl))⟩
    ·rw [AO.live_pg] at hl;exact hw _ (hnb n (.inl hl) h2) (r.hp.lt (.inl hl))
    ·rw [AO.inn_pg] at hl;exact hw _ (hnb _ (bq hl) (fun e3=>by have:=cL n i;omega)) (r.hp.lt (bq hl))
 ·rcases hlv n hn with e2 | ⟨h3,h4⟩<;>rcases hlv n' hn' with e3 | ⟨h6,h7⟩
  ·rw [e2,e3]
  ·rw [e2,ao,b1 n' h7] at e1;exact absurd e1.symm (hnb n' h6 h7)
  ·rw [e3,ao,b1 n h4] at e1;exact absurd e1 (hnb n h3 h4)
  ·rw [b1 n h4,b1 n' h7] at e1;exact r.hp.inj n n' h3 h6 e1
 ·rcases hlv n hn with e2 | ⟨h3,h4⟩
  ·rw [e2,ao];rcases hb with ⟨e3,e4⟩ | e3
   ·rw [e3];exact r.hp.nk k (.inl (hlive e4))
   ·intro hK;have:=c.hK _ hK;have:=r.hp.kp.size;omega
  ·rw [b1 n h4];exact r.hp.nk n h3
 ·rcases hlv n hn with e2 | ⟨h3,h4⟩
  ·rw [e2,ao];rcases hb with ⟨e3,e4⟩ | e3
   ·rw [e3];exact r.hp.nx k (.inl (hlive e4))
   ·intro hK;have:=c.hX _ hK;have:=r.hp.kp.size;omega
  ·rw [b1 n h4];exact r.hp.nx n h3
 ·rw [b1 n (by omega),hko n (by omega) (hgne n hn6)];exact r.hp.fix n hn hn6
 ·have hn:lk .gone (ins k (.rrow eo e sz (es++[some []])) (dc k s.h)) n ≠ .gone:=hn;rw [hlk2] at hn;by_cases h2:n=k
  ·rw [h2];exact hk6
  ·rw [if_neg h2] at hn;exact r.hp.sg n (fun e3=>hn (by rw [e3];rfl))
def AS.growR (s:AS) (k d:Nat) (eo e:TypeId) (sz:Nat) (es':ug):AS:=⟨s.n,ins d (.rslice k) (gC k s.t),ins k (.rrow eo e sz es') (dc k s.h)⟩
theorem IU {x y:Operand} {t eo e:TypeId} {sz by_ k d:Nat} {es:ug} (hg:gd ops s o=some true) (hop:o.op = .call ⟨.builtin .append,#[x,y],#[t,t]⟩) (hd:o.dst=some d) (he:dP P t=some (eo,1,by_)) (hx:s.op x = .rslice k) (hk:lk .gone s.h k = .rrow eo e sz es)
 (hy:s.op y = .dslice [[.eslice]]) (hkd:k<1000∧d<s.n) (hnoR:s.noR=true) (hb:(es.length+1)*by_≤140737488355328) (hl:es.length<1000000):jl P ops o s (· = s.growR k d eo e sz (es++[some []])) :=
 b9 hg fun c a w β κ r=>by
  obtain ⟨hu,i,z,hi,hz,hi1,rfl,hzs,hsz⟩:=gf he;have hX:=r.op x;have hY:=r.op y;rw [hx] at hX;rw [hy] at hY;obtain ⟨eYd,ad2,cap2,eY,_⟩:=hY.dslice_inv;have hE:EL 1 [[AV.eslice]]:=EL.one rfl rfl;obtain ⟨bd,cap,news,e1,n1,n2,n3,n4⟩:=rh eYd hE (by simp);simp only [List.length_singleton,Nat.one_mul] at n1 e1;have hn0:=n4 0 0 (by simp) (by omega);obtain ⟨v,rfl⟩:∃ v,news=[v]:=by
   cases news with
   | nil=>simp at n1
   | cons v l=>cases l with | nil=>exact ⟨v,rfl⟩ | cons _ _=>simp at n1
  have hv:∃ ad,v = .slice ad 0 0:=by
   have h9:D w (c.XX s.h β) .eslice v:=hn0;cases h9 with
   | eslice ad=>exact ⟨ad,rfl⟩
  obtain ⟨ad,rfl⟩:=hv;have hexec:∀ {V V' w'},a.eval x=V'→(Builtin.append_ #[t,t] o.type #[V',a.eval y]).run P w = .ok V w'→(execOp a.eval o).run P w = .ok (.value V) w':=by intro V V' w' e1 hr;simp only [execOp,hop,resolve,invoke,builtin,Sem.run_bind,Sem.run_pure,Result.andThen_ok,List.map_toArray,List.map_cons,List.map_nil,e1,hr]
  have hput:∀ {β' κ' w'} (b2 C:Nat),Rel c ⟨s.n,gC k s.t,ins k (.rrow eo e sz (es++[some []])) (dc k s.h)⟩ a w' β' κ'→β' k=b2→κ' k=(C,es.length+1)→Rel c (s.growR k d eo e sz (es++[some []])) (a.put o.dst (.slice (some ⟨b2,0,none⟩) (es.length+1) C)) w' β' κ':=by
   intro β' κ' w' b2 C r' h1 h2;rw [hd];refine bE r' (v:=.rslice k) ?_ (by simp only [AS.put,show Nat.blt d s.n=true by simpa [Nat.blt_eq] using hkd.2,cond_true];rfl);have:=G.rslice (w:=w') (X:=c.XX (ins k (.rrow eo e sz (es++[some []])) (dc k s.h)) β') (β:=β') (κ:=κ') k (by rw [h2];simp)
   rwa [h1,h2] at this
  have hkk:∀ C,upd (upd κ k (C,es.length+1)) (gk k es.length) (0,0) k=(C,es.length+1):=fun C=>by rw [be _ (fun e1=>by have:=cL k es.length;omega),ao]
  have ho:=r.hp.ob k;rw [hk] at ho;obtain ⟨o1,o2,o3⟩:=ho;by_cases hes:es=[]
  ·subst hes;obtain ⟨adx,eX⟩:∃ adx,a.eval x = .slice adx 0 0:=by
    rcases hX.rslice_inv with ⟨h0,_⟩ | ⟨_,adx,e2⟩
    ·rw [o1] at h0;simp at h0
    ·exact ⟨adx,e2⟩
   let C:=grownCap w 1 0 eo
   have hC:1≤C:=grownCap_ge w _ _ _;have hCm:C≤maxLen:=grownCap_le_maxLen w _ _ _ (by unfold maxLen;omega);let arr:Array Value:=[Value.slice ad 0 0].toArray++Builtin.zeroCells z.cells (C-1)
   simp only [List.length_nil,Nat.zero_add] at hb;have hrun:(Builtin.append_ #[t,t] o.type #[.slice adx 0 0,a.eval y]).run P w = .ok (.slice (some ⟨w.heap.size,0,none⟩) 1 C) (w.drew.alloc (.cells arr eo)):=by
    rw [e1];cases adx with
    | none=>exact run_append_nil (P:=P) w t o.type eo i z hu hi hz bd 1 cap [.slice ad 0 0] (by simp [hi1]) n2 (by omega) (by omega) (by omega)
    | some b0 =>
     have:=run_append_grow (P:=P) w t o.type eo i z hu hi hz b0 0 0 [] (by simp) (fun j v hv=>by simp at hv) bd 1 cap [.slice ad 0 0] (by simp [hi1]) n2 (by omega) (by omega) (growslice_fits (by omega) (by simpa using hb));simpa [arr,C] using this
   have hsz2:arr.size=C*1:=by simp only [arr,Array.size_append,List.size_toArray,size_zeroCells,hzs,hi1,List.length_singleton];omega
   have r':=r.growR (w':=w.drew.alloc (.cells arr eo)) (b2:=w.heap.size) (C:=C) (arr:=arr) (ad:=ad) hk hkd.1 hnoR (fun b _ hb=>ff w.drew _ hb) (r.drew.hp.kp.trans (eB c.K w.drew _ r.Klt) (fun _ h=>h)) (.inr (Nat.le_refl _)) (iQ w.drew _) hsz2 hC hCm hl (fun i hi=>by simp at hi) (by simp [arr,Kk,Array.getElem?_append]);exact ⟨_,_,_,_,.inl (hexec eX hrun),hput w.heap.size C r' (ao _ _ _) (hkk C)⟩
  ·obtain ⟨cur,q1,q2,q3,q4,q5⟩:=o3 hes;have eX:a.eval x = .slice (some ⟨β k,0,none⟩) es.length (κ k).1:=by
    rcases hX.rslice_inv with ⟨h0,e2⟩ | ⟨h0,_,e2⟩
    ·rw [e2,o1]
    ·rw [o1] at h0;exact absurd (List.eq_nil_of_length_eq_zero h0) hes
   by_cases hroom:es.length+1≤(κ k).1
   ·have hfit:es.length*i.size+1≤cur.size:=by rw [hi1,q2];omega
    let arr:Array Value:=(cur.toList.take (es.length*i.size)++[Value.slice ad 0 0]++cur.toList.drop (es.length*i.size+1)).toArray
    have hrun:(Builtin.append_ #[t,t] o.type #[.slice (some ⟨β k,0,none⟩) es.length (κ k).1,a.eval y]).run P w = .ok (.slice (some ⟨β k,0,none⟩) (es.length+1) (κ k).1) (w.setRow (β k) arr):=by rw [e1];exact run_append_room (P:=P) w t o.type eo i hu hi (β k) es.length (κ k).1 cur q1 bd 1 cap [.slice ad 0 0] (by simp [hi1]) n2 n3 hroom hfit
    have harr:∀ j,arr.getD j undef=if j=es.length then .slice ad 0 0 else cur.getD j undef:=by
     intro j;rw [← dz];simp only [arr,hi1,Nat.mul_one];have hl1:(cur.toList.take es.length).length=es.length:=by simp;omega
     by_cases h4:j<es.length
     ·rw [if_neg (by omega),List.append_assoc,dm (by omega),getD_take _ _ _ _ h4,dz]
     ·by_cases h5:j=es.length
      ·rw [if_pos h5,List.append_assoc,fx (by omega),hl1,h5,Nat.sub_self];rfl
      ·rw [if_neg h5,fx (by simp;omega),dA];have:es.length+1+(j-(cur.toList.take es.length++[Value.slice ad 0 0]).length)=j:=by simp;omega
       rw [this,dz]
    have hasz:arr.size=(κ k).1*1:=by rw [← q2];simp [arr,hi1];omega
    have hlv:(lk .gone s.h k).live:=by rw [hk];exact hes
    have r':=r.growR (w':=w.setRow (β k) arr) (b2:=β k) (C:=(κ k).1) (arr:=arr) (ad:=ad) hk hkd.1 hnoR (fun b hb _=>bj _ _ _ hb) (r.hp.kp.trans (K':=c.K) ⟨rfl,rfl,rfl,by simp [World.setRow],fun b hb=>bj _ _ _ (fun e3=>r.hp.nk k (.inl hlv) (e3 ▸ hb))⟩ (fun _ h=>h)) (.inl ⟨rfl,hes⟩) (eT w _ cur eo arr q1) hasz hroom q4 hl
     (fun j hj=>by rw [harr,if_neg (by omega)];exact q5 j hj) (by rw [harr,if_pos rfl])
    exact ⟨_,_,_,_,.inl (hexec eX hrun),hput (β k) (κ k).1 r' (ao _ _ _) (hkk _)⟩
   ·let C:=grownCap w (es.length+1) (κ k).1 eo
    have hC:es.length+1≤C:=grownCap_ge w _ _ _;have hCm:C≤maxLen:=grownCap_le_maxLen w _ _ _ (by unfold maxLen;omega);let olds:=cur.toList.take (es.length*i.size)
    have hol:olds.length=es.length*i.size:=by simp [olds,hi1];omega
    let arr:Array Value:=olds.toArray++[Value.slice ad 0 0].toArray++Builtin.zeroCells z.cells (C-(es.length+1))
    have hrun:(Builtin.append_ #[t,t] o.type #[.slice (some ⟨β k,0,none⟩) es.length (κ k).1,a.eval y]).run P w = .ok (.slice (some ⟨w.heap.size,0,none⟩) (es.length+1) C) (w.drew.alloc (.cells arr eo)):=by
     rw [e1];refine run_append_grow (P:=P) w t o.type eo i z hu hi hz ⟨β k,0,none⟩ es.length (κ k).1 olds hol (fun j v hv => ?_) bd 1 cap [.slice ad 0 0] (by simp [hi1]) n2 (by omega) (by omega) (growslice_fits (by omega) hb);have hj:j<es.length*i.size:=by have:=(Kq.1 hv).1;omega
     have hv2:cur[j]? = some v:=by simp only [olds,List.getElem?_take] at hv;rw [if_pos hj] at hv;simpa using hv
     rw [kn,Nat.zero_add];have:=bu q1 (i:=j) (by rw [hi1] at hj;omega);rw [this];simp [Kk,hv2]
    have hasz:arr.size=C*1:=by simp only [arr,Array.size_append,List.size_toArray,size_zeroCells,hol,hzs,hi1,List.length_singleton];omega
    have harr:∀ j,j≤es.length→arr.getD j undef=if j=es.length then .slice ad 0 0 else cur.getD j undef:=by
     intro j hj;have hol1:olds.length=es.length:=by rw [hol,hi1,Nat.mul_one]
     rw [← dz];simp only [arr,Array.toList_append,List.append_assoc];by_cases h4:j<es.length
     ·rw [if_neg (by omega),dm (by simpa [hol1] using h4)];simp only [olds,hi1,Nat.mul_one];rw [getD_take _ _ _ _ h4,dz]
     ·have h5:j=es.length:=by omega
      rw [if_pos h5,fx (by simpa [hol1] using Nat.le_of_eq h5.symm)];simp [hol1,h5]
    have r':=r.growR (w':=w.drew.alloc (.cells arr eo)) (b2:=w.heap.size) (C:=C) (arr:=arr) (ad:=ad) hk hkd.1 hnoR (fun b _ hb=>ff w.drew _ hb) (r.drew.hp.kp.trans (eB c.K w.drew _ r.Klt) (fun _ h=>h)) (.inr (Nat.le_refl _)) (iQ w.drew _) hasz hC hCm hl
     (fun j hj=>by rw [harr j (by omega),if_neg (by omega)];exact q5 j hj) (by rw [harr _ (Nat.le_refl _),if_pos rfl])
    exact ⟨_,_,_,_,.inl (hexec eX hrun),hput w.heap.size C r' (ao _ _ _) (hkk C)⟩
def AS.errow (s:AS) (t k:Nat) (eo e:TypeId) (sz:Nat):Option AS :=
 match lk .any s.t t with
 | .eslice=>bif Nat.blt k 1000 then some ⟨s.n,ins t (.rslice k) (gC k s.t),ins k (.rrow eo e sz []) (dc k s.h)⟩ else none
 | _=>none
theorem Rel.errow (r:Rel c s a w β κ) {t k:Nat} {eo e:TypeId} {sz:Nat} {s':AS} (h:s.errow t k eo e sz=some s'):∃ κ',Rel c s' a w β κ':=by
 unfold AS.errow at h;split at h
 ·rename_i ht;cases hc:Nat.blt k 1000 with
  | false=>rw [hc] at h;cases h
  | true =>
   rw [hc] at h;cases h;have hk:k<1000:=by simpa [Nat.blt_eq] using hc
   have r':=r.pg k;have hk6:k<1000000:=by omega
   have hi:∀ j,¬ (AO.rrow eo e sz []).inn j:=fun j h=>by have:=h.2.1;simp at this
   have hlive:∀ {j},lv (ins k (.rrow eo e sz []) (dc k s.h)) j→lv (dc k s.h) j:=by
    intro j hl;rcases eG (o:=.rrow eo e sz []) hk6 hi hl with ⟨_,h0⟩ | ⟨_,hl⟩
    ·exact absurd rfl h0
    ·exact hl
   have hX:∀ b,¬ c.XX (dc k s.h) β b→b<w.heap.size→¬ c.XX (ins k (.rrow eo e sz []) (dc k s.h)) β b:=by
    rintro b hb _ (hx | ⟨j,hl,hj⟩)
    ·exact hb (.inl hx)
    ·exact hb (.inr ⟨j,hlive hl,hj⟩)
   refine ⟨upd κ k (0,0),r.df,r.sz,fun i => ?_,⟨fun j => ?_,fun i j hi hj e=>r'.hp.inj i j (hlive hi) (hlive hj) e,r.hp.kp,fun j hj=>r'.hp.nk j (hlive hj),fun j hj=>r'.hp.nx j (hlive hj),fun j hj hj6 => ?_,fun j hj => ?_⟩⟩
   ·show G _ _ _ _ (lk .any (ins t (.rslice k) (gC k s.t)) i) _;rw [az];by_cases hi:i=t
    ·subst hi;have:=r.tm i;rw [ht] at this;obtain ⟨ad,e1⟩:=this.eslice_inv;rw [if_pos rfl,e1];exact .rslice0 k ad (by rw [ao])
    ·rw [if_neg hi];exact (r'.tm i).mono (w':=w) (κ':=upd κ k (0,0)) (β':=β) (fun _ _ _=>rfl) hX (fun j hj=>.updκ hk6 (fun e=>by rw [e] at hj;have:AV.men k (lk .any (gC k s.t) i)=true:=hj;rw [cq,AV.men_pg] at this;cases this))
   ·show HO _ _ _ _ j (lk .gone (ins k (.rrow eo e sz []) (dc k s.h)) j);rw [az];by_cases ej:j=k
    ·rw [if_pos ej,ej];exact ⟨by rw [ao];rfl,by simp,fun h=>absurd rfl h⟩
    ·rw [if_neg ej];exact (r'.hp.ob j).mono (w':=w) (fun _ _ _=>rfl) hX (fun i hi=>.updκ hk6 (fun e=>by rw [e] at hi;have:AO.men k (lk .gone (dc k s.h) j)=true:=hi;rw [cu,AO.men_pg] at this;cases this)) (.updκ hk6 ej) (fun _=>rfl) (fun _ _=>rfl)
   ·have:j≠k:=by omega
    rw [be κ this];exact r.hp.fix j hj hj6
   ·have hj:lk .gone (ins k (.rrow eo e sz []) (dc k s.h)) j ≠ .gone:=hj;rw [az] at hj;by_cases ej:j=k
    ·omega
    ·rw [if_neg ej] at hj;exact r'.hp.sg j hj
 ·cases h
def Iu (es:ug):List (List AV):=es.map fun p=>[AV.dslice (p.getD [])]
def AS.frzW (s:AS) (k:Nat):Option (Prop×AS) :=
 match lk .gone s.h k with
 | .rrow _ _ _ es=>some ((es.all fun p=>p.isSome)=true,s.subst k (.dslice (Iu es)))
 | _=>none
theorem Rel.frzW {s':AS} {p:Prop} (r:Rel c s a w β κ) {k:Nat} (h:s.frzW k=some (p,s')) (hp:p):Rel c s' a w β κ:=by
 unfold AS.frzW at h;split at h
 ·rename_i eo e sz es hk;cases h;refine r.subst fun hnV hX hnX=>⟨fun V hg => ?_,fun V _=>.any V⟩;have ho:=r.hp.ob k;rw [hk] at ho;obtain ⟨o1,o2,o3⟩:=ho;show D w _ (.dslice (Iu es)) V;have hlen:(Iu es).length=es.length:=by simp [Iu]
  have hat:∀ i,i<es.length→(Iu es).getD i []=[AV.dslice ((es.getD i none).getD [])]:=fun i hi=>by simp [Iu,Kh,Ki hi]
  rcases hg.rslice_inv with ⟨h0,e1⟩ | ⟨h0,ad,rfl⟩
  ·have hne:es≠[]:=by intro e;subst e;rw [o1] at h0;simp at h0
   have hlk:(lk .gone s.h k).live:=by rw [hk];exact hne
   obtain ⟨cur,h1,h2,h3,h4,h5⟩:=o3 hne;rw [e1,o1,← hlen];refine .dslice (Iu es) (β k) 0 (κ k).1 1 (fun i j=>cur.getD (i*1+j) undef) (by rw [hlen];exact h3) h4 (by omega) (hnX hlk) (fun i hi=>by rw [hat i (by omega)];rfl) (fun i j hi hj => ?_) (fun i j hi hj => ?_)
   ·rw [Nat.zero_add];exact bu h1 (by rw [h2];omega)
   ·have ej:j=0:=by omega
    subst ej;have hi2:i<es.length:=by omega
    rw [hat i hi2];show D w _ (.dslice ((es.getD i none).getD [])) (cur.getD (i*1+0) undef);rw [Nat.mul_one,Nat.add_zero];have hv:=h5 i hi2;have hs:(es.getD i none).isSome=true:=by have:=Ku.1 hp (es.getD i none) (by rw [Kh,Ki hi2];exact List.getElem_mem hi2);simpa using this
    have hin:∀ z zs,es.getD i none=some (z::zs)→(lk .gone s.h k).inn i:=fun z zs h=>by rw [hk];exact ⟨by omega,hi2,z,zs,h⟩
    generalize es.getD i none=o at hv hs hin ⊢;match o,hv,hs,hin with
    | none,_,hs,_=>cases hs
    | some [],hv,_,_ =>
     obtain ⟨_,ad,e1⟩:=hv;rw [e1];exact .dnil _ _ (Nat.zero_le _)
    | some (z::zs),hv,_,hin =>
     obtain ⟨v1,v2,cur2,g1,g2,g3,g4,g5,g6,g7⟩:=hv;rw [v2,v1];show D w _ (.dslice (z::zs)) _;refine .dslice (z::zs) (β (gk k i)) 0 (κ (gk k i)).1 sz (fun i' j=>cur2.getD (i'*sz+j) undef) g3 g4 g5 (hnV i (hin z zs rfl)) g6 (fun i' j hi' hj => ?_) (fun i' j hi' hj=>(g7 i' j hi' hj).mono (fun _ _ _=>rfl) hX);rw [Nat.zero_add];refine bu g1 ?_;rw [g2];have:(i'+1)*sz≤(κ (gk k i)).1*sz:=Nat.mul_le_mul_right _ (by omega);rw [Nat.add_mul] at this;omega
  ·have:es=[]:=List.eq_nil_of_length_eq_zero (by rw [← o1];exact h0);subst this;exact .dnil _ _ (Nat.zero_le _)
 ·cases h
end
inductive Ji where
 | tk (zs:List (List AV)) (es:ug)
 | st (es:ug)
 | apr (es:ug)
section
variable {P:Program} {ops:Array Oper} {o:Oper} {s s':AS}
def BC (P:Program) (s:AS) (dst:Option Tmp) (zs:List (List AV)) (es':ug):Op→Option (List Prop×cF)
 | .load t x=>match s.op x,dst,zQ P t with
  | .hptr k off,some q,some false=>match lk .gone s.h k with
   | .rrow eo e sz es=>bif Nat.blt q s.n&&Nat.blt q 1000 then some ([off<es.length,es.getD off none=some zs,es.set off none=es'],⟨[(q,.rslice q)],[(q,.row e sz zs),(k,.rrow eo e sz es')],[q],[]⟩) else none
   | _=>none
  | _,_,_=>none
 | _=>none
theorem yN {zs:List (List AV)} {es':ug} {ps:List Prop} {e:cF} (hg:gd ops s o=some true) (h:BC P s o.dst zs es' o.op=some (ps,e)) (hp:∀ p∈ps,p):Loc P ops o s e:=by
 unfold BC at h;split at h
 ·rename_i t x hop;split at h
  ·rename_i k off q hx hd hag;split at h
   ·rename_i eo e' sz es hk;cases hc:(Nat.blt q s.n&&Nat.blt q 1000) with
    | false=>rw [hc] at h;cases h
    | true =>
     rw [hc] at h;cases h;exact Hp hg hop hd hx hag hk (hp _ (by simp)) (hp _ (by simp)) (hp _ (by simp)) hc
   ·cases h
  ·cases h
 ·cases h
def gz (P:Program) (s:AS) (dst:Option Tmp):Ji→Op→Option (List Prop×AS)
 | .tk zs es',.load t x=>match s.op x,dst,zQ P t with
  | .hptr k off,some q,some false=>match lk .gone s.h k with
   | .rrow eo e sz es=>bif Nat.blt q s.n&&Nat.blt q 1000 then some ([off<es.length,es.getD off none=some zs,es.set off none=es'],s.takeR k q eo e sz zs es') else none
   | _=>none
  | _,_,_=>none
 | .st es',.store t x y=>match s.op x,s.op y,dst,lR P t with
  | .hptr k off,.rslice q,none,some 1=>match lk .gone s.h k,lk .gone s.h q with
   | .rrow eo e sz es,.row e2 sz2 zs=>bif Nat.beq e2 e&&Nat.beq sz2 sz&&s.noR then some ([off<es.length,es.set off (some zs)=es'],s.stowR k q eo e sz es') else none
   | _,_=>none
  | _,_,_,_=>none
 | .apr es',.call ⟨.builtin .append,ar,tys⟩=>match ar.toList,tys.toList,dst with
  | [x,y],[t,t'],some d=>if t=t' then (match dP P t,s.op x,s.op y with
   | some (eo,1,by_),.rslice k,.dslice [[.eslice]]=>match lk .gone s.h k with
    | .rrow eo2 e sz es=>bif Nat.beq eo2 eo&&(Nat.blt k 1000&&Nat.blt d s.n)&&s.noR then some ([(es.length+1)*by_≤140737488355328∧es.length<1000000,es++[some []]=es'],s.growR k d eo e sz es') else none
    | _=>none
   | _,_,_=>none) else none
  | _,_,_=>none
 | _,_=>none
theorem su {α:Type} {b:Bool} {x:Option α} {y:α} (h:(bif b then x else none)=some y):b=true∧x=some y:=by
 cases b with
 | true=>exact ⟨rfl,h⟩
 | false=>cases h
theorem tu {d:Ji} {ps:List Prop} (hg:gd ops s o=some true) (h:gz P s o.dst d o.op=some (ps,s')) (hp:∀ p∈ps,p):jl P ops o s (· = s'):=by
 unfold gz at h;split at h
 ·rename_i zs es' t x hop;split at h
  ·rename_i k off q hx hd hag;split at h
   ·rename_i eo e sz es hk;obtain ⟨hc,h⟩:=su h;simp only [Kj,Nat.blt_eq] at hc;cases h;have h3:es.set off none=es':=hp _ (by simp);subst h3;exact Gk hg hop hd hx hag hk (hp _ (by simp)) (hp _ (by simp)) hc
   ·cases h
  ·cases h
 ·rename_i es' t x y hop;split at h
  ·rename_i k off q hx hy hd hsz;split at h
   ·rename_i eo e sz es e2 sz2 zs hk hq;obtain ⟨hc,h⟩:=su h;simp only [Kj] at hc;obtain ⟨⟨c1,c2⟩,c3⟩:=hc;have c1:=bP.1 c1;have c2:=bP.1 c2;subst c1;subst c2;cases h;have h3:es.set off (some zs)=es':=hp _ (by simp);subst h3;exact I7 hg hop hd hx hy hsz hq hk c3 (hp _ (by simp))
   ·cases h
  ·cases h
 ·rename_i es' ar tys hop;split at h
  ·rename_i x y t t' d har hty hd;split at h;case isFalse=>cases h
   rename_i ht;subst ht;split at h
   ·rename_i eo by_ k he hx hy;split at h
    ·rename_i eo2 e sz es hk;obtain ⟨hc,h⟩:=su h;simp only [Kj,Nat.blt_eq] at hc;obtain ⟨⟨c1,c2⟩,c3⟩:=hc;have c1:=bP.1 c1;subst c1;cases h;have e1:ar = #[x,y]:=by rw [← Array.toList_inj];exact har
     have e2:tys = #[t,t]:=by rw [← Array.toList_inj];exact hty
     subst e1;subst e2;have h3:es++[some []]=es':=hp _ (by simp);subst h3;have h4:(es.length+1)*by_≤140737488355328∧es.length<1000000:=hp _ (by simp);exact IU hg hop hd he hx hk hy c2 c3 h4.1 h4.2
    ·cases h
   ·cases h
  ·cases h
 ·cases h
end
section
variable {P:Program} {ops:Array Oper} {o:Oper} {s:AS}
theorem IY {c:Cx P} {a:Act} {w:World} {β:Nat→Nat} {κ:Nat→Nat×Nat} {s:AS} (r:Rel c s a w β κ) {k k':Nat} {e:TypeId} {sz:Nat} {zs:List (List AV)} {s':AS} (h:s.grow k k' e sz zs=some s') (arr:Array Value) (hsz:0<sz)
 (hl:∀ i,i<zs.length→(zs.getD i []).length=sz) (hs:arr.size=zs.length*sz) (hC:zs.length≤maxLen)
 (hG:∀ i j,i<zs.length→j<sz→D w (c.XX s.h β) ((zs.getD i []).getD j .any) (arr.getD (i*sz+j) undef)) :
 ∃ β' κ',Rel c s' (a.put (some k') (.slice (some ⟨w.heap.size,0,none⟩) zs.length zs.length)) (w.alloc (.cells arr e)) β' κ':=by
 by_cases hz:zs=[];case neg=>exact CA r h arr zs.length hz hsz hl hs (Nat.le_refl _) hC hG
 subst hz;unfold AS.grow at h;cases hc:(Nat.blt k' s.n&&Nat.blt k' 1000) with
 | false=>rw [hc] at h;cases h
 | true =>
  rw [hc] at h;cases h;simp only [Kj,Nat.blt_eq] at hc;have r':=r.drop2 k k';obtain ⟨m1,m2⟩:=FH k k' s;have hw:∀ b,b<w.heap.size→(w.alloc (.cells arr e)).heap[b]? = w.heap[b]? := fun b hb=>ff w _ hb;obtain ⟨h1,h2⟩:=r'.hp.anew (w':=w.alloc (.cells arr e)) hc.2 (fun j _=>(m2 j).2) w.heap.size (0,0) (Nat.le_refl _) hw (eB _ w _ r.Klt) (o:=.row e sz [])
   ⟨by rw [ao];rfl,fun hx=>absurd rfl hx⟩
  refine ⟨upd β k' w.heap.size,upd κ k' (0,0),r.df,by simp [Act.put,r.sz],fun i => ?_,h1⟩;show G _ _ _ _ (lk .any (ins k' (.rslice k') (s.drop2 k k').t) i) _;rw [az];by_cases hi:i=k'
  ·subst hi;have hi':i<a.tmps.size:=by rw [r.sz];exact hc.1
   have:=G.rslice0 (w:=w.alloc (.cells arr e)) (X:=c.XX (ins i (.row e sz []) (s.drop2 k i).h) (upd β i w.heap.size)) (β:=upd β i w.heap.size) (κ:=upd κ i (0,0)) i (some ⟨w.heap.size,0,none⟩) (by rw [ao]);simpa [Act.put,Kk,Array.getElem?_setIfInBounds,hi'] using this
  ·have:=h2 (r'.tm i) (m1 i).2;rw [if_neg hi];have hne:¬ k'=i:=fun e=>hi e.symm;simpa [Act.put,Kk,Array.getElem?_setIfInBounds,hne] using this
def yV (P:Program) (e:TypeId):List AV:=match zeroOf P e with
 | some z=>z.cells.toList.map AV.of1
 | none=>[]
def Aw (P:Program) (s:AS) (dst:Option Tmp) (N:Nat):Op→Option (List Prop×AS)
 | .makeSlice t l c=>match s.op l,s.op c,dst,dP P t with
  | .int _ n,.int _ m,some k,some (e,sz,by_)=>match s.grow k k e sz (List.replicate N (yV P e)) with
   | some s'=>some ([n=(N:Int)∧m=(N:Int)∧by_*N≤140737488355328∧N≤9223372036854775807],s')
   | none=>none
  | _,_,_,_=>none
 | _=>none
theorem pq {N:Nat} {ps:List Prop} {s':AS} (hg:gd ops s o=some true) (h:Aw P s o.dst N o.op=some (ps,s')) (hp:∀ p∈ps,p):jl P ops o s (· = s') :=
 b9 hg fun c a w β κ r=>by
  unfold Aw at h;split at h
  ·rename_i t l c' hop;split at h
   ·rename_i k1 n k2 m k e sz by_ hl hc hd he;split at h
    ·rename_i s2 hs;cases h;obtain ⟨rfl,rfl,hb,hN⟩:=hp _ (List.mem_singleton.2 rfl);obtain ⟨hu,i,z,hi,hz,hsz,hbb,hzs,hs0⟩:=gf he;have hN:N≤maxLen:=hN;subst hbb;subst hsz;have hb':(i.bytes:Int)*(N:Int)≤281474976710656:=by
      have h:((i.bytes*N:Nat):Int)≤281474976710656:=by omega
      rwa [Int.natCast_mul] at h
     have hN':(N:Int)≤9223372036854775807:=by unfold maxLen at hN;omega
     have hr:=run_make (P:=P) (w:=w) t e i z hu hi hz k1 k2 N N (by omega) (Int.le_refl _) hb' hN';simp only [Int.toNat_natCast] at hr;have hzc:yV P e=z.cells.toList.map AV.of1:=by unfold yV zeroOf;simp only [hi,hz,Option.bind_some]
     have hlen:(List.replicate N (yV P e)).length=N:=by simp
     have hgi:∀ j,j<N→(List.replicate N (yV P e)).getD j []=yV P e:=fun j hj=>by simp [Kh,hj]
     have hzl:(yV P e).length=i.size:=by rw [hzc];simp [hzs]
     obtain ⟨β',κ',r'⟩:=IY r hs (madeCells z.cells (N*i.size)) hs0 (fun j hj=>by rw [hgi j (by rwa [hlen] at hj),hzl]) (by rw [size_madeCells,hlen]) (by rw [hlen];exact hN) (fun j q hj hq=>by
      rw [hlen] at hj;rw [hgi j hj,hzc];have hq2:q<z.cells.size:=by rw [hzs];exact hq
      have hjq:j*i.size+q<N*i.size:=by have:(j+1)*i.size≤N*i.size:=Nat.mul_le_mul_right _ hj;rw [Nat.add_mul] at this;omega
      have e1:(madeCells z.cells (N*i.size)).getD (j*i.size+q) undef=z.cells[q]:=by
       have hm:(j*i.size+q) % z.cells.size=q:=by rw [hzs,Nat.mul_comm,Nat.mul_add_mod,Nat.mod_eq_of_lt hq]
       simp [madeCells,Kk,hjq,hm,getElem!_pos,hq2]
      have e2:(z.cells.toList.map AV.of1).getD q .any=AV.of1 z.cells[q]:=by simp [Kh,hq2]
      rw [e1,e2];exact D.of1 w _ _)
     rw [hlen] at r';refine ⟨_,_,β',κ',.inl ?_,by rw [hd];exact r'⟩;have el:a.eval l = .int k1 (N:Int):=by have:=r.op l;rw [hl] at this;exact this.int_inv
     have ec:a.eval c' = .int k2 (N:Int):=by have:=r.op c';rw [hc] at this;exact this.int_inv
     simp only [execOp,hop,el,ec];show ((Instr.makeSlice t (.int k1 (N:Int)) (.int k2 (N:Int))) >>= fun x=>pure (Next.value x)).run P w=_;rw [Sem.run_bind,hr];rfl
    ·cases h
   ·cases h
  ·cases h
theorem v7 {α:Type} (c:α→List AV) (d:α) (N:Nat) (e:TypeId) (sz:Nat) {z:List AV} (h:z=c d):AO.row e sz (List.replicate N z) = .row e sz ((List.replicate N d).map c):=by rw [h,List.map_replicate]
def AS.ezR (s:AS) (k:Nat):Option AS:=match lk .gone s.h k with
 | .row e sz xs=>some ⟨s.n,s.t,ins k (.row e sz (xs.map fun x=>x.map AV.ez)) s.h⟩
 | _=>none
theorem Rel.ezR {c:Cx P} {a:Act} {w:World} {β:Nat→Nat} {κ:Nat→Nat×Nat} {s s':AS} (r:Rel c s a w β κ) {k:Nat} (h:s.ezR k=some s'):Rel c s' a w β κ:=by
 unfold AS.ezR at h;split at h
 ·rename_i e sz xs hk;cases h;by_cases hx:xs=[]
  ·subst hx;refine r.same ⟨rfl,fun _=>rfl,fun j => ?_⟩;show lk .gone (ins k (.row e sz []) s.h) j=lk .gone s.h j;rw [az];by_cases ej:j=k
   ·rw [if_pos ej,ej,hk]
   ·rw [if_neg ej]
  ·have hlive:(lk .gone s.h k).live:=by rw [hk];exact hx
   refine r.replace hlive (ob:=.row e sz (xs.map fun x=>x.map AV.ez)) (by simpa [AO.live] using hx) (fun _ _=>rfl) (cI.refl _ _) (fun _ _ => ?_);have ho:=r.hp.ob k;rw [hk] at ho;refine ⟨by rw [Kp];exact ho.1,fun _ => ?_⟩;obtain ⟨cur,h1,h2,h3,h4,h0,h5,h6⟩:=ho.2 hx;have hat:∀ i,i<xs.length→(xs.map fun x=>x.map AV.ez).getD i []=(xs.getD i []).map AV.ez:=fun i hi=>by simp [Kh,hi]
   refine ⟨cur,h1,h2,by rw [Kp];exact h3,h4,h0,fun i hi => ?_,fun i j hi hj => ?_⟩
   ·rw [Kp] at hi;rw [hat i hi,Kp];exact h5 i hi
   ·rw [Kp] at hi;have hj2:j<(xs.getD i []).length:=by rw [h5 i hi];exact hj
    have:((xs.getD i []).map AV.ez).getD j .any=AV.ez ((xs.getD i []).getD j .any):=by generalize xs.getD i []=ys at hj2;simp [Kh,hj2]
    rw [hat i hi,this];exact (h6 i j hi hj).ez
 ·cases h
def Jh {V:Type} (c:V→List AV):List V→AV
 | []=>.eslice
 | x::l=>.dslice ((x::l).map c)
theorem Jf {V:Type} (c:V→List AV) (l:List V):AV.ez (Jh c l) = .dslice (l.map c):=by cases l<;>rfl
theorem Hh {V:Type} (c:V→List AV) (l:List V):((Jh c l).one&&(Jh c l).fl)=true:=by cases l<;>rfl
theorem Il {V:Type} (e:TypeId) (sz:Nat) {c c':V→List AV} (h:∀ x,(c' x).map AV.ez=c x) (l:List V):AO.row e sz ((l.map c').map fun x=>x.map AV.ez) = .row e sz (l.map c):=by rw [List.map_map];exact congrArg (AO.row e sz) (List.map_congr_left fun x _=>h x)
end
section
variable {P:Program} {ops:Array Oper} {o:Oper} {s:AS}
theorem zb {t K E:TypeId} {kd k:Nat} (hg:gd ops s o=some true) (hop:o.op = .makeMap t none) (hd:o.dst=some k) (hu:P.underlying t=some (.map K E)) (hk:HW P K=some kd) (hb:(Nat.blt k s.n&&Nat.blt k 1000)=true) :
 Loc P ops o s ⟨[(k,.amap k)],[(k,.smap kd E [])],[k],[]⟩:=by
 intro s' ha hf _;have hfk:=hf k (by simp);have hm:oO P s' t k=some ⟨s'.n,ins k (.amap k) (gC k s'.t),ins k (.smap kd E []) (dc k s'.h)⟩:=by unfold oO;simp only [hu,hk,AS.fresh];rw [ha.n,hb];rfl
 refine (vU (by rw [bC ha];exact hg) hop hd hm).mono fun s'' e => ?_;subst e;refine ⟨rfl,fun i => ?_,fun i => ?_⟩
 ·show lk .any (ins k (.amap k) (gC k s'.t)) i=lk .any (im [(k,.amap k)] s'.t) i;rw [az,cg,cq,AV.pg_free (hfk.1 i)];simp only [fU];by_cases e:i=k
  ·subst e;simp
  ·rw [if_neg e,bG e];rfl
 ·show lk .gone (ins k (.smap kd E []) (dc k s'.h)) i=lk .gone (im [(k,.smap kd E [])] s'.h) i;rw [az,cg,cu,AO.pg_free (hfk.2 i)];simp only [fU];by_cases e:i=k
  ·subst e;simp
  ·rw [if_neg e,bG e];rfl
theorem AU {k:Nat} {u v:AV} (h:AV.men k v=false):AV.sb1 k u v=v:=by cases v<;>first | rfl | (simp only [AV.men] at h;rename_i j;have h2:Nat.beq j k=false:=h;simp only [AV.sb1,h2,cond_false])
theorem nD {k:Nat} {u:AV}:∀ {cs:List AV},AV.menL k cs=false→cs.map (AV.sb1 k u)=cs
 | [],_=>rfl
 | c::cs,h=>by simp only [AV.menL,Bool.or_eq_false_iff] at h;rw [List.map_cons,AU h.1,nD h.2]
theorem zw {k:Nat} {u v:AV} (h:AV.men k v=false):AV.sb2 k u v=v:=by
 cases v with
 | agg cs=>exact congrArg AV.agg (nD h)
 | _=>exact AU (u:=u) h
theorem qX {k:Nat} {u:AV}:∀ {cs:List AV},AV.menL k cs=false→cs.map (AV.sb2 k u)=cs
 | [],_=>rfl
 | c::cs,h=>by simp only [AV.menL,Bool.or_eq_false_iff] at h;rw [List.map_cons,zw h.1,qX h.2]
theorem sb_free {k:Nat} {u v:AV} (h:AV.men k v=false):AV.sb k u v=v:=by
 cases v with
 | tup cs=>exact congrArg AV.tup (qX h)
 | _=>exact zw (u:=u) h
theorem AO.sb_free {k:Nat} {u:AV} {o:AO} (h:AO.men k o=false):AO.sb k u o=o:=by
 cases o with
 | cells e cs=>exact congrArg (AO.cells e) (nD h)
 | _=>rfl
def Gn (P:Program) (s:AS) (dst:Option Tmp) (es':List (Key×AV)):Op→Option (List Prop×cF)
 | .insert t (.tmp tm) x y=>match lk .any s.t tm,dst,(s.op x).key with
  | .amap k,none,some key=>match rj P s t (.amap k) (s.op x) (s.op y),lk .gone s.h k with
   | some _,.smap kd E es=>bif Nat.blt k 1000000 then some ([Jk (kh key (s.op y) es)∧(kh key (s.op y) es).Perm es'],⟨[(tm,.dmap es')],[(k,.gone)],[],[(k,tm)]⟩) else none
   | _,_=>none
  | _,_,_=>none
 | _=>none
theorem Gl {s2:AS} {t:TypeId} {k kd:Nat} {E:TypeId} {es:List (Key×AV)} {x y:AV} {key:Key} (hx:x.key=some key) (hk:lk .gone s.h k = .smap kd E es) (h:rj P s t (.amap k) x y=some s2):s2=⟨s.n,s.t,ins k (.smap kd E (kh key y es)) s.h⟩:=by
 unfold rj at h;simp only [hx,hk] at h;split at h
 ·rename_i h1 _;cases h1;exact (Kt (gh h).2).symm
 ·cases h
theorem Af {es':List (Key×AV)} {ps:List Prop} {e:cF} (hg:gd ops s o=some true) (h:Gn P s o.dst es' o.op=some (ps,e)) (hp:∀ p∈ps,p):Loc P ops o s e:=by
 unfold Gn at h;split at h
 ·rename_i t tm x y hop;split at h
  ·rename_i k key hm hd hx;split at h
   ·rename_i s1 kd E es hs hk;obtain ⟨hk6,h⟩:=gh h;rw [Nat.blt_eq] at hk6;cases h;have hp:=hp _ (List.mem_singleton.2 rfl);intro s' ha _ ho;have hok:=ho (k,tm) (by simp);have hmo:Operand.tmp tm∈o.op.operands:=by rw [hop];simp [Op.operands]
    have hxo:x∈o.op.operands:=by rw [hop];simp [Op.operands]
    have hyo:y∈o.op.operands:=by rw [hop];simp [Op.operands]
    have hm':s'.op (.tmp tm) = .amap k:=by rw [aS ha hmo];exact hm
    have hk':lk .gone s'.h k = .smap kd E es:=by rw [ha.h (by rw [hop];rfl) _ hmo k (by show AV.men k (lk .any s.t tm)=true;rw [hm];simp [AV.men])];exact hk
    have hx':s'.op x=s.op x:=aS ha hxo;have hy':s'.op y=s.op y:=aS ha hyo;have hs0:=Gl hx hk hs;have hs':rj P s' t (.amap k) (s.op x) (s.op y)=some ⟨s'.n,s'.t,ins k (.smap kd E (kh key (s.op y) es)) s'.h⟩:=by
     have h2:=hs;unfold rj at h2 ⊢;simp only [hx,hk,hk'] at h2 ⊢;split at h2
     ·rename_i kd' E' es1 K' V' h1 hu;cases h1;rw [(gh h2).1];rfl
     ·cases h2
    refine fun c a w β κ r K Q hK => ?_;have hgd:gd ops s' o=some true:=by rw [bC ha];exact hg
    rw [fT r hgd];simp only [if_true];obtain ⟨w',hr,r'⟩:=s5 r (m:=.amap k) (M:=a.eval (.tmp tm)) (by rw [← hm'];exact r.op _) (by rw [← hx'];exact r.op x) (by rw [← hy'];exact r.op y) hs';have hl:lk .gone (ins k (.smap kd E (kh key (s.op y) es)) s'.h) k = .smap kd E (kh key (s.op y) es):=by rw [az,if_pos rfl]
    have hf:AS.frzO ⟨s'.n,s'.t,ins k (.smap kd E (kh key (s.op y) es)) s'.h⟩ k es'=some (Jk (kh key (s.op y) es)∧(kh key (s.op y) es).Perm es',AS.subst ⟨s'.n,s'.t,ins k (.smap kd E (kh key (s.op y) es)) s'.h⟩ k (.dmap es')):=by unfold AS.frzO;simp only [hl]
    have r2:=r'.frzO hf hp;have hex:(execOp a.eval o).run P w = .ok .skip w':=by simp [execOp,hop,hr,Result.andThen]
    unfold Oper.wp;rw [hex];refine hK _ _ w' β κ ?_ (by rw [hd];exact r2);refine ⟨rfl,fun i => ?_,fun i => ?_⟩
    ·show lk .any (s'.t.map fun p=>(p.1,AV.sb k (.dmap es') p.2)) i=lk .any (im [(tm,.dmap es')] s'.t) i;rw [qi .any (AV.sb k (.dmap es')) rfl,cg];simp only [fU];by_cases e:i=tm
     ·subst e;have:lk .any s'.t i = .amap k:=hm';rw [this];simp [AV.sb,AV.sb2,AV.sb1,AV.asMp]
     ·rw [bG e,sb_free (hok.1 i e)];rfl
    ·show lk .gone (rm k ((ins k (.smap kd E (kh key (s.op y) es)) s'.h).map fun p=>(p.1,AO.sb k (.dmap es') p.2))) i=lk .gone (im [(k,.gone)] s'.h) i;rw [iT,qi .gone (AO.sb k (.dmap es')) rfl,cg,az];simp only [fU];by_cases e:i=k
     ·subst e;simp
     ·rw [bG e,if_neg e,if_neg e,AO.sb_free (hok.2 i)];rfl
   ·cases h
  ·cases h
 ·cases h
def Io (P:Program) (s:AS) (dst:Option Tmp):Op→Option (List Prop×cF)
 | .makeMap t none=>match dst,P.underlying t with
  | some k,some (.map K E)=>match HW P K with
   | some kd=>bif Nat.blt k s.n&&Nat.blt k 1000 then some ([],⟨[(k,.amap k)],[(k,.smap kd E [])],[k],[]⟩) else none
   | none=>none
  | _,_=>none
 | _=>none
theorem BT {ps:List Prop} {e:cF} (hg:gd ops s o=some true) (h:Io P s o.dst o.op=some (ps,e)):Loc P ops o s e:=by
 unfold Io at h;split at h
 ·rename_i t hop;split at h
  ·rename_i k K E hd hu;split at h
   ·rename_i kd hk;obtain ⟨hb,h⟩:=gh h;cases h;exact zb hg hop hd hu hk hb
   ·cases h
  ·cases h
 ·cases h
def Iv (P:Program) (s:AS) (dst:Option Tmp) (N:Nat) (zs:List (List AV)):Op→Option (List Prop×cF)
 | .makeSlice t l c=>match s.op l,s.op c,dst,dP P t with
  | .int _ n,.int _ m,some k,some (e,sz,by_)=>bif Nat.blt k s.n&&Nat.blt k 1000 then some ([(n=(N:Int)∧m=(N:Int)∧by_*N≤140737488355328∧N≤9223372036854775807)∧List.replicate N (yV P e)=zs],⟨[(k,.rslice k)],[(k,.row e sz zs)],[k],[]⟩) else none
  | _,_,_,_=>none
 | _=>none
theorem BG {N:Nat} {zs:List (List AV)} {ps:List Prop} {e:cF} (hg:gd ops s o=some true) (h:Iv P s o.dst N zs o.op=some (ps,e)) (hp:∀ p∈ps,p):Loc P ops o s e:=by
 unfold Iv at h;split at h
 ·rename_i t l c hop;split at h
  ·rename_i k1 n k2 m k e sz by_ hl hc hd he;obtain ⟨hb,h⟩:=gh h;cases h;obtain ⟨hq,rfl⟩:=hp _ (List.mem_singleton.2 rfl);intro s' ha hf _;have hfk:=hf k (by simp);have hl':s'.op l = .int k1 n:=by rw [aS ha (by rw [hop];simp [Op.operands])];exact hl
   have hc':s'.op c = .int k2 m:=by rw [aS ha (by rw [hop];simp [Op.operands])];exact hc
   have hgr:s'.grow k k e sz (List.replicate N (yV P e))=some ⟨s'.n,ins k (.rslice k) (s'.drop2 k k).t,ins k (.row e sz (List.replicate N (yV P e))) (s'.drop2 k k).h⟩:=by unfold AS.grow;rw [ha.n,hb];rfl
   have hm:Aw P s' o.dst N o.op=some ([n=(N:Int)∧m=(N:Int)∧by_*N≤140737488355328∧N≤9223372036854775807],⟨s'.n,ins k (.rslice k) (s'.drop2 k k).t,ins k (.row e sz (List.replicate N (yV P e))) (s'.drop2 k k).h⟩):=by unfold Aw;rw [hop,hd];simp only [hl',hc',he,hgr]
   refine (pq (by rw [bC ha];exact hg) hm (fun p hp'=>by rw [List.mem_singleton.1 hp'];exact hq)).mono fun s'' e1 => ?_;subst e1;refine ⟨rfl,fun i => ?_,fun i => ?_⟩
   ·show lk .any (ins k (.rslice k) (gC k (gC k s'.t))) i=lk .any (im [(k,.rslice k)] s'.t) i;rw [az,cg,cq,cq,AV.pg_free (hfk.1 i),AV.pg_free (hfk.1 i)];simp only [fU];by_cases e:i=k
    ·subst e;simp
    ·rw [if_neg e,bG e];rfl
   ·show lk .gone (ins k (.row e sz (List.replicate N (yV P e))) (rm k (dc k (dc k s'.h)))) i=lk .gone (im [(k,.row e sz (List.replicate N (yV P e)))] s'.h) i;rw [az,cg,iT,cu,cu,AO.pg_free (hfk.2 i),AO.pg_free (hfk.2 i)];simp only [fU];by_cases e:i=k
    ·subst e;simp
    ·rw [if_neg e,bG e,if_neg e];rfl
  ·cases h
 ·cases h
theorem Rel.cellAny {c:Cx P} {a:Act} {w:World} {β:Nat→Nat} {κ:Nat→Nat×Nat} {s:AS} (r:Rel c s a w β κ) {k i:Nat} {e:TypeId} {cs:List AV} (hk:lk .gone s.h k = .cells e cs):Rel c ⟨s.n,s.t,ins k (.cells e (cs.set i .any)) s.h⟩ a w β κ:=by
 have hlive:(lk .gone s.h k).live:=by rw [hk];trivial
 refine r.replace hlive (ob:=.cells e (cs.set i .any)) trivial (fun _ _=>rfl) (cI.refl _ _) (fun _ _ => ?_);have ho:=r.hp.ob k;rw [hk] at ho;obtain ⟨cur,h1,h2,h3⟩:=ho;refine ⟨cur,h1,by simpa using h2,fun j hj => ?_⟩;have hj2:j<cs.length:=by simpa using hj
 by_cases e:i=j
 ·subst e;have:(cs.set i .any).getD i .any = .any:=by simp [Kh,hj2]
  rw [this];exact .d (.any _)
 ·have:(cs.set i .any).getD j .any=cs.getD j .any:=by simp [Kh,List.getElem?_set,e]
  rw [this];exact h3 j hj2
def Ih (P:Program) (s:AS) (dst:Option Tmp):Op→Option (List Prop×cF)
 | .load t x=>match s.op x,dst with
  | .hptr k i,some d=>match lk .gone s.h k,p8 P s t (.hptr k i) with
   | .cells e cs,some v=>bif Nat.blt d s.n then some ([],⟨[(d,v)],[(k,.cells e (cs.set i .any))],[],[]⟩) else none
   | _,_=>none
  | _,_=>none
 | _=>none
theorem Bc {ps:List Prop} {e:cF} (hg:gd ops s o=some true) (h:Ih P s o.dst o.op=some (ps,e)):Loc P ops o s e:=by
 unfold Ih at h;split at h
 ·rename_i t x hop;split at h
  ·rename_i k i d hx hd;split at h
   ·rename_i et cs v hk hv;obtain ⟨hb,h⟩:=gh h;cases h;intro s' ha _ _;have hxo:x∈o.op.operands:=by rw [hop];simp [Op.operands]
    have hx':s'.op x = .hptr k i:=by rw [aS ha hxo];exact hx
    have hk':lk .gone s'.h k = .cells et cs:=by rw [ha.h (by rw [hop];rfl) _ hxo k (by rw [hx];simp [AV.men])];exact hk
    have hv':p8 P s' t (.hptr k i)=some v:=by rw [← hv];exact s9 (fun j hj=>by
     have:j=k:=by simp only [AV.men] at hj;exact (bP.1 hj).symm
     rw [this,hk',hk])
    have hput:AS.put s' (some d) v=some ⟨s'.n,ins d v s'.t,s'.h⟩:=by simp only [AS.put];rw [ha.n,hb];rfl
    refine (b9 (s':=⟨s'.n,ins d v s'.t,ins k (.cells et (cs.set i .any)) s'.h⟩) (by rw [bC ha];exact hg) fun c a w β κ r => ?_).mono fun s'' e1 => ?_
    ·obtain ⟨V,hr,hG⟩:=ou r (by have:=r.op x;rw [hx'] at this;exact this) hv';have r1:=bE r hG hput;have hk2:lk .gone (⟨s'.n,ins d v s'.t,s'.h⟩:AS).h k = .cells et cs:=hk';refine ⟨V,w,β,κ,.inl ?_,by rw [hd];exact r1.cellAny hk2⟩;simp [execOp,hop,hr,Result.andThen]
    ·subst e1;exact ⟨rfl,fun _=>rfl,fun _=>rfl⟩
   ·cases h
  ·cases h
 ·cases h
def IK (P:Program) (s:AS) (dst:Option Tmp) (n j:Nat) (ob:AO):Op→Option (List Prop×cF)
 | .store t x y=>match dst,s.op x with
  | none,.hptr k _=>(match oD P s t (s.op x) (s.op y) n j with
   | some (p,s1)=>some ([p,lk .gone s1.h k=ob],⟨[],[(k,ob)],[],[]⟩)
   | none=>none)
  | _,_=>none
 | _=>none
theorem BD {n j:Nat} {ob:AO} {ps:List Prop} {e:cF} (hg:gd ops s o=some true) (h:IK P s o.dst n j ob o.op=some (ps,e)) (hp:∀ p∈ps,p):Loc P ops o s e:=by
 unfold IK at h;split at h
 ·rename_i t x y hop;split at h
  ·rename_i k off hd hx;split at h
   ·rename_i p s1 hr;cases h;intro s' ha _ _;have hxo:x∈o.op.operands:=by rw [hop];simp [Op.operands]
    have hyo:y∈o.op.operands:=by rw [hop];simp [Op.operands]
    have ex:=aS ha hxo;have ey:=aS ha hyo;have hk':lk .gone s'.h k=lk .gone s.h k:=ha.h (by rw [hop];rfl) _ hxo k (by rw [hx];simp [AV.men]);unfold oD at hr;rw [hx] at hr;split at hr
    ·rename_i k2 o2 vs m e1 e2 e3;cases e1;split at hr
     ·rename_i et sz xs hrow;split at hr
      ·rename_i hc;cases hr;have hob:AO.row et sz (xs.set n (cX (xs.getD n []) j vs))=ob:=by have:=hp _ (by simp:lk .gone (ins k (AO.row et sz (xs.set n (cX (xs.getD n []) j vs))) s.h) k=ob∈_);rw [az,if_pos rfl] at this;exact this
       have hr':oD P s' t (s'.op x) (s'.op y) n j=some (off=n*sz+j∧n<xs.length∧j+m≤sz,⟨s'.n,s'.t,ins k (.row et sz (xs.set n (cX (xs.getD n []) j vs))) s'.h⟩):=by unfold oD;rw [ex,ey,hx,e2,e3];simp only;rw [hk',hrow];simp only;rw [if_pos hc]
       refine (xE (by rw [bC ha];exact hg) hop hd hr' (hp _ (by simp))).mono fun s'' e => ?_;subst e;refine ⟨rfl,fun i=>rfl,fun i => ?_⟩;show lk .gone (ins k (.row et sz (xs.set n (cX (xs.getD n []) j vs))) s'.h) i=lk .gone (im [(k,ob)] s'.h) i;rw [hob,az,cg];simp only [fU];by_cases e:i=k
       ·subst e;simp
       ·rw [if_neg e,bG e];rfl
      ·cases hr
     ·cases hr
    ·cases hr
   ·cases h
  ·cases h
 ·cases h
end
inductive pH where
 | v
 | e (v:AV)
 | s
 | c (fl:Bool) (v:AV)
 | b
 | ae
 | l (v:AV)
 | h (ps:List (Nat×Nat)) (v:AV) (h1:List (Nat×AO))
 | m
 | ap
 | fz (k:Nat)
 | fm (k:Nat)
 | fo (k:Nat) (es:List (Key×AV))
 | en (i:Nat) (v:AV)
 | mk (N:Nat)
 | mkx (N:Nat) (zs:List (List AV))
 | mm
 | ezr (k:Nat)
 | lt
 | mi (es:List (Key×AV))
 | er (t k:Nat) (e:TypeId) (sz:Nat)
 | w
 | we (v:AV)
 | cf (fl:Bool) (v:AV)
 | cw (fl:Bool) (pl:List (Nat×List (Nat×Nat))) (v:AV)
 | wk (t:Nat) (p:List (Nat×Nat))
 | rwT (t:Nat) (v:AV)
 | rwH (k:Nat) (ob:AO)
 | rl (n j:Nat) (v:AV)
 | rs (n j:Nat)
 | rsx (n j:Nat) (ob:AO)
 | apx (zs:List (List AV))
 | bw (pl:List (List (Nat×Nat)))
 | apg
 | lk (zs:List (List AV)) (es:kA)
 | ms (es:kA)
 | es3 (es:kA)
 | e1 (es:kA)
 | e2
 | e3 (es:kA)
 | ent (c:yX)
 | xc (v:AV)
 | hM (ps ds:List (Nat×Nat)) (v:AV) (h1:List (Nat×AO))
 | fr (k:Nat)
 | qo (q:Ji)
 | rr
 | fw (k:Nat)
 | ew (t k:Nat) (eo e:TypeId) (sz:Nat)
 | tr (k:Nat) (e:TypeId) (sz:Nat)
 | hN (v:AV) (h1:List (Nat×AO))
 | hR (ps:List (Nat×Nat)) (d:Nat) (v:AV) (h1:List (Nat×AO))
def bB:List Prop→Prop
 | []=>True
 | [p]=>p
 | p::ps=>p∧bB ps
theorem bB.cons {p:Prop} {ps:List Prop}:bB (p::ps)↔p∧bB ps:=by
 cases ps with
 | nil=>simp [bB]
 | cons q qs=>rfl
theorem bB.mem {ps:List Prop} (h:bB ps):∀ p∈ps,p:=by
 induction ps with
 | nil=>intro p hp;cases hp
 | cons q qs ih =>
  obtain ⟨h1,h2⟩:=bB.cons.1 h;intro p hp;rcases List.mem_cons.1 hp with rfl | hp
  ·exact h1
  ·exact ih h2 p hp
theorem bB.append {ps qs:List Prop}:bB (ps++qs)↔bB ps∧bB qs:=by
 induction ps with
 | nil=>simp [bB]
 | cons p ps ih=>rw [List.cons_append,bB.cons,bB.cons,ih,and_assoc]
def asks:Op→Bool
 | .unOp _ _ _=>true
 | .binOp op _ _ _ _=>match op with | .add | .sub | .mul | .quo | .rem=>true | _=>false
 | .slice _ _ _ _ _=>true
 | .index _ _ _=>true
 | .indexAddr _ _ _=>true
 | .call _=>true
 | .convert _ _ _=>true
 | _=>false
def Fc:Op→Bool
 | .binOp .quo _ _ _ _=>true
 | .index _ _ _=>true
 | _=>false
def Hx (op:Op) (p:Prop):List Prop:=if Fc op then [p] else []
def JK (op:Op) (p:Prop):List Prop:=if asks op then [p] else []
section
variable {P:Program} {ops:Array Oper} {o:Oper} {s s':AS}
theorem tI {p q:Prop} {u v:AV} (hq:q) (h:some (q,u)=some (p,v)):p:=by cases h;exact hq
theorem Ea {op:BinOp} {k:IntKind} {a b:Int} {p:Prop} {v:AV} (ha:(match op with | .add | .sub | .mul | .quo | .rem=>true | _=>false)=false) (h:uG op k a b=some (p,v)):p:=by cases op<;>simp only [uG,reduceCtorEq] at h ha<;>first | exact tI trivial h | cases h
theorem DH {op:BinOp} {a b:List UInt8} {p:Prop} {v:AV} (ha:(match op with | .add | .sub | .mul | .quo | .rem=>true | _=>false)=false) (h:Cb op a b=some (p,v)):p:=by cases op<;>simp only [Cb,reduceCtorEq] at h ha<;>first | exact tI trivial h | cases h
theorem Ef {op:BinOp} {t:TypeId} {x y:Operand} {p:Prop} {v:AV} (ha:(match op with | .add | .sub | .mul | .quo | .rem=>true | _=>false)=false) (h:za P s op t x y=some (p,v)):p:=by
 unfold za at h;split at h
 ·split at h
  ·exact Ea ha h
  ·cases h
 ·exact DH ha h
 ·split at h
  ·split at h<;>first | exact tI trivial h | cases h
  ·cases h
 ·split at h
  ·split at h<;>first | exact tI trivial h | cases h
  ·cases h
 ·split at h
  ·split at h<;>first | exact tI trivial h | cases h
  ·cases h
 ·cases h
theorem DS {op:Op} {p:Prop} {v:AV} (ha:asks op=false) (h:gq P s op=some (p,v)):p:=by
 unfold gq at h;split at h;case h_9=>exact Ef ha h
 all_goals first
  | exact tI trivial h
  | (cases ha;done)
  | ((repeat' split at h)<;>first | exact tI trivial h | (cases h;done))
theorem uY {op:Op} {p:Prop} {v:AV} (h:gq P s op=some (p,v)) (hp:bB (JK op p)):p:=by
 unfold JK at hp;cases ha:asks op with
 | true=>rw [ha] at hp;exact hp
 | false=>exact DS ha h
theorem ER {op:Op} {p:Prop} {v:AV} (ha:Fc op=false) (h:Dq P s op=some (p,v)):p:=by
 unfold Dq at h;split at h
 ·split at h
  ·repeat' split at h
   all_goals first | exact tI trivial h | cases h
  ·split at h
   ·exact tI trivial h
   ·exact tI trivial h
   ·exact tI trivial h
   ·cases ha
   ·cases h
  ·cases h
 ·split at h
  ·exact tI trivial h
  ·cases h
 ·cases ha
 ·cases h
theorem xF {op:Op} {p:Prop} {v:AV} (h:Dq P s op=some (p,v)) (hp:bB (Hx op p)):p:=by
 unfold Hx at hp;cases ha:Fc op with
 | true=>rw [ha] at hp;exact hp
 | false=>exact ER ha h
def Cg (s:AS) (dst:Option Tmp):Bool:=match dst with | none=>true | some t=>Nat.blt t s.n
theorem cp {dst:Option Tmp} (h:Cg s dst=true) (v:AV):s.put dst v=some ((cF.put dst v).app s):=by
 cases dst with
 | none=>rfl
 | some t=>simp only [Cg] at h;simp only [AS.put,h];rfl
def vJ (fl:Bool) (s:AS) (ar:Array Operand) (caps:List AV):Option (List AV) :=
 if fl then (if AV.flL (s.args ar caps) then some (s.args ar caps) else none) else some ((s.args ar caps).map (AV.vw s.h))
def vW (P:Program) (s:AS) (op:Op) (fl:Bool) (v:AV):Option (List Prop) :=
 match op with
 | .call ⟨.value x,ar,_⟩=>match s.op x with
  | .fn f caps=>match vJ fl s ar caps with
   | some args=>bif uf fl v then some [Go.Proofs.Enters P f,bT P f args [] fun r _=>r=v] else none
   | none=>none
  | _=>none
 | _=>none
def FD (P:Program) (s:AS) (op:Op) (fl:Bool) (v:AV):Option (List Prop) :=
 match op with
 | .call ⟨.value x,ar,_⟩=>match s.op x with
  | .fn f caps=>match vJ fl s ar caps with
   | some args=>some [Go.Proofs.Enters P f,bT P f args [] (fun r _=>r=v),uf fl v=true]
   | none=>none
  | _=>none
 | _=>none
def E8 (P:Program) (s:AS) (op:Op) (fl:Bool) (pl:List (Nat×List (Nat×Nat))) (v:AV):Option (List Prop) :=
 match op with
 | .call ⟨.value x,ar,_⟩=>match s.op x with
  | .fn f caps=>match vJ fl s ar caps with
   | some args=>bif uf fl v then some [Go.Proofs.Enters P f,bT P f (sM pl args) [] fun r _=>r=v] else none
   | none=>none
  | _=>none
 | _=>none
def CO (P:Program) (s:AS):Op→Option AV
 | .build t ps=>uo P t (s.parts ps)
 | .buildSlice t len ps=>cT P t len (s.parts ps)
 | _=>none
def FA (P:Program) (s:AS):Op→Option (List Prop×AV)
 | .call ⟨.builtin .append,ar,tys⟩=>match ar.toList,tys.toList with
  | [x,y],[t,t']=>if t=t' then (match dP P t,s.op x,s.op y with
   | some (_,sz,by_),.eslice,.dslice ys=>some ([EL sz ys,ys.length*by_≤140737488355328,ys.length≤9223372036854775807],.dslice ys)
   | _,_,_=>none) else none
  | _,_=>none
 | _=>none
def F8 (P:Program) (s:AS) (n j:Nat):Op→Option (Prop×AV)
 | .load t x=>sW P s t (s.op x) n j
 | _=>none
def Bq (P:Program) (s:AS) (dst:Option Tmp) (n j:Nat):Op→Option (Prop×AS)
 | .store t x y=>match dst with | none=>oD P s t (s.op x) (s.op y) n j | some _=>none
 | _=>none
theorem qT {n j:Nat} {p:Prop} (hg:gd ops s o=some true) (h:Bq P s o.dst n j o.op=some (p,s')) (hp:p):jl P ops o s (· = s'):=by
 unfold Bq at h;split at h
 ·rename_i t x y hop;split at h
  ·rename_i hd;exact xE hg hop hd h hp
  ·cases h
 ·cases h
def HS (P:Program) (s:AS):Op→Option (List Prop×AV)
 | .lookup t m x false=>match tD P s t (s.op m) (s.op x) with
  | some v=>some ([],v)
  | none=>match vZ P t (s.op m) (s.op x) with
   | some (p,v)=>some ([p],v)
   | none=>none
 | _=>none
def mn (b:Bool):Option Bool→Bool
 | some c=>c==b
 | none=>false
theorem aK {b:Bool} {x:Option Bool} (h:mn b x=true):x=some b:=by
 cases x with
 | none=>cases h
 | some c=>simp only [mn,beq_iff_eq] at h;rw [h]
def uV (P:Program) (ops:Array Oper) (s:AS) (o:Oper) (d:pH):Option (List Prop×AV) :=
 bif Cg s o.dst then (match d with
 | .s=>bif mn false (gd ops s o) then some ([],.tup []) else none
 | .v=>bif mn true (gd ops s o) then (match gq P s o.op with | some (p,v)=>some (JK o.op p,v) | none=>none) else none
 | .e v'=>bif mn true (gd ops s o) then (match gq P s o.op with | some (p,v)=>some (JK o.op p++[v=v'],v') | none=>none) else none
 | .c fl v=>bif mn true (gd ops s o) then (match vW P s o.op fl v with | some ps=>some (ps,v) | none=>none) else none
 | .cf fl v=>bif mn true (gd ops s o) then (match FD P s o.op fl v with | some ps=>some (ps,v) | none=>none) else none
 | .xc v=>bif mn true (gd ops s o) then (match EY P s o.op v with | some ps=>some (ps,v) | none=>none) else none
 | .b=>bif mn true (gd ops s o) then (match CO P s o.op with | some v=>some ([],v) | none=>none) else none
 | .bw pl=>bif mn true (gd ops s o) then (match CO P s o.op with | some v=>some ([],Gp pl v) | none=>none) else none
 | .ae=>bif mn true (gd ops s o) then FA P s o.op else none
 | .l v'=>bif mn true (gd ops s o) then (match HS P s o.op with | some (ps,v)=>some (ps++[v=v'],v') | none=>none) else none
 | .rl n j v'=>bif mn true (gd ops s o) then (match F8 P s n j o.op with | some (p,v)=>some ([p,v=v'],v') | none=>none) else none
 | .w=>bif mn true (gd ops s o) then (match Dq P s o.op with | some (p,v)=>some (Hx o.op p,v) | none=>none) else none
 | .we v'=>bif mn true (gd ops s o) then (match Dq P s o.op with | some (p,v)=>some (Hx o.op p++[v=v'],v') | none=>none) else none
 | .cw fl pl v=>bif mn true (gd ops s o) then (match E8 P s o.op fl pl v with | some ps=>some (ps,v) | none=>none) else none
 | _=>none) else none
theorem ay {α:Type} {b:Bool} {x:Option α} {y:α} (h:(bif b then x else none)=some y):b=true∧x=some y:=by
 cases b with
 | true=>exact ⟨rfl,h⟩
 | false=>cases h
theorem tB {d:pH} {ps:List Prop} {v:AV} (h:uV P ops s o d=some (ps,v)) (hp:bB ps):Loc P ops o s (.put o.dst v):=by
 unfold uV at h;obtain ⟨hd,h⟩:=ay h;cases d;case s =>
  obtain ⟨hg,h⟩:=ay h;cases h;exact Fh (aK hg) (cp hd _)
 case v =>
  obtain ⟨hg,h⟩:=ay h;split at h
  ·rename_i p v' hv;cases h;exact Cq (aK hg) hv (uY hv hp) (cp hd _)
  ·cases h
 case e v0 =>
  obtain ⟨hg,h⟩:=ay h;split at h
  ·rename_i p v' hv;cases h;obtain ⟨h1,h2⟩:=bB.append.1 hp;have h3:v'=v:=h2;subst h3;exact Cq (aK hg) hv (uY hv h1) (cp hd _)
  ·cases h
 case c fl v0 =>
  obtain ⟨hg,h⟩:=ay h;split at h
  ·rename_i ps' hs;simp only [Kr,Prod.mk.injEq] at h;obtain ⟨h1,h2⟩:=h;subst h1;subst h2;unfold vW at hs;split at hs
   ·rename_i x ar tys hop;split at hs
    ·rename_i f caps hx;split at hs
     ·rename_i args ha;obtain ⟨hr,hs⟩:=ay hs;cases hs;exact vp hp.1 (aK hg) hop hx _ ha hp.2 hr (cp hd _)
     ·cases hs
    ·cases hs
   ·cases hs
  ·cases h
 case cf fl v0 =>
  obtain ⟨hg,h⟩:=ay h;split at h
  ·rename_i ps' hs;simp only [Kr,Prod.mk.injEq] at h;obtain ⟨h1,h2⟩:=h;subst h1;subst h2;unfold FD at hs;split at hs
   ·rename_i x ar tys hop;split at hs
    ·rename_i f caps hx;split at hs
     ·rename_i args ha;cases hs;exact vp hp.1 (aK hg) hop hx _ ha hp.2.1 hp.2.2 (cp hd _)
     ·cases hs
    ·cases hs
   ·cases hs
  ·cases h
 case xc v0 =>
  obtain ⟨hg,h⟩:=ay h;split at h
  ·rename_i ps' hs;simp only [Kr,Prod.mk.injEq] at h;obtain ⟨h1,h2⟩:=h;subst h1;subst h2;unfold EY at hs;split at hs
   ·rename_i x ar tys hop;split at hs
    ·rename_i f cs hx;split at hs
     ·rename_i vs us hv hu;cases hs;exact IQ (aK hg) hop hx hv hu hp (cp hd _)
     ·cases hs
    ·cases hs
   ·cases hs
  ·cases h
 case rl n j v0 =>
  obtain ⟨hg,h⟩:=ay h;split at h
  ·rename_i p v' hv;cases h;obtain ⟨h1,h2⟩:=hp;have h3:v'=v:=h2;subst h3;unfold F8 at hv;split at hv
   ·rename_i t x hop;exact DE (aK hg) hop hv h1 (cp hd _)
   ·cases hv
  ·cases h
 case w =>
  obtain ⟨hg,h⟩:=ay h;split at h
  ·rename_i p v' hv;cases h;exact EF (aK hg) hv (xF hv hp) (cp hd _)
  ·cases h
 case we v0 =>
  obtain ⟨hg,h⟩:=ay h;split at h
  ·rename_i p v' hv;cases h;obtain ⟨h1,h2⟩:=bB.append.1 hp;have h3:v'=v:=h2;subst h3;exact EF (aK hg) hv (xF hv h1) (cp hd _)
  ·cases h
 case cw fl pl v0 =>
  obtain ⟨hg,h⟩:=ay h;split at h
  ·rename_i ps' hs;simp only [Kr,Prod.mk.injEq] at h;obtain ⟨h1,h2⟩:=h;subst h1;subst h2;unfold E8 at hs;split at hs
   ·rename_i x ar tys hop;split at hs
    ·rename_i f caps hx;split at hs
     ·rename_i args ha;obtain ⟨hr,hs⟩:=ay hs;cases hs;exact vp hp.1 (aK hg) hop hx _ ha hp.2.wk hr (cp hd _)
     ·cases hs
    ·cases hs
   ·cases hs
  ·cases h
 case b =>
  obtain ⟨hg,h⟩:=ay h;split at h
  ·rename_i v' hs;cases h;unfold CO at hs;split at hs
   ·rename_i t parts hop;exact xM (aK hg) hop hs (cp hd _)
   ·rename_i t len parts hop;exact oM (aK hg) hop hs (cp hd _)
   ·cases hs
  ·cases h
 case bw pl =>
  obtain ⟨hg,h⟩:=ay h;split at h
  ·rename_i v' hs;cases h;unfold CO at hs;split at hs
   ·rename_i t parts hop;exact r9 _ (xM (aK hg) hop hs (cp hd _))
   ·rename_i t len parts hop;exact r9 _ (oM (aK hg) hop hs (cp hd _))
   ·cases hs
  ·cases h
 case ae =>
  obtain ⟨hg,h⟩:=ay h;unfold FA at h;split at h
  ·rename_i ar tys hop;split at h
   ·rename_i x y t t' har hty;split at h;case isFalse=>cases h
    rename_i ht;subst ht;split at h
    ·rename_i e sz by_ ys he hx hy;cases h;have e1:ar = #[x,y]:=by rw [← Array.toList_inj];exact har
     have e2:tys = #[t,t]:=by rw [← Array.toList_inj];exact hty
     subst e1;subst e2;exact zW (aK hg) hop he hx hy hp.1 hp.2.1 hp.2.2 (cp hd _)
    ·cases h
   ·cases h
  ·cases h
 case l v0 =>
  obtain ⟨hg,h⟩:=ay h;split at h
  ·rename_i qs v' hs;cases h;unfold HS at hs;split at hs
   ·rename_i t m x hop;obtain ⟨hq,h3⟩:=bB.append.1 hp;have h3:v'=v:=h3;subst h3;split at hs
    ·rename_i h4;cases hs;exact Gj (aK hg) hop h4 (cp hd _)
    ·split at hs
     ·rename_i h5;cases hs;exact Du (aK hg) hop h5 hq (cp hd _)
     ·cases hs
   ·cases hs
  ·cases h
 all_goals cases h
def yF (P:Program) (s:AS) (dst:Option Tmp) (v:AV) (h1:List (Nat×AO)):Op→Option (List Prop×cF)
 | .call ⟨.value x,ar,_⟩=>match s.op x,dst with
  | .fn f caps,some k=>bif AV.flL (s.args ar caps)&&(Nat.blt k s.n&&Nat.blt k 1000) && !(lk .gone h1 0).isR then some ([Go.Proofs.Enters P f,bT P f (s.args ar caps) [] fun r h=>r=v∧h=h1],⟨[(k,AV.ren [(0,k)] v)],[(k,AO.ren [(0,k)] (lk .gone h1 0))],[k],[]⟩) else none
  | _,_=>none
 | _=>none
theorem wJ {v:AV} {h1:List (Nat×AO)} {ps:List Prop} {e:cF} (hg:gd ops s o=some true) (h:yF P s o.dst v h1 o.op=some (ps,e)) (hp:bB ps):Loc P ops o s e:=by
 unfold yF at h;split at h
 ·rename_i x ar tys hop;split at h
  ·rename_i f caps k hx hd;obtain ⟨hc,h⟩:=ay h;rw [Kj,Kj] at hc;cases h;exact DZ hp.1 hg hop hx hc.1.1 hd hc.1.2 (by simpa using hc.2) hp.2
  ·cases h
 ·cases h
def BB (P:Program) (s:AS) (dst:Option Tmp) (zs:List (List AV)) (es':kA):Op→Option (List Prop×cF)
 | .lookup t m x false=>match s.op m,s.op x,dst,P.underlying t with
  | .amap k,.str y,some q,some (.map K E)=>match lk .gone s.h k,P.underlying K,zeroOf P E with
   | .rmap e sz es,some .string,some (.slice none 0 0)=>bif Nat.blt q s.n&&Nat.blt q 1000 then some ([HA y es=true,tK y es=zs,fP y es=es'],⟨[(q,.rslice q)],[(q,.row e sz zs),(k,.rmap e sz es')],[q],[]⟩) else none
   | _,_,_=>none
  | _,_,_,_=>none
 | _=>none
theorem yj {zs:List (List AV)} {es':kA} {ps:List Prop} {e:cF} (hg:gd ops s o=some true) (h:BB P s o.dst zs es' o.op=some (ps,e)) (hp:bB ps):Loc P ops o s e:=by
 unfold BB at h;split at h
 ·rename_i t m x hop;split at h
  ·rename_i k y q K E hm hx hd hu;split at h
   ·rename_i e' sz es hk hK hz;obtain ⟨hc,h⟩:=ay h;cases h;exact Dv hg hop hd hm hx hk hu hK hz hp.1 hp.2.1 hp.2.2 hc
   ·cases h
  ·cases h
 ·cases h
def yC (P:Program) (s:AS) (dst:Option Tmp) (zs:List (List AV)) (es':kA):Op→Option (List Prop×AS)
 | .lookup t m x false=>match s.op m,s.op x,dst,P.underlying t with
  | .amap k,.str y,some q,some (.map K E)=>match lk .gone s.h k,P.underlying K,zeroOf P E with
   | .rmap e sz es,some .string,some (.slice none 0 0)=>bif Nat.blt q s.n&&Nat.blt q 1000 then some ([HA y es=true,tK y es=zs,fP y es=es'],s.take k q e sz zs es') else none
   | _,_,_=>none
  | _,_,_,_=>none
 | _=>none
theorem pT {zs:List (List AV)} {es':kA} {ps:List Prop} (hg:gd ops s o=some true) (h:yC P s o.dst zs es' o.op=some (ps,s')) (hp:bB ps):jl P ops o s (· = s'):=by
 unfold yC at h;split at h
 ·rename_i t m x hop;split at h
  ·rename_i k y q K E hm hx hd hu;split at h
   ·rename_i e' sz es hk hK hz;obtain ⟨hc,h⟩:=ay h;simp only [Kj,Nat.blt_eq] at hc;cases h;obtain ⟨p1,p2,p3⟩:=hp;have p3:fP y es=es':=p3;subst p2;subst p3;exact Ai hg hop hd hm hx hk hu hK hz p1 hc
   ·cases h
  ·cases h
 ·cases h
def Bl (P:Program) (s:AS) (dst:Option Tmp) (es':kA):Op→Option (List Prop×AS)
 | .mapUpdate t m x v=>match s.op m,s.op x,s.op v,dst,P.underlying t with
  | .amap k,.str y,.rslice q,none,some (.map K E)=>match lk .gone s.h k,lk .gone s.h q,P.underlying K,zeroOf P E with
   | .rmap e sz es,.row e2 sz2 zs,some .string,some _=>if e2=e∧sz2=sz∧s.noR=true then some ([es.length<1000000,jV y zs es=es'],s.stow k q e sz es') else none
   | _,_,_,_=>none
  | _,_,_,_,_=>none
 | _=>none
theorem qZ {es':kA} {ps:List Prop} (hg:gd ops s o=some true) (h:Bl P s o.dst es' o.op=some (ps,s')) (hp:bB ps):jl P ops o s (· = s'):=by
 unfold Bl at h;split at h
 ·rename_i t m x v hop;split at h
  ·rename_i k y q K E hm hx hv hd hu;split at h
   ·rename_i e sz es e2 sz2 zs z hk hq hK hz;split at h;case isFalse=>cases h
    rename_i hc;obtain ⟨rfl,rfl,hn⟩:=hc;cases h;obtain ⟨p1,p2⟩:=hp;have p2:jV y zs es=es':=p2;subst p2;exact Fs hg hop hd hm hx hv hq hk hn hu hK hz p1
   ·cases h
  ·cases h
 ·cases h
def B5 (P:Program) (ops:Array Oper) (s:AS) (es':kA) (o1 o2 o3:Oper):Option (List Prop×AS) :=
 match o1.op,o1.dst,o2.op,o2.dst,o3.op,o3.dst with
 | .mapEntry t (.tmp tm) x,some t1,.extract (.tmp t1') 1,some t2,.entryStore t' (.tmp tm') (.tmp t2') (.tmp tv),none =>
  if (t1'=t1∧t'=t∧tm'=tm∧t2'=t2∧o2.guard=none∧o3.guard=none)∧(t1<s.n∧t2<s.n∧t1≠t2∧tm≠t1∧tm≠t2∧tv≠t1∧tv≠t2)∧gd ops s o1=some true∧s.noR=true then
   (match lk .any s.t tm,s.op x,lk .any s.t tv,P.underlying t with
   | .amap k,.str y,.rslice q,some (.map K E)=>match lk .gone s.h k,lk .gone s.h q,P.underlying K,zeroOf P E with
    | .rmap e sz es,.row e2 sz2 zs,some .string,some _=>if e2=e∧sz2=sz then some ([es.length<1000000,jV y zs es=es'],⟨s.n,ins t2 .any (ins t1 .any (s.stow k q e sz es').t),(s.stow k q e sz es').h⟩) else none
    | _,_,_,_=>none
   | _,_,_,_=>none) else none
 | _,_,_,_,_,_=>none
theorem x8 {es':kA} {o1 o2 o3:Oper} {rest:List Oper} {Q:Exit→AS→Prop} {ps:List Prop} (h:B5 P ops s es' o1 o2 o3=some (ps,s')) (hp:bB ps) (hr:fy P ops rest Q s'):fy P ops (o1::o2::o3::rest) Q s:=by
 unfold B5 at h;split at h
 ·rename_i t tm x t1 t1' t2 t' tm' t2' tv h1 d1 h2 d2 h3 d3;split at h;case isFalse=>cases h
  rename_i hc;obtain ⟨⟨rfl,rfl,rfl,rfl,n2,n3⟩,ht,hg,hn⟩:=hc;split at h
  ·rename_i k y q K E hm hx hv hu;split at h
   ·rename_i e sz es e2 sz2 zs z hk hq hK hz;split at h;case isFalse=>cases h
    rename_i hc;obtain ⟨rfl,rfl⟩:=hc;cases h;obtain ⟨p1,p2⟩:=hp;have p2:jV y zs es=es':=p2;subst p2;exact JP hg h1 d1 h2 d2 n2 h3 d3 n3 ht hm hx hv hq hk hn hu hK hz p1 hr
   ·cases h
  ·cases h
 ·cases h
def Aq (P:Program) (ops:Array Oper) (s:AS) (o:Oper) (d:pH):Option (List Prop×cF) :=
 match d with
 | .m=>bif mn true (gd ops s o) then (match EU P s o.dst o.op with | some e=>some ([],e) | none=>none) else none
 | .apx zs=>bif mn true (gd ops s o) then FY P s o.dst zs o.op else none
 | .mm=>bif mn true (gd ops s o) then Io P s o.dst o.op else none
 | .mi es=>bif mn true (gd ops s o) then Gn P s o.dst es o.op else none
 | .lt=>bif mn true (gd ops s o) then Ih P s o.dst o.op else none
 | .rsx n j ob=>bif mn true (gd ops s o) then IK P s o.dst n j ob o.op else none
 | .mkx N zs=>bif mn true (gd ops s o) then Iv P s o.dst N zs o.op else none
 | .hN v h1=>bif mn true (gd ops s o) then yF P s o.dst v h1 o.op else none
 | .lk zs es=>bif mn true (gd ops s o) then BB P s o.dst zs es o.op else none
 | .qo (.tk zs es)=>bif mn true (gd ops s o) then BC P s o.dst zs es o.op else none
 | d=>match uV P ops s o d with
  | some (p,v)=>some (p,.put o.dst v)
  | none=>none
theorem ph {d:pH} {ps:List Prop} {e:cF} (h:Aq P ops s o d=some (ps,e)) (hp:bB ps):Loc P ops o s e:=by
 unfold Aq at h;split at h
 ·obtain ⟨hg,h⟩:=ay h;split at h
  ·rename_i e' he;cases h;exact A2 (aK hg) he
  ·cases h
 ·obtain ⟨hg,h⟩:=ay h;exact AE (aK hg) h hp.mem
 ·obtain ⟨hg,h⟩:=ay h;exact BT (aK hg) h
 ·obtain ⟨hg,h⟩:=ay h;exact Af (aK hg) h hp.mem
 ·obtain ⟨hg,h⟩:=ay h;exact Bc (aK hg) h
 ·obtain ⟨hg,h⟩:=ay h;exact BD (aK hg) h hp.mem
 ·obtain ⟨hg,h⟩:=ay h;exact BG (aK hg) h hp.mem
 ·obtain ⟨hg,h⟩:=ay h;exact wJ (aK hg) h hp
 ·obtain ⟨hg,h⟩:=ay h;exact yj (aK hg) h hp
 ·obtain ⟨hg,h⟩:=ay h;exact yN (aK hg) h hp.mem
 ·split at h
  ·rename_i p v hv;cases h;exact tB hv hp
  ·cases h
def A9 (P:Program) (ops:Array Oper):List Oper→List pH→AS→Option (List Prop×List cF)
 | [],[],_=>some ([],[])
 | o::os,d::ds,s=>match Aq P ops s o d with
  | some (p,e)=>match A9 P ops os ds (e.app s) with
   | some (ps,es)=>some (p++ps,e::es)
   | none=>none
  | none=>none
 | _,_,_=>none
def apps:List cF→AS→AS
 | [],s=>s
 | e::es,s=>apps es (e.app s)
theorem vE:∀ {os:List Oper} {ds:List pH} {s:AS} {ps:List Prop} {es:List cF},A9 P ops os ds s=some (ps,es)→bB ps→xf P ops os es s (apps es s)
 | [],[],s,ps,es,h,hp=>by simp only [A9] at h;cases h;rfl
 | [],_::_,s,ps,es,h,hp=>by simp only [A9] at h;cases h
 | _::_,[],s,ps,es,h,hp=>by simp only [A9] at h;cases h
 | o::os,d::ds,s,ps,es,h,hp=>by
  simp only [A9] at h;split at h
  ·rename_i p e hv;split at h
   ·rename_i ps' es' hr;cases h;obtain ⟨h1,h2⟩:=bB.append.1 hp;exact ⟨ph hv h1,vE hr h2⟩
   ·cases h
  ·cases h
theorem Loc.op {e:cF} (h:Loc P ops o s e) (hf:e.fr=[]) (hx:e.ex=[]):jl P ops o s (fun s''=>jr (e.app s) s'') :=
 h s ⟨rfl,fun _ _=>rfl,fun _ _ _ _ _=>rfl⟩ (fun k hk=>by rw [hf] at hk;cases hk) (fun p hp=>by rw [hx] at hp;cases hp)
def F0 (P:Program) (s:AS) (dst:Option Tmp):Op→Option AS
 | .box t x=>match dst with | some k=>yz s t (s.op x) k | none=>none
 | .alloc t=>match dst,zeroOf P t with | some k,some z=>yz s t (AV.of z) k | _,_=>none
 | .store t x y=>match dst with | none=>r6 P s t (s.op x) (s.op y) | some _=>none
 | .makeMap t none=>match dst with | some k=>oO P s t k | none=>none
 | .mapUpdate t m x y=>match dst with | none=>rj P s t (s.op m) (s.op x) (s.op y) | some _=>none
 | .range t m=>match dst with | some k=>Be P s t (s.op m) k | none=>none
 | op=>match sa P s op with | some v=>s.put dst v | none=>none
theorem sS (hg:gd ops s o=some true) (h:F0 P s o.dst o.op=some s'):jl P ops o s (· = s'):=by
 unfold F0 at h;split at h
 ·rename_i t x hop;split at h
  ·rename_i k hd;exact Fo hg hop hd h
  ·cases h
 ·rename_i t hop;split at h
  ·rename_i k z hd hz;exact zl hg hop hd hz h
  ·cases h
 ·rename_i t x y hop;split at h
  ·rename_i hd;exact zP hg hop hd h
  ·cases h
 ·rename_i t hop;split at h
  ·rename_i k hd;exact vU hg hop hd h
  ·cases h
 ·rename_i t m x y hop;split at h
  ·rename_i hd;exact G0 hg hop hd h
  ·cases h
 ·rename_i t m hop;split at h
  ·rename_i k hd;exact GD hg hop hd h
  ·cases h
 ·split at h
  ·exact AX hg (by assumption) h
  ·cases h
def FW (P:Program) (s:AS) (dst:Option Tmp) (ps:List (Nat×Nat)) (v:AV) (h1:List (Nat×AO)):Op→Option (List Prop×AS)
 | .call ⟨.value x,ar,_⟩=>match s.op x with
  | .fn f caps=>bif mI ps&&(ps.all fun p=>(lk .gone s.h p.1).liveB&&(Nat.ble 1000 p.2&&Nat.blt p.2 1000000))&&(AV.fl v&&h1.all fun p => !p.2.isR) then (match AS.put ⟨s.n,s.t,back ps h1 ps s.h⟩ dst v with
   | some s'=>some ([Go.Proofs.Enters P f,bT P f ((s.args ar caps).map (AV.ren ps)) (hand ps s.h) fun r h'=>r=v∧h'=h1],s')
   | none=>none) else none
  | _=>none
 | _=>none
theorem tA {ps:List (Nat×Nat)} {v:AV} {h1:List (Nat×AO)} {qs:List Prop} (hg:gd ops s o=some true) (h:FW P s o.dst ps v h1 o.op=some (qs,s')) (hp:bB qs):jl P ops o s (· = s'):=by
 unfold FW at h;split at h
 ·rename_i x ar tys hop;split at h
  ·rename_i f caps hx;obtain ⟨hc,h2⟩:=ay h;rw [Kj] at hc;split at h2
   ·rename_i s2 hs;simp only [Kr,Prod.mk.injEq] at h2;obtain ⟨h3,h4⟩:=h2;subst h3;subst h4;exact GF hp.1 hg hop hx ps hc.1 rfl rfl hp.2 fun r h' hr=>by obtain ⟨rfl,rfl⟩:=hr;have hc2:=hc.2;rw [Kj] at hc2;exact ⟨hc2.1,hc2.2,_,hs,rfl⟩
   ·cases h2
  ·cases h
 ·cases h
def yk (P:Program) (s:AS) (dst:Option Tmp) (ps:List (Nat×Nat)) (d:Nat) (v:AV) (h1:List (Nat×AO)) (f:FuncId) (args0:List AV):Option (List Prop×AS) :=
 bif mI ps&&(ps.all fun p=>Nat.ble 1000 p.2&&(Nat.blt p.2 1000000&&Nat.blt p.1 1000000))&&(rk ps d).isNone&&Nat.blt d 1000&&(s.noR||(ps.isEmpty && !(lk .gone h1 0).isR)) then (match AS.put ⟨s.n,gC d s.t,j5 ps d h1 s.h⟩ dst (AV.ren ((0,d)::swp ps) v) with
  | some s'=>some ([Go.Proofs.Enters P f,bT P f (args0.map (AV.ren ps)) (hand ps s.h) fun r h'=>r=v∧h'=h1],s')
  | none=>none) else none
def ET (P:Program) (s:AS) (dst:Option Tmp) (ps:List (Nat×Nat)) (d:Nat) (v:AV) (h1:List (Nat×AO)):Op→Option (List Prop×AS)
 | .call ⟨.value x,ar,_⟩=>match s.op x with
  | .fn f caps=>yk P s dst ps d v h1 f (s.args ar caps)
  | .bm f k off=>yk P s dst ps d v h1 f (AV.hptr k off::s.args ar [])
  | _=>none
 | _=>none
theorem tz {ps:List (Nat×Nat)} {d:Nat} {v:AV} {h1:List (Nat×AO)} {qs:List Prop} (hg:gd ops s o=some true) (h:ET P s o.dst ps d v h1 o.op=some (qs,s')) (hp:bB qs):jl P ops o s (· = s'):=by
 have key:∀ {f:FuncId} {args0:List AV} {x:Operand} {ar:Array Operand} {tys:Array TypeId},o.op = .call ⟨.value x,ar,tys⟩→(Go.Proofs.Enters P f→∀ (c:Cx P) a w β κ,Rel c s a w β κ→∃ vs:Array Value,(execOp a.eval o).run P w = .ok (.enter f vs) w∧vs.size=args0.length∧∀ i,i<args0.length→G w (c.XX s.h β) β κ (args0.getD i .any) (vs.toList.getD i undef))→yk P s o.dst ps d v h1 f args0=some (qs,s')→jl P ops o s (· = s'):=by
  intro f args0 x ar tys hop hx h;unfold yk at h;obtain ⟨hc0,h2⟩:=ay h;rw [Kj] at hc0;obtain ⟨hc,hor⟩:=hc0;have hor:s.noR=true∨(ps=[]∧∀ v2 h',(v2=v∧h'=h1)→(lk .gone h' 0).isR=false):=by rw [Bool.or_eq_true,Kj] at hor;refine hor.imp id fun h=>⟨by simpa using h.1,fun v2 h' e => ?_⟩;rw [e.2];simpa using h.2
  split at h2
  ·rename_i s2 hs;simp only [Kr,Prod.mk.injEq] at h2;obtain ⟨h3,h4⟩:=h2;subst h3;subst h4;exact ze hp.1 hg hop (hx hp.1) ps d hc hor rfl rfl hp.2 fun r h' hr=>by obtain ⟨rfl,rfl⟩:=hr;exact ⟨_,hs,rfl⟩
  ·cases h2
 unfold ET at h;split at h
 ·rename_i x ar tys hop;split at h
  ·rename_i f caps hx;exact key hop (fun he=>xZ he hop hx) h
  ·rename_i f k off hx;exact key hop (fun he=>CG he hop hx) h
  ·cases h
 ·cases h
def yP (P:Program) (s:AS) (dst:Option Tmp) (ps ds:List (Nat×Nat)) (v:AV) (h1:List (Nat×AO)) (f:FuncId) (args0:List AV):Option (List Prop×AS) :=
 bif (mI ps&&(ps.all fun p=>Nat.ble 1000 p.2&&(Nat.blt p.2 1000000&&Nat.blt p.1 1000000))&&mI ds&&ds.all fun p=>(rk ps p.2).isNone&&(Nat.blt p.1 1000&&Nat.blt p.2 1000))&&(s.noR||(ps.isEmpty&&h1.all fun p => !p.2.isR)) then (match AS.put ⟨s.n,DC ds s.t,kK ps ds h1 s.h⟩ dst (AV.ren (ds++swp ps) v) with
  | some s'=>some ([Go.Proofs.Enters P f,bT P f (args0.map (AV.ren ps)) (hand ps s.h) fun r h'=>r=v∧h'=h1],s')
  | none=>none) else none
def Bk (P:Program) (s:AS) (dst:Option Tmp) (ps ds:List (Nat×Nat)) (v:AV) (h1:List (Nat×AO)):Op→Option (List Prop×AS)
 | .call ⟨.value x,ar,_⟩=>match s.op x with
  | .fn f caps=>yP P s dst ps ds v h1 f (s.args ar caps)
  | .bm f k off=>yP P s dst ps ds v h1 f (AV.hptr k off::s.args ar [])
  | _=>none
 | _=>none
theorem qN {ps ds:List (Nat×Nat)} {v:AV} {h1:List (Nat×AO)} {qs:List Prop} (hg:gd ops s o=some true) (h:Bk P s o.dst ps ds v h1 o.op=some (qs,s')) (hp:bB qs):jl P ops o s (· = s'):=by
 have key:∀ {f:FuncId} {args0:List AV} {x:Operand} {ar:Array Operand} {tys:Array TypeId},o.op = .call ⟨.value x,ar,tys⟩→(Go.Proofs.Enters P f→∀ (c:Cx P) a w β κ,Rel c s a w β κ→∃ vs:Array Value,(execOp a.eval o).run P w = .ok (.enter f vs) w∧vs.size=args0.length∧∀ i,i<args0.length→G w (c.XX s.h β) β κ (args0.getD i .any) (vs.toList.getD i undef))→yP P s o.dst ps ds v h1 f args0=some (qs,s')→jl P ops o s (· = s'):=by
  intro f args0 x ar tys hop hx h;unfold yP at h;obtain ⟨hc0,h2⟩:=ay h;rw [Kj] at hc0;obtain ⟨hc,hor⟩:=hc0;have hor:s.noR=true∨(ps=[]∧∀ v2 h',(v2=v∧h'=h1)→∀ j,(lk .gone h' j).isR=false):=by rw [Bool.or_eq_true,Kj] at hor;refine hor.imp id fun h=>⟨by simpa using h.1,fun v2 h' e j => ?_⟩;rw [e.2];have:=tN (p:=fun o:AO => !o.isR) (d:=AO.gone) rfl h.2 j;simpa using this
  split at h2
  ·rename_i s2 hs;simp only [Kr,Prod.mk.injEq] at h2;obtain ⟨h3,h4⟩:=h2;subst h3;subst h4;exact Ey hp.1 hg hop (hx hp.1) ps ds hc hor rfl rfl hp.2 fun r h' hr=>by obtain ⟨rfl,rfl⟩:=hr;exact ⟨_,hs,rfl⟩
  ·cases h2
 unfold Bk at h;split at h
 ·rename_i x ar tys hop;split at h
  ·rename_i f caps hx;exact key hop (fun he=>xZ he hop hx) h
  ·rename_i f k off hx;exact key hop (fun he=>CG he hop hx) h
  ·cases h
 ·cases h
def rowAt (s:AS):AV→Option (Nat×List (List AV))
 | .rslice k=>match lk .gone s.h k with | .row _ _ xs=>some (k,xs) | _=>none
 | _=>none
def JY:AV→Option (List (List AV))
 | .dslice ys=>some ys
 | .eslice=>some []
 | _=>none
def JD (s:AS) (x:AV):Option TypeId:=match x with | .rslice k=>(match lk .gone s.h k with | .row e _ _=>some e | _=>none) | _=>none
def JO (s:AS) (x:AV):Option Nat:=match x with | .rslice k=>(match lk .gone s.h k with | .row _ e _=>some e | _=>none) | _=>none
def GB (P:Program) (s:AS) (dst:Option Tmp):Op→Option (List Prop×AS)
 | .call ⟨.builtin .append,ar,tys⟩=>match ar.toList,tys.toList,dst with
  | [x,y],[t,t'],some k'=>if t=t' then (match dP P t,rowAt s (s.op x),JY (s.op y) with
   | some (e,sz,by_),some (k,xs),some ys=>if JD s (s.op x)=some e∧JO s (s.op x)=some sz then (match s.grow k k' e sz (xs++ys) with
    | some s'=>some ([EL sz ys,(xs.length+ys.length)*by_≤140737488355328,xs.length+ys.length≤9223372036854775807],s')
    | none=>none) else none
   | _,_,_=>none) else none
  | _,_,_=>none
 | .buildSlice t len ps=>match dst,dP P t,cT P t len (s.parts ps) with
  | some k',some (e,sz,_),some (.dslice xs)=>(match s.grow k' k' e sz xs with | some s'=>some ([],s') | none=>none)
  | _,_,_=>none
 | _=>none
theorem sV {ps:List Prop} (hg:gd ops s o=some true) (h:GB P s o.dst o.op=some (ps,s')) (hp:bB ps):jl P ops o s (· = s'):=by
 unfold GB at h;split at h
 ·rename_i ar tys hop;split at h
  ·rename_i x y t t' k' har hty hd;split at h;case isFalse=>cases h
   rename_i ht;subst ht;have e1:ar = #[x,y]:=by rw [← Array.toList_inj];exact har
   have e2:tys = #[t,t]:=by rw [← Array.toList_inj];exact hty
   subst e1;subst e2;split at h
   ·rename_i e sz by_ k xs ys he hx hy;split at h;case isFalse=>cases h
    rename_i hm;split at h
    ·rename_i s2 hs;cases h;have hx':s.op x = .rslice k∧lk .gone s.h k = .row e sz xs:=by
      unfold rowAt at hx;split at hx
      ·rename_i k2 hk2;split at hx
       ·rename_i e3 sz3 xs3 h3;cases hx;simp only [hk2,JD,JO,h3,Kr] at hm;obtain ⟨e4,e5⟩:=hm;subst e4;subst e5;exact ⟨hk2,h3⟩
       ·cases hx
      ·cases hx
     have hy':s.op y = .dslice ys∨(s.op y = .eslice∧ys=[]):=by
      unfold JY at hy;split at hy
      ·cases hy;exact .inl (by assumption)
      ·cases hy;exact .inr ⟨by assumption,rfl⟩
      ·cases hy
     exact sK hg hop hd he (.inr hx') hy' hp.1 hp.2.1 hp.2.2 hs
    ·cases h
   ·cases h
  ·cases h
 ·rename_i t len ps hop;split at h
  ·rename_i k' e2 sz by_ xs hd he hv;split at h
   ·rename_i s2 hs;cases h;exact te hg hop hd he hv (.inl rfl) hs
   ·cases h
  ·cases h
 ·cases h
def stepG (P:Program) (s:AS) (dst:Option Tmp):Op→Option (List Prop×AS)
 | .call ⟨.builtin .append,ar,tys⟩=>match ar.toList,tys.toList,dst with
  | [x,y],[t,t'],some k'=>if t=t' then (match dP P t,s.op x,s.op y with
   | some (e,sz,by_),.gslice k,.dslice []=>(match s.put dst (.gslice k) with | some s'=>some ([],s') | none=>none)
   | some (e,sz,by_),.gslice k,.dslice (y0::ys)=>(match lk .gone s.h k with
    | .room e' sz'=>if e'=e∧sz'=sz then (match s.grow k k' e sz (y0::ys) with
     | some s'=>some ([EL sz (y0::ys),(y0::ys).length*by_≤140737488355328,(y0::ys).length≤9223372036854775807],s')
     | none=>none) else none
    | _=>none)
   | _,_,_=>none) else none
  | _,_,_=>none
 | _=>none
theorem sU {ps:List Prop} (hg:gd ops s o=some true) (h:stepG P s o.dst o.op=some (ps,s')) (hp:bB ps):jl P ops o s (· = s'):=by
 unfold stepG at h;split at h
 ·rename_i ar tys hop;split at h
  ·rename_i x y t t' k' har hty hd;split at h;case isFalse=>cases h
   rename_i ht;subst ht;have e1:ar = #[x,y]:=by rw [← Array.toList_inj];exact har
   have e2:tys = #[t,t]:=by rw [← Array.toList_inj];exact hty
   subst e1;subst e2;split at h
   ·rename_i e sz by_ k he hx hy;split at h
    ·rename_i s2 hs;cases h;exact zT hg hop he hx hy hs
    ·cases h
   ·rename_i e sz by_ k y0 ys he hx hy;split at h
    ·rename_i e' sz' hk;split at h;case isFalse=>cases h
     rename_i hm;obtain ⟨rfl,rfl⟩:=hm;split at h
     ·rename_i s2 hs;cases h;exact B0 hg hop hd he hx hk hy (by simp) hp.1 hp.2.1 hp.2.2 hs
     ·cases h
    ·cases h
   ·cases h
  ·cases h
 ·cases h
def Gs (s:AS) (dst:Option Tmp) (i:Nat) (v':AV):Op→Option (List Prop×AS)
 | .entry it=>match s.op it with
  | .hptr k 0=>match lk .gone s.h k with
   | .iter es sn=>match s.put dst v' with
    | some s'=>some ([sn.getLast? = some i,AV.tup [(es.getD i default).1.av,(es.getD i default).2]=v'],s')
    | none=>none
   | _=>none
  | _=>none
 | _=>none
theorem tf {i:Nat} {v':AV} {ps:List Prop} (hg:gd ops s o=some true) (h:Gs s o.dst i v' o.op=some (ps,s')) (hp:bB ps):jl P ops o s (· = s'):=by
 unfold Gs at h;split at h
 ·rename_i it hop;split at h
  ·rename_i k hi;split at h
   ·rename_i es sn hk;split at h
    ·rename_i s2 hs;cases h;obtain ⟨h1,h2⟩:=hp;have h2:AV.tup [(es.getD i default).1.av,(es.getD i default).2]=v':=h2;subst h2;exact FI hg hop hi hk h1 hs
    ·cases h
   ·cases h
  ·cases h
 ·cases h
theorem F5 {rest:List Oper} {Q:Exit→AS→Prop} {k:Nat} (h:s.ezR k=some s') (ht:fy P ops rest Q s'):fy P ops rest Q s:=fun c a w β κ r=>ht c a w β κ (r.ezR h)
theorem Ir {rest:List Oper} {Q:Exit→AS→Prop} {k:Nat} {es':List (Key×AV)} {p:Prop} (h:s.frzO k es'=some (p,s')) (hp:p) (ht:fy P ops rest Q s'):fy P ops rest Q s:=fun c a w β κ r=>ht c a w β κ (r.frzO h hp)
def aZ (P:Program) (ops:Array Oper):List Oper→List pH→AS→Option (List Prop×AS×List Oper)
 | os,[],s=>some ([],s,os)
 | os,.fz k::ds,s=>match s.frz k with | some s'=>aZ P ops os ds s' | none=>none
 | os,.ezr k::ds,s=>match s.ezR k with | some s'=>aZ P ops os ds s' | none=>none
 | os,.fm k::ds,s=>match s.frzM k with
  | some (p,s')=>(match aZ P ops os ds s' with | some (ps,r)=>some (p::ps,r) | none=>none)
  | none=>none
 | os,.fo k es::ds,s=>match s.frzO k es with
  | some (p,s')=>(match aZ P ops os ds s' with | some (ps,r)=>some (p::ps,r) | none=>none)
  | none=>none
 | os,.fr k::ds,s=>match s.frzR k with
  | some (p,s')=>(match aZ P ops os ds s' with | some (ps,r)=>some (p::ps,r) | none=>none)
  | none=>none
 | os,.fw k::ds,s=>match s.frzW k with
  | some (p,s')=>(match aZ P ops os ds s' with | some (ps,r)=>some (p::ps,r) | none=>none)
  | none=>none
 | os,.ew t k eo e sz::ds,s=>match s.errow t k eo e sz with | some s'=>aZ P ops os ds s' | none=>none
 | os,.tr k e sz::ds,s=>match s.toR k e sz with | some s'=>aZ P ops os ds s' | none=>none
 | o1::o2::o3::os,.es3 es::ds,s=>(match B5 P ops s es o1 o2 o3 with
  | some (p,s')=>(match aZ P ops os ds s' with | some (ps,r)=>some (p++ps,r) | none=>none)
  | none=>none)
 | os,.er t k e sz::ds,s=>match s.erow t k e sz with | some s'=>aZ P ops os ds s' | none=>none
 | os,.wk t p::ds,s=>aZ P ops os ds (s.wkT t p)
 | os,.rwT t v::ds,s=>match aZ P ops os ds ⟨s.n,ins t v s.t,s.h⟩ with
  | some (ps,r)=>some ((lk .any s.t t=v)::ps,r)
  | none=>none
 | os,.rwH k ob::ds,s=>match aZ P ops os ds ⟨s.n,s.t,ins k ob s.h⟩ with
  | some (ps,r)=>some ((lk .gone s.h k=ob)::ps,r)
  | none=>none
 | o::os,.m::ds,s=>bif mn true (gd ops s o) then (match F0 P s o.dst o.op with | some s'=>aZ P ops os ds s' | none=>none) else none
 | o::os,.rs n j::ds,s=>bif mn true (gd ops s o) then (match Bq P s o.dst n j o.op with
  | some (p,s')=>(match aZ P ops os ds s' with | some (ps,r)=>some (p::ps,r) | none=>none)
  | none=>none) else none
 | o::os,.ap::ds,s=>bif mn true (gd ops s o) then (match GB P s o.dst o.op with
  | some (p,s')=>(match aZ P ops os ds s' with | some (ps,r)=>some (p++ps,r) | none=>none)
  | none=>none) else none
 | o::os,.lk zs es::ds,s=>bif mn true (gd ops s o) then (match yC P s o.dst zs es o.op with
  | some (p,s')=>(match aZ P ops os ds s' with | some (ps,r)=>some (p++ps,r) | none=>none)
  | none=>none) else none
 | o::os,.ms es::ds,s=>bif mn true (gd ops s o) then (match Bl P s o.dst es o.op with
  | some (p,s')=>(match aZ P ops os ds s' with | some (ps,r)=>some (p++ps,r) | none=>none)
  | none=>none) else none
 | o::os,.qo q::ds,s=>bif mn true (gd ops s o) then (match gz P s o.dst q o.op with
  | some (p,s')=>(match aZ P ops os ds s' with | some (ps,r)=>some (p++ps,r) | none=>none)
  | none=>none) else none
 | o::os,.apg::ds,s=>bif mn true (gd ops s o) then (match stepG P s o.dst o.op with
  | some (p,s')=>(match aZ P ops os ds s' with | some (ps,r)=>some (p++ps,r) | none=>none)
  | none=>none) else none
 | o::os,.mk N::ds,s=>bif mn true (gd ops s o) then (match Aw P s o.dst N o.op with
  | some (p,s')=>(match aZ P ops os ds s' with | some (ps,r)=>some (p++ps,r) | none=>none)
  | none=>none) else none
 | o::os,.en i v::ds,s=>bif mn true (gd ops s o) then (match Gs s o.dst i v o.op with
  | some (p,s')=>(match aZ P ops os ds s' with | some (ps,r)=>some (p++ps,r) | none=>none)
  | none=>none) else none
 | o::os,.h qs v h1::ds,s=>bif mn true (gd ops s o) then (match FW P s o.dst qs v h1 o.op with
  | some (p,s')=>(match aZ P ops os ds s' with | some (ps,r)=>some (p++ps,r) | none=>none)
  | none=>none) else none
 | o::os,.hR qs d v h1::ds,s=>bif mn true (gd ops s o) then (match ET P s o.dst qs d v h1 o.op with
  | some (p,s')=>(match aZ P ops os ds s' with | some (ps,r)=>some (p++ps,r) | none=>none)
  | none=>none) else none
 | o::os,.hM qs qd v h1::ds,s=>bif mn true (gd ops s o) then (match Bk P s o.dst qs qd v h1 o.op with
  | some (p,s')=>(match aZ P ops os ds s' with | some (ps,r)=>some (p++ps,r) | none=>none)
  | none=>none) else none
 | o::os,d::ds,s=>match uV P ops s o d with
  | some (p,v)=>(match aZ P ops os ds ((cF.put o.dst v).app s) with | some (ps,r)=>some (p++ps,r) | none=>none)
  | none=>none
 | [],_::_,_=>none
theorem fy.same {rest:List Oper} {Q:Exit→AS→Prop} (h:fy P ops rest Q s) (e:jr s' s):fy P ops rest Q s':=fun c a w β κ r=>h c a w β κ (r.same e)
theorem IV {rest:List Oper} {Q:Exit→AS→Prop} {t k:Nat} {e:TypeId} {sz:Nat} (h:s.erow t k e sz=some s') (ht:fy P ops rest Q s'):fy P ops rest Q s:=fun c a w β κ r=>by obtain ⟨κ',r'⟩:=r.erow h;exact ht c a w β κ' r'
theorem Iw {rest:List Oper} {Q:Exit→AS→Prop} {k:Nat} {p:Prop} (h:s.frzM k=some (p,s')) (hp:p) (ht:fy P ops rest Q s'):fy P ops rest Q s:=fun c a w β κ r=>ht c a w β κ (r.frzM h hp)
theorem AM {t:Nat} {v:AV} (h:lk .any s.t t=v):jr ⟨s.n,ins t v s.t,s.h⟩ s:=⟨rfl,fun i=>by
 show lk .any s.t i=lk .any (ins t v s.t) i;rw [az];split
 ·rename_i e;rw [e];exact h
 ·rfl,fun _=>rfl⟩
theorem FL {k:Nat} {ob:AO} (h:lk .gone s.h k=ob):jr ⟨s.n,s.t,ins k ob s.h⟩ s:=⟨rfl,fun _=>rfl,fun i=>by
 show lk .gone s.h i=lk .gone (ins k ob s.h) i;rw [az];split
 ·rename_i e;rw [e];exact h
 ·rfl⟩
theorem F3 {rest:List Oper} {Q:Exit→AS→Prop} {t:Nat} {v:AV} (h:lk .any s.t t=v) (ht:fy P ops rest Q ⟨s.n,ins t v s.t,s.h⟩):fy P ops rest Q s :=
 fun c a w β κ r=>ht c a w β κ (r.same (jr.symm' (AM h)))
theorem FR {rest:List Oper} {Q:Exit→AS→Prop} {k:Nat} {ob:AO} (h:lk .gone s.h k=ob) (ht:fy P ops rest Q ⟨s.n,s.t,ins k ob s.h⟩):fy P ops rest Q s :=
 fun c a w β κ r=>ht c a w β κ (r.same (jr.symm' (FL h)))
theorem IX {rest:List Oper} {Q:Exit→AS→Prop} (t:Nat) (p:List (Nat×Nat)) (ht:fy P ops rest Q (s.wkT t p)):fy P ops rest Q s:=fun c a w β κ r=>by exact ht c a w β κ (r.wkT t p)
theorem xe {es:kA}:uV P ops s o (.es3 es)=none:=by unfold uV;cases Cg s o.dst<;>rfl
theorem Jw {rest:List Oper} {Q:Exit→AS→Prop} {k:Nat} {p:Prop} (h:s.frzR k=some (p,s')) (hp:p) (ht:fy P ops rest Q s'):fy P ops rest Q s:=fun c a w β κ r=>ht c a w β κ (r.frzR h hp)
theorem Ia {rest:List Oper} {Q:Exit→AS→Prop} {k:Nat} {p:Prop} (h:s.frzW k=some (p,s')) (hp:p) (ht:fy P ops rest Q s'):fy P ops rest Q s:=fun c a w β κ r=>ht c a w β κ (r.frzW h hp)
theorem Ib {rest:List Oper} {Q:Exit→AS→Prop} {t k:Nat} {eo e:TypeId} {sz:Nat} (h:s.errow t k eo e sz=some s') (ht:fy P ops rest Q s'):fy P ops rest Q s:=fun c a w β κ r=>by obtain ⟨κ',r'⟩:=r.errow h;exact ht c a w β κ' r'
theorem au {Q:Exit→AS→Prop}:∀ (ds:List pH) {os:List Oper} {s:AS} {ps:List Prop} {s':AS} {os':List Oper},aZ P ops os ds s=some (ps,s',os')→bB ps→fy P ops os' Q s'→fy P ops os Q s
 | [],os,s,ps,s',os',h,hp,ht=>by
  cases os<;>(simp only [aZ] at h;cases h;exact ht)
 | .fz k::ds,os,s,ps,s',os',h,hp,ht=>by
  have h':(match s.frz k with | some s'=>aZ P ops os ds s' | none=>none)=some (ps,s',os'):=by cases os<;>simpa only [aZ] using h
  split at h'
  ·exact EV k (by assumption) (au ds h' hp ht)
  ·cases h'
 | .rwT t v::ds,os,s,ps,s',os',h,hp,ht=>by
  have h':(match aZ P ops os ds ⟨s.n,ins t v s.t,s.h⟩ with
   | some (ps,r)=>some ((lk .any s.t t=v)::ps,r)
   | none=>none)=some (ps,s',os'):=by cases os<;>simpa only [aZ] using h
  split at h'
  ·rename_i ps' r hr;cases h';obtain ⟨h1,h2⟩:=bB.cons.1 hp;exact F3 h1 (au ds hr h2 ht)
  ·cases h'
 | .rwH k ob::ds,os,s,ps,s',os',h,hp,ht=>by
  have h':(match aZ P ops os ds ⟨s.n,s.t,ins k ob s.h⟩ with
   | some (ps,r)=>some ((lk .gone s.h k=ob)::ps,r)
   | none=>none)=some (ps,s',os'):=by cases os<;>simpa only [aZ] using h
  split at h'
  ·rename_i ps' r hr;cases h';obtain ⟨h1,h2⟩:=bB.cons.1 hp;exact FR h1 (au ds hr h2 ht)
  ·cases h'
 | .wk t p::ds,os,s,ps,s',os',h,hp,ht=>by
  have h':aZ P ops os ds (s.wkT t p)=some (ps,s',os'):=by cases os<;>simpa only [aZ] using h
  exact IX t p (au ds h' hp ht)
 | .er t k e sz::ds,os,s,ps,s',os',h,hp,ht=>by
  have h':(match s.erow t k e sz with | some s'=>aZ P ops os ds s' | none=>none)=some (ps,s',os'):=by cases os<;>simpa only [aZ] using h
  split at h'
  ·exact IV (by assumption) (au ds h' hp ht)
  ·cases h'
 | .m::ds,[],s,ps,s',os',h,hp,ht=>by simp only [aZ] at h;cases h
 | .m::ds,o::os,s,ps,s',os',h,hp,ht=>by
  simp only [aZ] at h;obtain ⟨hg,h⟩:=ay h;split at h
  ·rename_i s2 hs;exact db ((sS (aK hg) hs).mono fun s3 e=>by subst e;exact au ds h hp ht)
  ·cases h
 | .rs n j::ds,[],s,ps,s',os',h,hp,ht=>by simp only [aZ] at h;cases h
 | .rs n j::ds,o::os,s,ps,s',os',h,hp,ht=>by
  simp only [aZ] at h;obtain ⟨hg,h⟩:=ay h;split at h
  ·rename_i p s2 hs;split at h
   ·rename_i ps' r hr;cases h;obtain ⟨h1,h2⟩:=bB.cons.1 hp;exact db ((qT (aK hg) hs h1).mono fun s3 e=>by subst e;exact au ds hr h2 ht)
   ·cases h
  ·cases h
 | .ap::ds,[],s,ps,s',os',h,hp,ht=>by simp only [aZ] at h;cases h
 | .ap::ds,o::os,s,ps,s',os',h,hp,ht=>by
  simp only [aZ] at h;obtain ⟨hg,h⟩:=ay h;split at h
  ·rename_i p s2 hs;split at h
   ·rename_i ps' r hr;cases h;obtain ⟨h1,h2⟩:=bB.append.1 hp;exact db ((sV (aK hg) hs h1).mono fun s3 e=>by subst e;exact au ds hr h2 ht)
   ·cases h
  ·cases h
 | .lk zs es::ds,[],s,ps,s',os',h,hp,ht=>by simp only [aZ] at h;cases h
 | .lk zs es::ds,o::os,s,ps,s',os',h,hp,ht=>by
  simp only [aZ] at h;obtain ⟨hg,h⟩:=ay h;split at h
  ·rename_i p s2 hs;split at h
   ·rename_i ps' r hr;cases h;obtain ⟨h1,h2⟩:=bB.append.1 hp;exact db ((pT (aK hg) hs h1).mono fun s3 e=>by subst e;exact au ds hr h2 ht)
   ·cases h
  ·cases h
 | .ms es::ds,[],s,ps,s',os',h,hp,ht=>by simp only [aZ] at h;cases h
 | .ms es::ds,o::os,s,ps,s',os',h,hp,ht=>by
  simp only [aZ] at h;obtain ⟨hg,h⟩:=ay h;split at h
  ·rename_i p s2 hs;split at h
   ·rename_i ps' r hr;cases h;obtain ⟨h1,h2⟩:=bB.append.1 hp;exact db ((qZ (aK hg) hs h1).mono fun s3 e=>by subst e;exact au ds hr h2 ht)
   ·cases h
  ·cases h
 | .fw k::ds,os,s,ps,s',os',h,hp,ht=>by
  have h':(match s.frzW k with
   | some (p,s')=>(match aZ P ops os ds s' with | some (ps,r)=>some (p::ps,r) | none=>none)
   | none=>none)=some (ps,s',os'):=by cases os<;>simpa only [aZ] using h
  split at h'
  ·rename_i p s2 hs;split at h'
   ·rename_i ps' r hr;cases h';obtain ⟨h1,h2⟩:=bB.cons.1 hp;exact Ia hs h1 (au ds hr h2 ht)
   ·cases h'
  ·cases h'
 | .ew t k eo e sz::ds,os,s,ps,s',os',h,hp,ht=>by
  have h':(match s.errow t k eo e sz with | some s'=>aZ P ops os ds s' | none=>none)=some (ps,s',os'):=by cases os<;>simpa only [aZ] using h
  split at h'
  ·exact Ib (by assumption) (au ds h' hp ht)
  ·cases h'
 | .qo q::ds,[],s,ps,s',os',h,hp,ht=>by simp only [aZ] at h;cases h
 | .qo q::ds,o::os,s,ps,s',os',h,hp,ht=>by
  simp only [aZ] at h;obtain ⟨hg,h⟩:=ay h;split at h
  ·rename_i p s2 hs;split at h
   ·rename_i ps' r hr;cases h;obtain ⟨h1,h2⟩:=bB.append.1 hp;exact db ((tu (aK hg) hs h1.mem).mono fun s3 e=>by subst e;exact au ds hr h2 ht)
   ·cases h
  ·cases h
 | .apg::ds,[],s,ps,s',os',h,hp,ht=>by simp only [aZ] at h;cases h
 | .apg::ds,o::os,s,ps,s',os',h,hp,ht=>by
  simp only [aZ] at h;obtain ⟨hg,h⟩:=ay h;split at h
  ·rename_i p s2 hs;split at h
   ·rename_i ps' r hr;cases h;obtain ⟨h1,h2⟩:=bB.append.1 hp;exact db ((sU (aK hg) hs h1).mono fun s3 e=>by subst e;exact au ds hr h2 ht)
   ·cases h
  ·cases h
 | .fm k::ds,os,s,ps,s',os',h,hp,ht=>by
  have h':(match s.frzM k with
   | some (p,s')=>(match aZ P ops os ds s' with | some (ps,r)=>some (p::ps,r) | none=>none)
   | none=>none)=some (ps,s',os'):=by cases os<;>simpa only [aZ] using h
  split at h'
  ·rename_i p s2 hs;split at h'
   ·rename_i ps' r hr;cases h';obtain ⟨h1,h2⟩:=bB.cons.1 hp;exact Iw hs h1 (au ds hr h2 ht)
   ·cases h'
  ·cases h'
 | .ezr k::ds,os,s,ps,s',os',h,hp,ht=>by
  have h':(match s.ezR k with | some s'=>aZ P ops os ds s' | none=>none)=some (ps,s',os'):=by cases os<;>simpa only [aZ] using h
  split at h'
  ·rename_i s2 hs;exact F5 hs (au ds h' hp ht)
  ·cases h'
 | .fo k es::ds,os,s,ps,s',os',h,hp,ht=>by
  have h':(match s.frzO k es with
   | some (p,s')=>(match aZ P ops os ds s' with | some (ps,r)=>some (p::ps,r) | none=>none)
   | none=>none)=some (ps,s',os'):=by cases os<;>simpa only [aZ] using h
  split at h'
  ·rename_i p s2 hs;split at h'
   ·rename_i ps' r hr;cases h';obtain ⟨h1,h2⟩:=bB.cons.1 hp;exact Ir hs h1 (au ds hr h2 ht)
   ·cases h'
  ·cases h'
 | .mk N::ds,[],s,ps,s',os',h,hp,ht=>by simp only [aZ] at h;cases h
 | .mk N::ds,o::os,s,ps,s',os',h,hp,ht=>by
  simp only [aZ] at h;obtain ⟨hg,h⟩:=ay h;split at h
  ·rename_i p s2 hs;split at h
   ·rename_i ps' r hr;cases h;obtain ⟨h1,h2⟩:=bB.append.1 hp;exact db ((pq (aK hg) hs (bB.mem h1)).mono fun s3 e=>by subst e;exact au ds hr h2 ht)
   ·cases h
  ·cases h
 | .en i v::ds,[],s,ps,s',os',h,hp,ht=>by simp only [aZ] at h;cases h
 | .en i v::ds,o::os,s,ps,s',os',h,hp,ht=>by
  simp only [aZ] at h;obtain ⟨hg,h⟩:=ay h;split at h
  ·rename_i p s2 hs;split at h
   ·rename_i ps' r hr;cases h;obtain ⟨h1,h2⟩:=bB.append.1 hp;exact db ((tf (aK hg) hs h1).mono fun s3 e=>by subst e;exact au ds hr h2 ht)
   ·cases h
  ·cases h
 | .h qs v h1::ds,[],s,ps,s',os',h,hp,ht=>by simp only [aZ] at h;cases h
 | .h qs v h1::ds,o::os,s,ps,s',os',h,hp,ht=>by
  simp only [aZ] at h;obtain ⟨hg,h⟩:=ay h;split at h
  ·rename_i p s2 hs;split at h
   ·rename_i ps' r hr;cases h;obtain ⟨h1,h2⟩:=bB.append.1 hp;exact db ((tA (aK hg) hs h1).mono fun s3 e=>by subst e;exact au ds hr h2 ht)
   ·cases h
  ·cases h
 | .hR qs d v h1::ds,[],s,ps,s',os',h,hp,ht=>by simp only [aZ] at h;cases h
 | .hR qs d v h1::ds,o::os,s,ps,s',os',h,hp,ht=>by
  simp only [aZ] at h;obtain ⟨hg,h⟩:=ay h;split at h
  ·rename_i p s2 hs;split at h
   ·rename_i ps' r hr;cases h;obtain ⟨h1,h2⟩:=bB.append.1 hp;exact db ((tz (aK hg) hs h1).mono fun s3 e=>by subst e;exact au ds hr h2 ht)
   ·cases h
  ·cases h
 | .hM qs qd v h1::ds,[],s,ps,s',os',h,hp,ht=>by simp only [aZ] at h;cases h
 | .hM qs qd v h1::ds,o::os,s,ps,s',os',h,hp,ht=>by
  simp only [aZ] at h;obtain ⟨hg,h⟩:=ay h;split at h
  ·rename_i p s2 hs;split at h
   ·rename_i ps' r hr;cases h;obtain ⟨h1,h2⟩:=bB.append.1 hp;exact db ((qN (aK hg) hs h1).mono fun s3 e=>by subst e;exact au ds hr h2 ht)
   ·cases h
  ·cases h
 | d::ds,[],s,ps,s',os',h,hp,ht=>by
  cases d;case fw k =>
   simp only [aZ] at h;split at h
   ·rename_i p s2 hs;split at h
    ·rename_i ps' r hr;cases h;obtain ⟨h1,h2⟩:=bB.cons.1 hp;exact Ia hs h1 (au ds hr h2 ht)
    ·cases h
   ·cases h
  case ew=>simp only [aZ] at h;split at h<;>first | (cases h;done) | exact Ib (by assumption) (au ds h hp ht)
  case ezr k =>
   simp only [aZ] at h;split at h
   ·rename_i s2 hs;exact F5 hs (au ds h hp ht)
   ·cases h
  case fo k es =>
   simp only [aZ] at h;split at h
   ·rename_i p s2 hs;split at h
    ·rename_i ps' r hr;cases h;obtain ⟨h1,h2⟩:=bB.cons.1 hp;exact Ir hs h1 (au ds hr h2 ht)
    ·cases h
   ·cases h
  case fr k =>
   simp only [aZ] at h;split at h
   ·rename_i p s2 hs;split at h
    ·rename_i ps' r hr;cases h;obtain ⟨h1,h2⟩:=bB.cons.1 hp;exact Jw hs h1 (au ds hr h2 ht)
    ·cases h
   ·cases h
  case tr k e sz =>
   simp only [aZ] at h;split at h
   ·rename_i s2 hs;exact fun c a w β κ r=>au ds h hp ht c a w β κ (r.toR hs)
   ·cases h
  case fm k =>
   simp only [aZ] at h;split at h
   ·rename_i p s2 hs;split at h
    ·rename_i ps' r hr;cases h;obtain ⟨h1,h2⟩:=bB.cons.1 hp;exact Iw hs h1 (au ds hr h2 ht)
    ·cases h
   ·cases h
  case rwT t v =>
   simp only [aZ] at h;split at h
   ·rename_i ps' r hr;cases h;obtain ⟨h1,h2⟩:=bB.cons.1 hp;exact F3 h1 (au ds hr h2 ht)
   ·cases h
  case rwH k ob =>
   simp only [aZ] at h;split at h
   ·rename_i ps' r hr;cases h;obtain ⟨h1,h2⟩:=bB.cons.1 hp;exact FR h1 (au ds hr h2 ht)
   ·cases h
  case wk t p=>simp only [aZ] at h;exact IX t p (au ds h hp ht)
  all_goals simp only [aZ] at h
  all_goals first | (cases h;done) | (split at h<;>first | (cases h;done) | exact EV _ (by assumption) (au ds h hp ht) | exact IV (by assumption) (au ds h hp ht))
 | d::ds,o::os,s,ps,s',os',h,hp,ht=>by
  have key:∀ p v,uV P ops s o d=some (p,v)→(match aZ P ops os ds ((cF.put o.dst v).app s) with | some (ps,r)=>some (p++ps,r) | none=>none)=some (ps,s',os')→fy P ops (o::os) Q s:=by
   intro p v hs hr;split at hr
   ·rename_i ps' r hr';cases hr;obtain ⟨h1,h2⟩:=bB.append.1 hp;refine db (((tB hs h1).op rfl rfl).mono fun s3 e => ?_);exact fun c a w β κ r=>au ds hr' h2 ht c a w β κ (r.same e.symm')
   ·cases hr
  cases d;case fw k =>
   simp only [aZ] at h;split at h
   ·rename_i p s2 hs;split at h
    ·rename_i ps' r hr;cases h;obtain ⟨h1,h2⟩:=bB.cons.1 hp;exact Ia hs h1 (au ds hr h2 ht)
    ·cases h
   ·cases h
  case ew=>simp only [aZ] at h;split at h<;>first | (cases h;done) | exact Ib (by assumption) (au ds h hp ht)
  case qo q =>
   simp only [aZ] at h;obtain ⟨hg,h⟩:=ay h;split at h
   ·rename_i p s2 hs;split at h
    ·rename_i ps' r hr;cases h;obtain ⟨h1,h2⟩:=bB.append.1 hp;exact db ((tu (aK hg) hs h1.mem).mono fun s3 e=>by subst e;exact au ds hr h2 ht)
    ·cases h
   ·cases h
  case ezr k =>
   simp only [aZ] at h;split at h
   ·rename_i s2 hs;exact F5 hs (au ds h hp ht)
   ·cases h
  case fo k es =>
   simp only [aZ] at h;split at h
   ·rename_i p s2 hs;split at h
    ·rename_i ps' r hr;cases h;obtain ⟨h1,h2⟩:=bB.cons.1 hp;exact Ir hs h1 (au ds hr h2 ht)
    ·cases h
   ·cases h
  case fr k =>
   simp only [aZ] at h;split at h
   ·rename_i p s2 hs;split at h
    ·rename_i ps' r hr;cases h;obtain ⟨h1,h2⟩:=bB.cons.1 hp;exact Jw hs h1 (au ds hr h2 ht)
    ·cases h
   ·cases h
  case tr k e sz =>
   simp only [aZ] at h;split at h
   ·rename_i s2 hs;exact fun c a w β κ r=>au ds h hp ht c a w β κ (r.toR hs)
   ·cases h
  case es3 es =>
   rcases os with _ | ⟨o2,_ | ⟨o3,os⟩⟩
   ·simp only [aZ,xe] at h;cases h
   ·simp only [aZ,xe] at h;cases h
   ·simp only [aZ] at h;split at h
    ·rename_i p s2 hs;split at h
     ·rename_i ps' r hr;cases h;obtain ⟨h1,h2⟩:=bB.append.1 hp;exact x8 hs h1 (au ds hr h2 ht)
     ·cases h
    ·cases h
  case fz=>simp only [aZ] at h;split at h<;>first | (cases h;done) | exact EV _ (by assumption) (au ds h hp ht)
  case er=>simp only [aZ] at h;split at h<;>first | (cases h;done) | exact IV (by assumption) (au ds h hp ht)
  case rwT t v =>
   simp only [aZ] at h;split at h
   ·rename_i ps' r hr;cases h;obtain ⟨h1,h2⟩:=bB.cons.1 hp;exact F3 h1 (au ds hr h2 ht)
   ·cases h
  case rwH k ob =>
   simp only [aZ] at h;split at h
   ·rename_i ps' r hr;cases h;obtain ⟨h1,h2⟩:=bB.cons.1 hp;exact FR h1 (au ds hr h2 ht)
   ·cases h
  case wk t p=>simp only [aZ] at h;exact IX t p (au ds h hp ht)
  case m =>
   simp only [aZ] at h;obtain ⟨hg,h⟩:=ay h;split at h
   ·rename_i s2 hs;exact db ((sS (aK hg) hs).mono fun s3 e=>by subst e;exact au ds h hp ht)
   ·cases h
  case rs n j =>
   simp only [aZ] at h;obtain ⟨hg,h⟩:=ay h;split at h
   ·rename_i p s2 hs;split at h
    ·rename_i ps' r hr;cases h;obtain ⟨h1,h2⟩:=bB.cons.1 hp;exact db ((qT (aK hg) hs h1).mono fun s3 e=>by subst e;exact au ds hr h2 ht)
    ·cases h
   ·cases h
  case ap =>
   simp only [aZ] at h;obtain ⟨hg,h⟩:=ay h;split at h
   ·rename_i p s2 hs;split at h
    ·rename_i ps' r hr;cases h;obtain ⟨h1,h2⟩:=bB.append.1 hp;exact db ((sV (aK hg) hs h1).mono fun s3 e=>by subst e;exact au ds hr h2 ht)
    ·cases h
   ·cases h
  case lk zs es =>
   simp only [aZ] at h;obtain ⟨hg,h⟩:=ay h;split at h
   ·rename_i p s2 hs;split at h
    ·rename_i ps' r hr;cases h;obtain ⟨h1,h2⟩:=bB.append.1 hp;exact db ((pT (aK hg) hs h1).mono fun s3 e=>by subst e;exact au ds hr h2 ht)
    ·cases h
   ·cases h
  case ms es =>
   simp only [aZ] at h;obtain ⟨hg,h⟩:=ay h;split at h
   ·rename_i p s2 hs;split at h
    ·rename_i ps' r hr;cases h;obtain ⟨h1,h2⟩:=bB.append.1 hp;exact db ((qZ (aK hg) hs h1).mono fun s3 e=>by subst e;exact au ds hr h2 ht)
    ·cases h
   ·cases h
  case apg =>
   simp only [aZ] at h;obtain ⟨hg,h⟩:=ay h;split at h
   ·rename_i p s2 hs;split at h
    ·rename_i ps' r hr;cases h;obtain ⟨h1,h2⟩:=bB.append.1 hp;exact db ((sU (aK hg) hs h1).mono fun s3 e=>by subst e;exact au ds hr h2 ht)
    ·cases h
   ·cases h
  case fm k =>
   simp only [aZ] at h;split at h
   ·rename_i p s2 hs;split at h
    ·rename_i ps' r hr;cases h;obtain ⟨h1,h2⟩:=bB.cons.1 hp;exact Iw hs h1 (au ds hr h2 ht)
    ·cases h
   ·cases h
  case mk N =>
   simp only [aZ] at h;obtain ⟨hg,h⟩:=ay h;split at h
   ·rename_i p s2 hs;split at h
    ·rename_i ps' r hr;cases h;obtain ⟨h1,h2⟩:=bB.append.1 hp;exact db ((pq (aK hg) hs (bB.mem h1)).mono fun s3 e=>by subst e;exact au ds hr h2 ht)
    ·cases h
   ·cases h
  case en i v =>
   simp only [aZ] at h;obtain ⟨hg,h⟩:=ay h;split at h
   ·rename_i p s2 hs;split at h
    ·rename_i ps' r hr;cases h;obtain ⟨h1,h2⟩:=bB.append.1 hp;exact db ((tf (aK hg) hs h1).mono fun s3 e=>by subst e;exact au ds hr h2 ht)
    ·cases h
   ·cases h
  case h qs v h1 =>
   simp only [aZ] at h;obtain ⟨hg,h⟩:=ay h;split at h
   ·rename_i p s2 hs;split at h
    ·rename_i ps' r hr;cases h;obtain ⟨h1,h2⟩:=bB.append.1 hp;exact db ((tA (aK hg) hs h1).mono fun s3 e=>by subst e;exact au ds hr h2 ht)
    ·cases h
   ·cases h
  case hR qs d v h1 =>
   simp only [aZ] at h;obtain ⟨hg,h⟩:=ay h;split at h
   ·rename_i p s2 hs;split at h
    ·rename_i ps' r hr;cases h;obtain ⟨h1,h2⟩:=bB.append.1 hp;exact db ((tz (aK hg) hs h1).mono fun s3 e=>by subst e;exact au ds hr h2 ht)
    ·cases h
   ·cases h
  case hM qs qd v h1 =>
   simp only [aZ] at h;obtain ⟨hg,h⟩:=ay h;split at h
   ·rename_i p s2 hs;split at h
    ·rename_i ps' r hr;cases h;obtain ⟨h1,h2⟩:=bB.append.1 hp;exact db ((qN (aK hg) hs h1).mono fun s3 e=>by subst e;exact au ds hr h2 ht)
    ·cases h
   ·cases h
  all_goals
   simp only [aZ] at h;split at h
   ·rename_i p v hs;exact key p v hs h
   ·cases h
end
section
variable {P:Program} {Q:Exit→AS→Prop} {s s':AS} {l:List Oper} {id:Nat}
theorem Hy (ds:List pH) {ps:List Prop} (h:aZ P l.toArray l ds s=some (ps,s',[])) (hp:bB ps) (hq:Q .normal s'):eE P (.region id l.toArray false) Q s :=
 uB (au ds h hp (xv hq))
def HX (P:Program) (l:List Oper) (n:Nat) (d1 d2:List pH) (s:AS):Option (List Prop×AS×List Oper) :=
 match A9 P l.toArray (l.take n) d1 s with
 | some (ps,es)=>bif wg l n es s&&zL (k7 l []) es s&&zK (k7 l []) es s then (match aZ P l.toArray (l.drop n) d2 (apps es s) with
  | some (qs,r)=>some (ps++qs,r)
  | none=>none) else none
 | none=>none
theorem D8 (hm:P.follows .mixedOrders=true) (n:Nat) (d1 d2:List pH) {ps:List Prop} (h:HX P l n d1 d2 s=some (ps,s',[])) (hp:bB ps) (hq:Q .normal s'):eE P (.region id l.toArray true) Q s:=by
 unfold HX at h;split at h
 ·rename_i ps1 es he;obtain ⟨hc,h2⟩:=ay h;split at h2
  ·rename_i qs r hr;simp only [Kr,Prod.mk.injEq] at h2;obtain ⟨h3,h4⟩:=h2;subst h3;subst h4;obtain ⟨p1,p2⟩:=bB.append.1 hp;exact Fq hm n es hc (vE he p1) (au d2 hr p2 (xv hq))
  ·cases h2
 ·cases h
def Bz (P:Program) (ops:Array Oper) (cl:List (List Nat)) (c:yX) (i:Nat) (s:AS) (o:Oper) (d:pH):Option (List Prop×cF) :=
 bif Nat.beq i c.i0 then none else bif DJ i (cl.getD c.i0 []) then Aq P ops s o d else (match d,o.dst with
  | .v,some dst=>bif mn true (gd ops s o)&&(Nat.blt dst s.n && !Nat.beq dst c.t1 && !Nat.beq dst c.t2)&&(!Nat.beq i c.i0 && !Nat.beq i c.i1 && !Nat.beq i c.i2) then (match gq P s o.op with
   | some (p,v)=>some (JK o.op p,.put o.dst v)
   | none=>none) else none
  | _,_=>none)
def zr (P:Program) (ops:Array Oper) (cl:List (List Nat)) (c:yX) (i:Nat) (s:AS) (o:Oper):pH→Option (List Prop×cF)
 | .e1 es'=>bif Nat.beq i c.i0&&mn true (gd ops s o)&&c.ok cl&&Nat.blt c.t1 s.n then (match o.op,o.dst with
  | .mapEntry t (.tmp tm) x,some t1=>bif Nat.beq t c.t&&Nat.beq t1 c.t1 then (match lk .any s.t tm,s.op x,P.underlying t with
   | .amap k,.str y,some (.map K E)=>bif Nat.beq k c.k then (match lk .gone s.h k,P.underlying K,zeroOf P E with
    | .rmap e sz es,some .string,some _=>some ([y=c.y,es.length<1000000,oN c.y es=es'],⟨[(c.t1,.any)],[(c.k,.rmap e sz es')],[],[]⟩)
    | _,_,_=>none) else none
   | _,_,_=>none) else none
  | _,_=>none) else none
 | .e2=>bif Nat.beq i c.i1&&mn true (gd ops s o)&&c.ok cl&&Nat.blt c.t2 s.n then (match o.op,o.dst with
  | .extract (.tmp t1) 1,some t2=>bif Nat.beq t1 c.t1&&Nat.beq t2 c.t2 then some ([],⟨[(c.t2,.any)],[],[],[]⟩) else none
  | _,_=>none) else none
 | .e3 es'=>bif Nat.beq i c.i2&&mn true (gd ops s o)&&c.ok cl then (match o.op,o.dst with
  | .entryStore t (.tmp tm) (.tmp t2) (.tmp tv),none=>bif Nat.beq t c.t&&Nat.beq t2 c.t2 then (match lk .any s.t tm,lk .any s.t tv,P.underlying t with
   | .amap k,.rslice q,some (.map K E)=>bif Nat.beq k c.k then (match lk .gone s.h k,lk .gone s.h q,P.underlying K,zeroOf P E with
    | .rmap e sz es,.row e2 sz2 zs,some .string,some _=>bif Nat.beq e2 e&&Nat.beq sz2 sz then some ([es.length<1000000,jV c.y zs es=es'],⟨[(tv,.any)],[(q,.gone),(c.k,.rmap e sz es')],[],[(q,tv)]⟩) else none
    | _,_,_,_=>none) else none
   | _,_,_=>none) else none
  | _,_=>none) else none
 | d=>Bz P ops cl c i s o d
theorem GS {a b:Nat} (h:(!Nat.beq a b)=true):a≠b:=fun e=>by rw [e,Nat.beq_refl] at h;cases h
theorem xS {ops:Array Oper} {cl:List (List Nat)} {c:yX} {i:Nat} {o:Oper} {d:pH} {ps:List Prop} {e:cF} (h:Bz P ops cl c i s o d=some (ps,e)) (hp:bB ps):rQ P ops cl (J3 P c) i o s e:=by
 unfold Bz at h;cases h0:Nat.beq i c.i0 with
 | true=>rw [h0] at h;cases h
 | false =>
  have hne:i≠c.i0:=fun e1=>by rw [e1,Nat.beq_refl] at h0;cases h0
  rw [h0,cond_false] at h;cases h1:DJ i (cl.getD c.i0 []) with
  | true =>
   rw [h1,cond_true] at h;exact Ba (ph h hp) hne (pE h1)
  | false =>
   rw [h1,cond_false] at h;split at h
   ·rename_i dst hd;obtain ⟨hc,h⟩:=ay h;simp only [Kj] at hc;obtain ⟨⟨g1,⟨g2,g3⟩,g4⟩,⟨g5,g6⟩,g7⟩:=hc;split at h
    ·rename_i p v hv;cases h;exact DQ (aK g1) hv (uY hv hp) hd (by simpa [Nat.blt_eq] using g2) (GS g3) (GS g4) hne (GS g6) (GS g7)
    ·cases h
   ·cases h
theorem zZ {ops:Array Oper} {cl:List (List Nat)} {c:yX} {i:Nat} {o:Oper} {d:pH} {ps:List Prop} {e:cF} (h:zr P ops cl c i s o d=some (ps,e)) (hp:bB ps):rQ P ops cl (J3 P c) i o s e:=by
 cases d with
 | e1 es' =>
  simp only [zr] at h;have h9:=ay h;clear h;obtain ⟨hc,h⟩:=h9;simp only [Kj] at hc;obtain ⟨⟨⟨g1,g2⟩,g3⟩,g4⟩:=hc;have g1:=bP.1 g1;subst g1;split at h
  ·rename_i t tm x t1 hop hd;have h9:=ay h;clear h;obtain ⟨hc,h⟩:=h9;rw [Kj] at hc;have e1:=bP.1 hc.1;have e2:=bP.1 hc.2;clear hc;subst e1;subst e2;split at h
   ·rename_i k y K E hm hx hu;have h9:=ay h;clear h;obtain ⟨hc,h⟩:=h9;have e3:=bP.1 hc;clear hc;subst e3;split at h
    ·rename_i e' sz es z hk hK hz;cases h;obtain ⟨p1,p2,p3⟩:=hp;exact GZ (aK g2) hop hd (by simpa [Nat.blt_eq] using g4) hm hx p1 hk hu hK hz p2 p3 g3
    ·cases h
   ·cases h
  ·cases h
 | e2 =>
  simp only [zr] at h;have h9:=ay h;clear h;obtain ⟨hc,h⟩:=h9;simp only [Kj] at hc;obtain ⟨⟨⟨g1,g2⟩,g3⟩,g4⟩:=hc;have g1:=bP.1 g1;subst g1;split at h
  ·rename_i t1 t2 hop hd;have h9:=ay h;clear h;obtain ⟨hc,h⟩:=h9;rw [Kj] at hc;have e1:=bP.1 hc.1;have e2:=bP.1 hc.2;clear hc;subst e1;subst e2;cases h;exact GW (aK g2) hop hd (by simpa [Nat.blt_eq] using g4) g3
  ·cases h
 | e3 es' =>
  simp only [zr] at h;have h9:=ay h;clear h;obtain ⟨hc,h⟩:=h9;simp only [Kj] at hc;obtain ⟨⟨g1,g2⟩,g3⟩:=hc;have g1:=bP.1 g1;subst g1;split at h
  ·rename_i t tm t2 tv hop hd;have h9:=ay h;clear h;obtain ⟨hc,h⟩:=h9;rw [Kj] at hc;have e1:=bP.1 hc.1;have e2:=bP.1 hc.2;clear hc;subst e1;subst e2;split at h
   ·rename_i k q K E hm hv hu;have h9:=ay h;clear h;obtain ⟨hc,h⟩:=h9;have e3:=bP.1 hc;clear hc;subst e3;split at h
    ·rename_i e' sz es e2 sz2 zs z hk hq hK hz;have h9:=ay h;clear h;obtain ⟨hc,h⟩:=h9;rw [Kj] at hc;have e4:=bP.1 hc.1;have e5:=bP.1 hc.2;subst e4;subst e5;cases h;obtain ⟨p1,p2⟩:=hp;exact GY (aK g2) hop hd hm hv hq hk hu hK hz p1 p2 g3
    ·cases h
   ·cases h
  ·cases h
 | _=>exact xS h hp
def vV (P:Program) (ops:Array Oper) (cl:List (List Nat)) (c:yX):Nat→List Oper→List pH→AS→Option (List Prop×List cF)
 | _,[],[],_=>some ([],[])
 | i,o::os,d::ds,s=>match zr P ops cl c i s o d with
  | some (p,e)=>match vV P ops cl c (i+1) os ds (e.app s) with
   | some (ps,es)=>some (p++ps,e::es)
   | none=>none
  | none=>none
 | _,_,_,_=>none
theorem uX {P:Program}:∀ (es:List cF) (bs:List Bool) (s:AS),(∀ b∈bs,b=false)→sL es bs s=s
 | [],bs,s,_=>by cases bs<;>rfl
 | e::es,[],s,_=>rfl
 | e::es,b::bs,s,hb=>by rw [sL,hb b (by simp)];exact uX (P:=P) es bs s fun b hb'=>hb b (by simp [hb'])
theorem tt {ops:Array Oper} {cl:List (List Nat)} {c:yX}:∀ {os:List Oper} {ds:List pH} {s:AS} {ps:List Prop} {es:List cF} {n:Nat},vV P ops cl c n os ds s=some (ps,es)→bB ps →
 os.length=es.length∧apps es s=sL es (List.replicate es.length true) s∧∀ (i:Nat) (o:Oper) (e:cF),os[i]? = some o→es[i]? = some e→rQ P ops cl (J3 P c) (n+i) o (sL es ((List.range es.length).map fun j=>decide (j<i)) s) e
 | [],[],s,ps,es,n,h,hp=>by simp only [vV] at h;cases h;exact ⟨rfl,rfl,fun i o e ho _=>by simp at ho⟩
 | [],_::_,s,ps,es,n,h,hp=>by simp only [vV] at h;cases h
 | _::_,[],s,ps,es,n,h,hp=>by simp only [vV] at h;cases h
 | o::os,d::ds,s,ps,es,n,h,hp=>by
  simp only [vV] at h;split at h
  ·rename_i p e hv;split at h
   ·rename_i ps' es' hr;cases h;obtain ⟨h1,h2⟩:=bB.append.1 hp;obtain ⟨a1,a2,a3⟩:=tt hr h2;refine ⟨by simp [a1],by show apps es' (e.app s)=_;rw [a2];rfl,fun i o' e' ho he => ?_⟩;cases i with
    | zero =>
     simp only [List.getElem?_cons_zero,Kr] at ho he;subst ho;subst he;rw [uX (P:=P) _ _ _ (by simp)];exact zZ hv h1
    | succ i =>
     have h3:=a3 i o' e' (by simpa using ho) (by simpa using he);have:sL (e::es') ((List.range (e::es').length).map fun j=>decide (j<i+1)) s=sL es' ((List.range es'.length).map fun j=>decide (j<i)) (e.app s):=by rw [List.length_cons,List.range_succ_eq_map,List.map_cons,List.map_map];simp only [sL,Nat.zero_lt_succ,decide_true,if_true];congr 1;simp [Function.comp_def]
     rw [this,show n+(i+1)=n+1+i by omega];exact h3
   ·cases h
  ·cases h
def Fk (P:Program) (c:yX) (l:List Oper) (n:Nat) (d1 d2:List pH) (s:AS):Option (List Prop×AS×List Oper) :=
 match vV P l.toArray (k7 l []) c 0 (l.take n) d1 s with
 | some (ps,es)=>bif (wg l n es s&&zL (k7 l []) es s&&zK (k7 l []) es s)&&(s.noR&&es.all ub) then (match aZ P l.toArray (l.drop n) d2 (apps es s) with
  | some (qs,r)=>some (ps++qs,r)
  | none=>none) else none
 | none=>none
theorem BP (hm:P.follows .mixedOrders=true) (c:yX) (n:Nat) (d1 d2:List pH) {ps:List Prop} (h:Fk P c l n d1 d2 s=some (ps,s',[])) (hp:bB ps) (hq:Q .normal s'):eE P (.region id l.toArray true) Q s:=by
 unfold Fk at h;split at h
 ·rename_i ps1 es he;obtain ⟨hc,h2⟩:=ay h;rw [Kj] at hc;split at h2
  ·rename_i qs r hr;simp only [Kr,Prod.mk.injEq] at h2;obtain ⟨h3,h4⟩:=h2;subst h3;subst h4;obtain ⟨p1,p2⟩:=bB.append.1 hp;obtain ⟨k1,k2,k3⟩:=tt he p1;exact xg hm n es (J3 P c) hc.1 hc.2 k1 k2 (fun i o e h1 h2=>by have:=k3 i o e h1 h2;rwa [Nat.zero_add] at this) (fun a w β h=>by cases h) (au d2 hr p2 (xv hq))
  ·cases h2
 ·cases h
def JT:(Nat→Bool)→Act→World→(Nat→Nat)→Prop:=fun _ _ _ _=>True
theorem J6 {ops:Array Oper} {cl:List (List Nat)} {i:Nat} {o:Oper} {e:cF} (h:Loc P ops o s e):rQ P ops cl JT i o s e :=
 fun s' _ ha hf hx _ _ _ _ c' a w β κ r _ K Q hK=>h s' ha hf hx c' a w β κ r K Q fun s'' a' w' β' κ' hs hr=>hK s'' a' w' β' κ' hs hr trivial
def BW (P:Program) (s:AS) (dst:Option Tmp) (es':ug):Op→Option (List Prop×cF)
 | .store t x (.tmp tv)=>match s.op x,lk .any s.t tv,dst,lR P t with
  | .hptr k off,.rslice q,none,some 1=>match lk .gone s.h k,lk .gone s.h q with
   | .rrow eo e sz es,.row e2 sz2 zs=>bif Nat.beq e2 e&&Nat.beq sz2 sz then some ([off<es.length,es.set off (some zs)=es'],⟨[(tv,.any)],[(q,.gone),(k,.rrow eo e sz es')],[],[(q,tv)]⟩) else none
   | _,_=>none
  | _,_,_,_=>none
 | _=>none
theorem yD {ops:Array Oper} {cl:List (List Nat)} {i:Nat} {o:Oper} {es':ug} {ps:List Prop} {ef:cF} (hg:gd ops s o=some true) (h:BW P s o.dst es' o.op=some (ps,ef)) (hp:bB ps):rQ P ops cl JT i o s ef:=by
 unfold BW at h;split at h
 ·rename_i t x tv hop;split at h
  ·rename_i k off q hx hv hd hsz;split at h
   ·rename_i eo e sz es e2 sz2 zs hk hq;have h9:=ay h;clear h;obtain ⟨hc,h⟩:=h9;rw [Kj] at hc;have e4:=bP.1 hc.1;have e5:=bP.1 hc.2;subst e4;subst e5;cases h;obtain ⟨p1,p2⟩:=hp;have p2:es.set off (some zs)=es':=p2;subst p2;intro s' b ha _ hx2 hnr hbi hcl hcl2 c' a w β κ r _ K2 Q hK2;obtain ⟨x1,x2⟩:=hx2 (q,tv) (by simp);have hxo:x∈o.op.operands:=by rw [hop];simp [Op.operands]
    have hvo:Operand.tmp tv∈o.op.operands:=by rw [hop];simp [Op.operands]
    have hx':s'.op x = .hptr k off:=by rw [aS ha hxo];exact hx
    have hv':s'.op (.tmp tv) = .rslice q:=by rw [aS ha hvo];exact hv
    have hk':lk .gone s'.h k = .rrow eo e2 sz2 es:=by rw [ha.h (by rw [hop];rfl) _ hxo k (by rw [hx];simp [AV.men])];exact hk
    have hq':lk .gone s'.h q = .row e2 sz2 zs:=by rw [ha.h (by rw [hop];rfl) _ hvo q (by show AV.men q (lk .any s.t tv)=true;rw [hv];simp [AV.men])];exact hq
    have hX:=r.op x;have hV:=r.op (.tmp tv);rw [hx'] at hX;rw [hv'] at hV;obtain ⟨w',hr,rel⟩:=CT r hX hV hsz hq' hk' hnr p1;rw [fT r (by rw [bC ha];exact hg)];simp only [if_true];unfold Oper.wp;have he:(execOp a.eval o).run P w = .ok .skip w':=by simp only [execOp,hop,Sem.run_bind,hr,Result.andThen];rfl
    rw [he];show K2 (a.put o.dst _) _;rw [hd];refine hK2 (s'.stowR k q eo e2 sz2 (es.set off (some zs))) _ _ _ _ ⟨rfl,fun i => ?_,fun n => ?_⟩ rel trivial
    ·show lk .any (gC q s'.t) i=lk .any (im [(tv,.any)] s'.t) i;rw [cq,cg];simp only [fU];by_cases e1:i=tv
     ·subst e1;have hv2:lk .any s'.t i = .rslice q:=hv';simp [hv2,AV.pg,AV.men]
     ·rw [bG e1,AV.pg_free (x1 i e1)];rfl
    ·show lk .gone (rm q (dc q (ins k (.rrow eo e2 sz2 (es.set off (some zs))) s'.h))) n=lk .gone (im [(q,.gone),(k,.rrow eo e2 sz2 (es.set off (some zs)))] s'.h) n;rw [cg,iT,cu,az];simp only [fU];by_cases e1:n=q
     ·subst e1;simp
     ·rw [if_neg e1,bG e1];simp only [cond_false];by_cases e2:n=k
      ·subst e2;simp [AO.pg]
      ·rw [if_neg e2,bG e2,AO.pg_free (x2 n)];rfl
   ·cases h
  ·cases h
 ·cases h
def Fl (P:Program) (ops:Array Oper) (s:AS) (o:Oper):pH→Option (List Prop×cF)
 | .qo (.st es')=>bif mn true (gd ops s o) then BW P s o.dst es' o.op else none
 | d=>Aq P ops s o d
theorem Ar {ops:Array Oper} {cl:List (List Nat)} {i:Nat} {o:Oper} {d:pH} {ps:List Prop} {e:cF} (h:Fl P ops s o d=some (ps,e)) (hp:bB ps):rQ P ops cl JT i o s e:=by
 unfold Fl at h;split at h
 ·have h9:=ay h;clear h;obtain ⟨hg,h⟩:=h9;exact yD (aK hg) h hp
 ·exact J6 (ph h hp)
def vH (P:Program) (ops:Array Oper):List Oper→List pH→AS→Option (List Prop×List cF)
 | [],[],_=>some ([],[])
 | o::os,d::ds,s=>match Fl P ops s o d with
  | some (p,e)=>match vH P ops os ds (e.app s) with
   | some (ps,es)=>some (p++ps,e::es)
   | none=>none
  | none=>none
 | _,_,_=>none
theorem tj {ops:Array Oper} {cl:List (List Nat)}:∀ {os:List Oper} {ds:List pH} {s:AS} {ps:List Prop} {es:List cF},vH P ops os ds s=some (ps,es)→bB ps →
 os.length=es.length∧apps es s=sL es (List.replicate es.length true) s∧∀ (i:Nat) (o:Oper) (e:cF),os[i]? = some o→es[i]? = some e→∀ n,rQ P ops cl JT n o (sL es ((List.range es.length).map fun j=>decide (j<i)) s) e
 | [],[],s,ps,es,h,hp=>by simp only [vH] at h;cases h;exact ⟨rfl,rfl,fun i o e ho _=>by simp at ho⟩
 | [],_::_,s,ps,es,h,hp=>by simp only [vH] at h;cases h
 | _::_,[],s,ps,es,h,hp=>by simp only [vH] at h;cases h
 | o::os,d::ds,s,ps,es,h,hp=>by
  simp only [vH] at h;split at h
  ·rename_i p e hv;split at h
   ·rename_i ps' es' hr;cases h;obtain ⟨h1,h2⟩:=bB.append.1 hp;obtain ⟨a1,a2,a3⟩:=tj (cl:=cl) hr h2;refine ⟨by simp [a1],by show apps es' (e.app s)=_;rw [a2];rfl,fun i o' e' ho he n => ?_⟩;cases i with
    | zero =>
     simp only [List.getElem?_cons_zero,Kr] at ho he;subst ho;subst he;rw [uX (P:=P) _ _ _ (by simp)];exact Ar hv h1
    | succ i =>
     have h3:=a3 i o' e' (by simpa using ho) (by simpa using he) n;have:sL (e::es') ((List.range (e::es').length).map fun j=>decide (j<i+1)) s=sL es' ((List.range es'.length).map fun j=>decide (j<i)) (e.app s):=by rw [List.length_cons,List.range_succ_eq_map,List.map_cons,List.map_map];simp only [sL,Nat.zero_lt_succ,decide_true,if_true];congr 1;simp [Function.comp_def]
     rw [this];exact h3
   ·cases h
  ·cases h
def E1 (P:Program) (l:List Oper) (n:Nat) (d1 d2:List pH) (s:AS):Option (List Prop×AS×List Oper) :=
 match vH P l.toArray (l.take n) d1 s with
 | some (ps,es)=>bif (wg l n es s&&zL (k7 l []) es s&&zK (k7 l []) es s)&&(s.noR&&es.all ub) then (match aZ P l.toArray (l.drop n) d2 (apps es s) with
  | some (qs,r)=>some (ps++qs,r)
  | none=>none) else none
 | none=>none
theorem Ca (hm:P.follows .mixedOrders=true) (n:Nat) (d1 d2:List pH) {ps:List Prop} (h:E1 P l n d1 d2 s=some (ps,s',[])) (hp:bB ps) (hq:Q .normal s'):eE P (.region id l.toArray true) Q s:=by
 unfold E1 at h;split at h
 ·rename_i ps1 es he;obtain ⟨hc,h2⟩:=ay h;rw [Kj] at hc;split at h2
  ·rename_i qs r hr;simp only [Kr,Prod.mk.injEq] at h2;obtain ⟨h3,h4⟩:=h2;subst h3;subst h4;obtain ⟨p1,p2⟩:=bB.append.1 hp;obtain ⟨k1,k2,k3⟩:=tj (cl:=k7 l []) he p1;exact xg hm n es JT hc.1 hc.2 k1 k2 (fun i o e h1 h2=>k3 i o e h1 h2 i) (fun a w β=>trivial) (au d2 hr p2 (xv hq))
  ·cases h2
 ·cases h
def wc (f:Func):Code:=match f.body with | some c=>c | none=>.skip
def qP (f:Func):Bool:=match f.body with | some _=>true | none=>false
theorem zp {f:Func} (h:qP f=true):f.body=some (wc f):=by
 unfold qP at h;unfold wc;split at h
 ·rename_i c e;rw [e]
 ·cases h
theorem JQ {f:FuncId} {fn:Func} {args:List AV} {h:List (Nat×AO)} {Post:AV→List (Nat×AO)→Prop} (hf:P.funcs[f]? = some fn) (n:Nat) (rs:List ResultVar) (hok:(qP fn&&Nat.beq fn.ntmps n&&Nat.ble args.length n)=true) (hrs:fn.results.toList=rs)
 (ht:eE P (wc fn) (JG P rs Post) ⟨n,mH args 0,h⟩):bT P f args h Post:=by
 simp only [Kj,Nat.beq_eq,Nat.ble_eq] at hok;exact zt hf (zp hok.1.1) n hok.1.2 rs hrs hok.2 ht
end
section
variable {P:Program} {Q:Exit→AS→Prop} {s s':AS} {l:List Oper} {id:Nat}
def AS.only (s:AS) (ts hs:List Nat):AS:=⟨s.n,sel ts s.t,sel hs s.h⟩
theorem all_nil:bB []:=trivial
theorem all_cons {p:Prop} {ps:List Prop} (h:p) (h2:bB ps):bB (p::ps):=bB.cons.2 ⟨h,h2⟩
theorem bF {ps qs:List Prop} (h:bB ps) (h2:bB qs):bB (ps++qs):=bB.append.2 ⟨h,h2⟩
theorem bW.eq {f:FuncId} {args:List AV} {v v':AV} (h:bW P f args v) (e:v=v'):bT P f args [] fun r _=>r=v':=bT.mono h fun _ _ hr=>hr.1.trans e
theorem bW.is {f:FuncId} {args:List AV} {v:AV} (h:bW P f args v):bT P f args [] fun r _=>r=v:=bT.mono h fun _ _ hr=>hr.1
theorem ix {α:Type} {f:α→List AV} {l:List α} {n:Nat} {sz:Nat} (d:α) (hf:∀ x,(f x).length=sz) (h0:0<sz) (h:n<l.length) :
 bB [((0:Int)≤(n:Int)∧(n:Int)<((l.map f).length:Int))∧(((l.map f).getD (n:Int).toNat []).length=sz∧0<sz),AV.dptr ((l.map f).getD (n:Int).toNat []) = .dptr (f (l.getD n d))]:=by
 have e:(l.map f).getD (n:Int).toNat []=f (l.getD n d):=by simp [Kh,Ki h]
 refine ⟨⟨⟨by omega,by simpa using h⟩,?_,h0⟩,?_⟩
 ·rw [e];exact hf _
 ·rw [e];rfl
theorem GI {α:Type} {f:α→List AV} {l:List α} {n:Int} {sz:Nat} (d:α) (hf:∀ x,(f x).length=sz) (h0:0<sz) (h:0≤n∧n<l.length) :
 bB [((0:Int)≤n∧n<((l.map f).length:Int))∧(((l.map f).getD n.toNat []).length=sz∧0<sz),AV.dptr ((l.map f).getD n.toNat []) = .dptr (f (l.getD n.toNat d))]:=by
 have hn:n.toNat<l.length:=by omega
 have e:(l.map f).getD n.toNat []=f (l.getD n.toNat d):=by simp [Kh,Ki hn]
 refine ⟨⟨⟨h.1,by simpa using h.2⟩,?_,h0⟩,?_⟩
 ·rw [e];exact hf _
 ·rw [e];rfl
theorem aJ {α:Type} (f:α→List AV) (l:List α):AV.int .i64 ((l.map f).length:Nat) = .int .i64 (l.length:Nat):=by rw [Kp]
def zv:AV→List Prop
 | .str l=>[l.length≤9223372036854775807]
 | .dslice xs=>[xs.length≤9223372036854775807]
 | _=>[]
def C3:List AV→List Prop
 | []=>[]
 | c::cs=>zv c++C3 cs
def lens:AV→List Prop
 | .agg cs=>C3 cs
 | .tup cs=>C3 cs
 | v=>zv v
theorem rW {w:World} {X:Nat→Prop} {β:Nat→Nat} {κ:Nat→Nat×Nat} {v:AV} {V:Value} (h:G w X β κ v V):bB (zv v):=by
 unfold zv;split
 ·exact h.str_len
 ·obtain ⟨_,_,_,_,h1,h2⟩:=h.dslice_inv;exact Nat.le_trans h1 h2
 ·trivial
theorem sN {w:World} {X:Nat→Prop} {β:Nat→Nat} {κ:Nat→Nat×Nat}:∀ {cs:List AV} {vs:Nat→Value},(∀ i,i<cs.length→G w X β κ (cs.getD i .any) (vs i))→bB (C3 cs)
 | [],_,_=>trivial
 | c::cs,vs,h=>bB.append.2 ⟨rW (h 0 (by simp)),sN (vs:=fun i=>vs (i+1)) fun i hi=>by simpa using h (i+1) (by simpa using hi)⟩
theorem Fj {w:World} {X:Nat→Prop} {β:Nat→Nat} {κ:Nat→Nat×Nat} {v:AV} {V:Value} (h:G w X β κ v V):bB (lens v):=by
 unfold lens;split
 ·obtain ⟨vs,_,_,hg⟩:=h.agg_inv;exact sN hg
 ·obtain ⟨vs,_,_,hg⟩:=h.tup_inv;exact sN hg
 ·exact rW h
theorem b7 {cd:Code} (t:Nat) {ps:List Prop} (h:lens (lk .any s.t t)=ps) (ht:bB ps→eE P cd Q s):eE P cd Q s:=fun c a w β κ r =>
 ht (h ▸ Fj (r.tm t)) c a w β κ r
end
end Go.Ab
