/-
  The closure of Apply: walk.
-/
import Derived.Test.YtolmeekbjonbcaaGreatDoorC4
set_option linter.unusedVariables false
set_option linter.unusedSimpArgs false
set_option linter.unusedSectionVars false
set_option linter.defProp false
set_option linter.unnecessarySimpa false
set_option maxHeartbeats 4000000
set_option maxRecDepth 8000
namespace Go.SX
open Go Go.RowKit
variable [Drw]
section
variable {P:Program} {ops:Array Oper} {Q:Exit→St→Prop} {σ:St} {l:List Oper} {o:Oper} {rest:List Oper} {ds:List (Option Nat)}
theorem WI.yieldZ1 {x:Operand} {y0:Operand} {tys:Array TypeId} {ll:Nat} {v0:Value} {s0y:SV} (b9:Bool) {B:Nat→Prop} {J':World→Prop} (sn':List ((Nat→Prop)×World)) (T:Nat→Prop) (hds:dsOk ds ops.toList=true) (hg:gd ds σ o.guard=some true) (hd:dOk σ o.dst=true)
  (hop:o.op=.call { callee:=.value x,args:=#[y0],argTypes:=tys }) (hx:ev σ x=some (.val (.func (.yield ll) #[] #[]))) (hy0:ev σ y0=some s0y) (hyd0:∀ ρ,den ρ s0y=v0)
  (hY:∀ ρ w,Base ρ σ w→YieldAt (Fr none) 0 P ll [v0].toArray w fun e w'=>e=.returned (.bool b9)∧J' w'∧Keep (fun b=>¬ B b) w w')
  (hsub:∀ p,p∈sn'→p∈σ.snaps∧∀ b,p.1 b→b<p.2.heap.size→¬ B b)
  (ho:∀ ρ (k:Nat) (o:Own) b,σ.own[k]?=some o→o.num ρ k=some b→¬ B b∧T b)
  (k:∀ s,J' s→WI P ops Q rest ((⟨σ.n,σ.env,σ.own,((fun b=>¬ T b),s)::sn',σ.dfs⟩:St).put o.dst (.val (.bool b9)))):WI P ops Q (o::rest) σ:=fun ρ a w hs=>by
 simp only[wpListIn,gd_sound hs hds hg,if_true]
 refine⟨fun _ _=>trivial,?_⟩
 have h1:=hs.ev hx ρ (Agree.refl _ _)
 have h20:=hs.ev hy0 ρ (Agree.refl _ _)
 simp only[den] at h1
 rw[hyd0 ρ] at h20
 rw[semAt_plain (by rw[hop];rfl)]
 obtain⟨fn,tmps,assign,body,hrun,hR⟩:=hY ρ w hs.base
 have hex:(execOp a.eval o).run P w=.ok (.round ll fn tmps assign body) w:=by
  rw[← hrun]
  unfold execOp
  rw[hop]
  simp[resolve,h1,h20,Deferred.ofValue,invoke]
 rw[hex]
 refine⟨fun h=>by simp[Fr,Fence.wide] at h,?_⟩
 obtain⟨hF,hR⟩:=hR
 refine⟨hF,fun c cs hr=>?_⟩
 obtain⟨e,w',⟨he,hJ,hk⟩,hsteps⟩:=hR c cs hr
 refine⟨e,w',?_,hsteps⟩
 subst he
 have hb:Base ρ (⟨σ.n,σ.env,σ.own,sn',σ.dfs⟩:St) w':=by
  refine Base.apartB (σ:=⟨σ.n,σ.env,σ.own,sn',σ.dfs⟩) (B:=B) ⟨hs.base.own,hs.base.apart,fun p hp=>hs.base.keep p (hsub p hp).1⟩ hk (fun k o b h1 h2=>(ho ρ k o b h1 h2).1) fun p hp=>(hsub p hp).2
 have hs':Sat ρ (⟨σ.n,σ.env,σ.own,((fun b=>¬ T b),w')::sn',σ.dfs⟩:St) a w':=⟨hs.size,hs.defers,hs.env,hb.own,hb.apart,fun p hp=>by
  rcases List.mem_cons.1 hp with rfl | hp
  · exact⟨Keep.refl _ _,fun k o b h1 h2 h3=>absurd (ho ρ k o b h1 h2).2 h3⟩
  · exact hb.keep p hp⟩
 exact k w' hJ ρ _ w' (hs'.put _ _ _ (dOk_lt (σ:=⟨σ.n,σ.env,σ.own,((fun b=>¬ T b),w')::sn',σ.dfs⟩) hd) fun _ _=>rfl)
theorem WI.yieldZ2 {x:Operand} {y0 y1:Operand} {tys:Array TypeId} {ll:Nat} {v0 v1:Value} {s0y s1y:SV} (b9:Bool) {B:Nat→Prop} {J':World→Prop} (sn':List ((Nat→Prop)×World)) (T:Nat→Prop) (hds:dsOk ds ops.toList=true) (hg:gd ds σ o.guard=some true) (hd:dOk σ o.dst=true)
  (hop:o.op=.call { callee:=.value x,args:=#[y0,y1],argTypes:=tys }) (hx:ev σ x=some (.val (.func (.yield ll) #[] #[]))) (hy0:ev σ y0=some s0y) (hyd0:∀ ρ,den ρ s0y=v0) (hy1:ev σ y1=some s1y) (hyd1:∀ ρ,den ρ s1y=v1)
  (hY:∀ ρ w,Base ρ σ w→YieldAt (Fr none) 0 P ll [v0,v1].toArray w fun e w'=>e=.returned (.bool b9)∧J' w'∧Keep (fun b=>¬ B b) w w')
  (hsub:∀ p,p∈sn'→p∈σ.snaps∧∀ b,p.1 b→b<p.2.heap.size→¬ B b)
  (ho:∀ ρ (k:Nat) (o:Own) b,σ.own[k]?=some o→o.num ρ k=some b→¬ B b∧T b)
  (k:∀ s,J' s→WI P ops Q rest ((⟨σ.n,σ.env,σ.own,((fun b=>¬ T b),s)::sn',σ.dfs⟩:St).put o.dst (.val (.bool b9)))):WI P ops Q (o::rest) σ:=fun ρ a w hs=>by
 simp only[wpListIn,gd_sound hs hds hg,if_true]
 refine⟨fun _ _=>trivial,?_⟩
 have h1:=hs.ev hx ρ (Agree.refl _ _)
 have h20:=hs.ev hy0 ρ (Agree.refl _ _)
 have h21:=hs.ev hy1 ρ (Agree.refl _ _)
 simp only[den] at h1
 rw[hyd0 ρ] at h20
 rw[hyd1 ρ] at h21
 rw[semAt_plain (by rw[hop];rfl)]
 obtain⟨fn,tmps,assign,body,hrun,hR⟩:=hY ρ w hs.base
 have hex:(execOp a.eval o).run P w=.ok (.round ll fn tmps assign body) w:=by
  rw[← hrun]
  unfold execOp
  rw[hop]
  simp[resolve,h1,h20,h21,Deferred.ofValue,invoke]
 rw[hex]
 refine⟨fun h=>by simp[Fr,Fence.wide] at h,?_⟩
 obtain⟨hF,hR⟩:=hR
 refine⟨hF,fun c cs hr=>?_⟩
 obtain⟨e,w',⟨he,hJ,hk⟩,hsteps⟩:=hR c cs hr
 refine⟨e,w',?_,hsteps⟩
 subst he
 have hb:Base ρ (⟨σ.n,σ.env,σ.own,sn',σ.dfs⟩:St) w':=by
  refine Base.apartB (σ:=⟨σ.n,σ.env,σ.own,sn',σ.dfs⟩) (B:=B) ⟨hs.base.own,hs.base.apart,fun p hp=>hs.base.keep p (hsub p hp).1⟩ hk (fun k o b h1 h2=>(ho ρ k o b h1 h2).1) fun p hp=>(hsub p hp).2
 have hs':Sat ρ (⟨σ.n,σ.env,σ.own,((fun b=>¬ T b),w')::sn',σ.dfs⟩:St) a w':=⟨hs.size,hs.defers,hs.env,hb.own,hb.apart,fun p hp=>by
  rcases List.mem_cons.1 hp with rfl | hp
  · exact⟨Keep.refl _ _,fun k o b h1 h2 h3=>absurd (ho ρ k o b h1 h2).2 h3⟩
  · exact hb.keep p hp⟩
 exact k w' hJ ρ _ w' (hs'.put _ _ _ (dOk_lt (σ:=⟨σ.n,σ.env,σ.own,((fun b=>¬ T b),w')::sn',σ.dfs⟩) hd) fun _ _=>rfl)
theorem W.regionFR {rO:Option Nat} {id:Nat} (F R:List Nat) (T:List Own) (hm:P.follows .mixedOrders=true) (hB:floatOK ops F R=true) (hf:T.all freeO=true) (hT:keptL T σ.own) (hlen:T.length=σ.own.length) (hQ:∀ c σ,¬ Q (.panic c) σ)
  (h:WF P (fun σ1=>WC P ops Q T σ.snaps (pickL ops R) ⟨σ.n,σ1.env,σ.own,σ.snaps,σ.dfs⟩) (pickL ops F) ⟨σ.n,σ.env,T,σ.snaps,σ.dfs⟩) (hp:rO=none∨(ops.toList.all (fun o=>opPlain o.op)=true∧∀ σ,¬ Q .outgrown σ):=by first | exact .inl rfl | exact .inr ⟨rfl,fun _ h=>h⟩):WR rO P (.region id ops true) Q σ:=fun ρ a w hs=>by
 simp only[floatOK,Bool.and_eq_true,decide_eq_true_eq,List.all_eq_true] at hB
 obtain⟨⟨⟨⟨⟨hsel,hsz⟩,hFl⟩,hRl⟩,hFB⟩,hRB⟩:=hB
 suffices key:wpAny P .any ops (lift Q) ops.size (Array.replicate ops.size false) a { w with drawn:=w.drawn+1 } by
  rcases hp with rfl | ⟨h1,h2⟩
  · exact of_wp (wp_region_any hm key)
  ·
   refine wpIn_region_draw fun t=>?_
   simp only[Region.schedule,hm,Bool.true_or,if_true]
   exact wpOps_in (letsOut_lift h2) h1 _ _ _ (wpAny_sound ops.size t _ a _ key)
 have hs':Sat ρ σ a { w with drawn:=w.drawn+1 }:=hs.below (below_drew w)
 have hC:CF T σ.snaps { w with drawn:=w.drawn+1 }:=CF.of hs'.base hT hf fun _ h=>h
 rw[← hsz]
 refine wpAny_of_C _ _ _ _ (WF.sound hf hsel (fun c a w ⟨_,σ',_,h⟩=>hQ c σ' h) ρ _ hC F _ R.length ⟨σ.n,σ.env,T,σ.snaps,σ.dfs⟩ a (by rw[hsz];exact hFB) hFl rfl rfl ⟨hs'.size,hs'.defers,fun i s hi=>⟨(hs'.env i s hi).1,fun ρ' hρ=>(hs'.env i s hi).2 ρ' (by rw[← hlen];exact hρ)⟩⟩ h ?_)
 intro σ1 a1 e1 e2 e3 e4 hk
 refine WC.sound hf R _ _ ρ ⟨σ.n,σ1.env,σ.own,σ.snaps,σ.dfs⟩ a1 _ rfl (by rw[hsz];exact hRB) hRl hk ⟨?_,?_,fun i s hi=>?_,hs'.base.same rfl rfl⟩
 · have:=e1.size;simp only[Prod.mk.injEq] at e4;rw[this];exact e4.1
 · have:=e1.defers;simp only[Prod.mk.injEq] at e4;rw[this,e4.2]
 ·
  obtain⟨g1,g2⟩:=e1.env i s hi
  simp only[Prod.mk.injEq] at e4
  exact⟨by rw[← e4.1];exact g1,fun ρ' hρ=>g2 ρ' (by rw[e2,hlen];exact hρ)⟩
def onR (X:St→Prop):Exit→St→Prop
 | .ret,σ=>X σ
 | _,_=>False
theorem onR_and {X:St→Prop} {e:Exit} {τ:St} (h:onR X e τ):e=.ret∧X τ:=by
 cases e with
 | ret=>exact⟨rfl,h⟩
 | _=>exact h.elim
def IterZ {Y:Type} (P:Program) (f:FuncId) (caps:Array Value) (m:Nat) (stop:Bool) (val:Y→List Value) (V:Nat→Y→Nat→World→Prop) (T B:Nat→Prop) (w0:World):Prop:=
 ∀
  (ll:Nat) (J:Nat→Nat→World→Prop) (Jx:World→Prop),(∀ k L w w',J k L w→Keep (fun b=>¬ T b) w w'→J k L w')→(∀ w w',Jx w→Keep (fun b=>¬ T b) w w'→Jx w') →
  (∀ k L y w,k<m→V k y L w→J k L w→YieldAt (Fr none) 0 P ll (val y).toArray w fun e w'=>e=.returned (.bool true)∧J (k+1) w'.heap.size w'∧Keep (fun b=>¬ B b) w w') →
  (stop=true→∀ L y w,V m y L w→J m L w→YieldAt (Fr none) 0 P ll (val y).toArray w fun e w'=>e=.returned (.bool false)∧Jx w'∧Keep (fun b=>¬ B b) w w') →
  J 0 w0.heap.size w0→CallsIn (Fr none) 0 P f (#[.func (.yield ll) #[] #[]]++caps) w0 fun e w'=>(∃ v,e=.returned v)∧(stop=false→∃ L,J m L w')∧(stop=true→Jx w')
def zipE:List Nat→List Value→List (Nat×SV)
 | t::ts,v::vs=>(t,.val v)::zipE ts vs
 | _,_=>[]
def putT:Array Value→List Nat→List Value→Array Value
 | a,t::ts,v::vs=>putT (a.setIfInBounds t v) ts vs
 | a,_,_=>a
theorem putT_size:∀ (ts:List Nat) (vs:List Value) (a:Array Value),(putT a ts vs).size=a.size
 | [],_,_=>by simp[putT]
 | _::_,[],_=>by simp[putT]
 | t::ts,v::vs,a=>by rw[putT,putT_size ts vs];simp
theorem putT_foldl:∀ (ts:List Nat) (vs:List Value) (a:Array Value),(ts.zip vs).foldl (fun tmps (x:Nat×Value)=>tmps.setIfInBounds x.1 x.2) a=putT a ts vs
 | [],_,_=>by simp[putT]
 | _::_,[],_=>by simp[putT]
 | t::ts,v::vs,a=>by rw[List.zip_cons_cons,List.foldl_cons,putT,putT_foldl ts vs]
theorem putT_ne:∀ (ts:List Nat) (vs:List Value) (a:Array Value) (i:Nat),i∉ts→(putT a ts vs)[i]?=a[i]?
 | [],_,_,_,_=>by simp[putT]
 | _::_,[],_,_,_=>by simp[putT]
 |
  t::ts,v::vs,a,i,h=>by
  rw[putT,putT_ne ts vs _ i (fun hm=>h (by simp[hm])),Array.getElem?_setIfInBounds_ne (fun he=>h (by simp[he]))]
theorem zipE_get:∀ {ts:List Nat} {vs:List Value} {a:Array Value} {E:List (Nat×SV)} {i:Nat} {s:SV},ts.Nodup→(∀ t,t∈ts→t<a.size)→ts.length=vs.length→getE (zipE ts vs++E) i=some s →
  (∃ v,s=.val v∧i∈ts∧(putT a ts vs)[i]?=some v)∨(i∉ts∧getE E i=some s)
 | [],[],a,E,i,s,_,_,_,h=>.inr ⟨by simp,h⟩
 | [],_::_,_,_,_,_,_,_,h,_=>by simp at h
 | _::_,[],_,_,_,_,_,_,h,_=>by simp at h
 |
  t::ts,v::vs,a,E,i,s,hn,hlt,hl,h=>by
  rw[List.nodup_cons] at hn
  simp only[zipE,List.cons_append,getE] at h
  split at h
  ·
   rename_i he
   subst he
   exact .inl ⟨v,(Option.some.inj h).symm,by simp,by rw[putT,putT_ne ts vs _ _ hn.1,Array.getElem?_setIfInBounds_self_of_lt (hlt _ (by simp))]⟩
  ·
   rename_i he
   rcases zipE_get (a:=a.setIfInBounds t v) hn.2 (fun u hu=>by simpa using hlt u (by simp[hu])) (by simpa using hl) h with⟨v',h1,h2,h3⟩ | ⟨h1,h2⟩
   · exact .inl ⟨v',h1,by simp[h2],by rw[putT];exact h3⟩
   · exact .inr ⟨by simp[h1,Ne.symm he],h2⟩
theorem W.rangeZ {g:Operand} {ts:List Nat} {assign body:Code} {f:FuncId} {caps:Array Value} {X Y:Type} (m:Nat) (stop:Bool) (val:Y→List Value) (V:Nat→Y→Nat→World→Prop) (kp:List Nat) (ow:X→List Own) (sn:X→List ((Nat→Prop)×World)) (I:Nat→X→Prop) (IX:X→Prop) (x0:X) (it:List Own) (T:Nat→Prop) (ea:Nat→X→Y→List (Nat×SV)) (xa:Nat→X→Y→List Own) {w0 s0:World} (ds:List Nat)
  (hg:ev σ g=some (.val (.func (.func f) #[] caps))) (hfn:callOk P f=true) (hkb:∀ p,p∈keepE σ.env kp→bnd 0 p.2=true) (h0:σ.own=ow x0++it) (hfr:∀ x o,o∈ow x++it→freeO o=true) (ht:∀ t,t∈ts→t<σ.n) (htn:ts.Nodup) (hval:∀ y,ts.length=(val y).length)
  (hT:∀ b,T b→∃ (j:Nat) (o:Own),it[j]?=some o∧o.num (fun _=>0) 0=some b)
  (hI0:I 0 x0) (hsn0:sn x0=[])
  (hit:∀ ρ w,Base ρ σ w→∀ w1,Keep (fun _=>True) w w1→(∀ b,(∃ (j:Nat) (o:Own),σ.own[j]?=some o∧o.num (fun _=>0) 0=some b)→b<w.heap.size)→(∀ (i j:Nat) (oi oj:Own) b,σ.own[i]?=some oi→σ.own[j]?=some oj→oi.num (fun _=>0) 0=some b→oj.num (fun _=>0) 0=some b→i=j) →
   IterZ P f caps m stop val V T (fun b=>ofOwn (ow x0) b∨w.heap.size≤b) w1)
  (hA:∀ ll k x y L S s,V k y L s→(∀ b,L≤b→S b)→WR (some ll) P assign (onN fun τ=>Le τ ⟨σ.n,ea k x y,ow x++xa k x y,(S,s)::(sn x++σ.snaps),[]⟩) ⟨σ.n,zipE ts (val y)++keepE σ.env kp,ow x,(S,s)::(sn x++σ.snaps),[]⟩)
  (hB:∀ ll k x y L0 L S s S2 s2,k<m→I k x→V k y L s→(∀ b,L≤b→S b)→L0≤L→(∀ p,p∈sn x→∀ b,p.1 b→L0≤b)→L0≤s.heap.size→(∀ b,L0≤b→¬ ofOwn (ow x) b→S b)→(∀ p,p∈σ.snaps→p.2.heap.size≤L0)→WR (some ll) P body (onN fun τ=>∃ x',I (k+1) x'∧(∀ p,p∈sn x'→∀ b,p.1 b→L0≤b)∧Le τ ⟨σ.n,[],ow x',(S,s)::(S2,s2)::(sn x'++σ.snaps),[]⟩) ⟨σ.n,ea k x y,ow x++xa k x y,(S,s)::(S2,s2)::(sn x++σ.snaps),[]⟩)
  (hX:stop=true→∀ ll x y L0 L S s S2 s2,I m x→V m y L s→(∀ b,L≤b→S b)→L0≤L→(∀ p,p∈sn x→∀ b,p.1 b→L0≤b)→L0≤s.heap.size→(∀ b,L0≤b→¬ ofOwn (ow x) b→S b)→(∀ p,p∈σ.snaps→p.2.heap.size≤L0)→WR (some ll) P body (onR fun τ=>∃ x',IX x'∧(∀ p,p∈sn x'→∀ b,p.1 b→L0≤b)∧Le τ ⟨σ.n,[],ow x',(S,s)::(S2,s2)::(sn x'++σ.snaps),[]⟩) ⟨σ.n,ea m x y,ow x++xa m x y,(S,s)::(S2,s2)::(sn x++σ.snaps),[]⟩)
  (hw0:((fun _=>True),w0)∈σ.snaps) (hs0:((fun b=>b∈ds),s0)∈σ.snaps) (hM:Marks ds s0 w0)
  (k:stop=false→∀ D s' x,I m x→Marks (D::ds) s' w0→Q .normal ⟨σ.n,keepE σ.env kp,ow x,((fun b=>b∈D::ds),s')::(sn x++σ.snaps),.mk D::σ.dfs⟩)
  (kx:stop=true→∀ D s' x,IX x→Marks (D::ds) s' w0→W P .ret Q ⟨σ.n,keepE σ.env kp,ow x,((fun b=>b∈D::ds),s')::(sn x++σ.snaps),.mk D::σ.dfs⟩):W P (.rangeFunc g ts.toArray assign body) Q σ:=fun ρ a w hs=>by
 refine wpIn_rangeFunc fun fn _=>?_
 have hgv:=hs.ev hg ρ (Agree.refl _ _)
 simp only[den] at hgv
 obtain⟨rec,hrec⟩:∃ rec:Loop,rec={ state:=.ready,pending:=none,fn,tmps:=a.tmps,params:=ts.toArray,assign,body,defers:=w.heap.size }:=⟨_,rfl⟩
 obtain⟨w1,hw1⟩:∃ w1,w1=(w.alloc (.deferred (some []))).alloc (.loop rec):=⟨_,rfl⟩
 obtain⟨ll,hll⟩:∃ ll,ll=w.heap.size+1:=⟨_,rfl⟩
 have hsz1:w1.heap.size=w.heap.size+2:=by rw[hw1];simp
 have hD1:w1.heap[w.heap.size]?=some (.deferred (some [])):=by
  rw[hw1];show((w.heap.push (.deferred (some []))).push (.loop rec))[w.heap.size]?=_;simp[Array.getElem?_push]
 have hl1:w1.heap[ll]?=some (.loop rec):=by
  have h9:=World.alloc_heap_new (w.alloc (.deferred (some []))) (.loop rec)
  rw[World.size_alloc] at h9
  rw[hw1,hll];exact h9
 have hk1:Keep (fun _=>True) w w1:=⟨by rw[hw1];rfl,by rw[hw1];rfl,by rw[hw1];rfl,by omega,fun b _ hlt=>by
  rw[hw1];show((w.heap.push (.deferred (some []))).push (.loop rec))[b]?=_;simp[Array.getElem?_push,Nat.ne_of_lt hlt,Nat.ne_of_lt (Nat.lt_succ_of_lt hlt)],by rw[hw1];exact DLe.refl _⟩
 have hfr0:∀ o,o∈σ.own→freeO o=true:=fun o ho=>hfr x0 o (by rw[← h0];exact ho)
 have hnlt:∀ (j:Nat) (o:Own) b,σ.own[j]?=some o→o.num (fun _=>0) 0=some b→b<w.heap.size:=fun j o b hj hn=>by
  refine Own.lt (hs.base.own j o hj ρ (Agree.refl _ _)) ?_
  rw[freeO_num (hfr0 o (List.mem_of_getElem? hj)) ρ (fun _=>0) j 0];exact hn
 have hap:∀ (i j:Nat) (oi oj:Own) b,σ.own[i]?=some oi→σ.own[j]?=some oj→oi.num (fun _=>0) 0=some b→oj.num (fun _=>0) 0=some b→i=j:=fun i j oi oj b hi hj h1 h2=>
  hs.base.apart i j oi oj b hi hj (by rw[freeO_num (hfr0 oi (List.mem_of_getElem? hi)) ρ (fun _=>0) i 0];exact h1) (by rw[freeO_num (hfr0 oj (List.mem_of_getElem? hj)) ρ (fun _=>0) j 0];exact h2)
 have hsnlt:∀ p,p∈σ.snaps→p.2.heap.size≤w.heap.size:=fun p hp=>(hs.base.keep p hp).1.size
 have hsnown:∀ p,p∈σ.snaps→∀ (j:Nat) (o:Own) b,σ.own[j]?=some o→o.num (fun _=>0) 0=some b→p.1 b→p.2.heap.size≤b:=fun p hp j o b hj hn hS=>
  (hs.base.keep p hp).2 j o b hj (by rw[freeO_num (hfr0 o (List.mem_of_getElem? hj)) ρ (fun _=>0) j 0];exact hn) hS
 have hnum0:∀ b,ofOwn (ow x0) b→b<w.heap.size:=fun b ⟨j,o,h1,h2⟩=>hnlt j o b (by rw[h0,List.getElem?_append_left (List.getElem?_eq_some_iff.1 h1).1];exact h1) h2
 have hTit:∀ b,T b→∃ (j:Nat) (o:Own),(ow x0).length≤j∧σ.own[j]?=some o∧o.num (fun _=>0) 0=some b:=fun b hb=>by
  obtain⟨j,o,h1,h2⟩:=hT b hb
  exact⟨(ow x0).length+j,o,by omega,by rw[h0,List.getElem?_append_right (by omega)];simpa using h1,h2⟩
 have hTlt:∀ b,T b→b<w.heap.size:=fun b hb=>by obtain⟨j,o,_,h1,h2⟩:=hTit b hb;exact hnlt j o b h1 h2
 have hTow:∀ b,ofOwn (ow x0) b∨ll+1≤b→¬ T b:=fun b hb hTb=>by
  rcases hb with⟨j,o,h1,h2⟩ | h
  ·
   obtain⟨j2,o2,h4,h5,h6⟩:=hTit b hTb
   have hjl:=(List.getElem?_eq_some_iff.1 h1).1
   have:=hap j j2 o o2 b (by rw[h0,List.getElem?_append_left hjl];exact h1) h5 h2 h6
   omega
  · have:=hTlt b hTb;omega
 obtain⟨G,hG⟩:∃ G:X→World→Prop,G=fun x W=>(∀ p,p∈sn x→∀ b,p.1 b→ll+1≤b)∧(∀ b,ofOwn (ow x) b→ofOwn (ow x0) b∨ll+1≤b)∧Base ρ ⟨σ.n,[],ow x,sn x++σ.snaps,[]⟩ W∧W.heap[w.heap.size]?=some (.deferred (some [])):=⟨_,rfl⟩
 obtain⟨J,hJ⟩:∃ J:Nat→Nat→World→Prop,J=fun k L W=>∃ x,I k x∧G x W∧(∀ b,ofOwn (ow x) b→b<L)∧ll+1≤L∧W.heap[ll]?=some (.loop rec):=⟨_,rfl⟩
 obtain⟨Jx,hJx⟩:∃ Jx:World→Prop,Jx=fun W=>∃ x,IX x∧G x W∧W.heap[ll]?=some (.loop { rec with state:=.done,pending:=some .ret }):=⟨_,rfl⟩
 have hGst:∀ x W W',G x W→Keep (fun b=>¬ T b) W W'→G x W':=fun x W W' hg hkp=>by
  rw[hG] at hg ⊢
  obtain⟨gL,gN,g1,g2⟩:=hg
  refine⟨gL,gN,g1.apartB hkp (fun j o b hjo hn hTb=>?_) (fun p hp b hS hlt hTb=>?_),?_⟩
  · exact hTow b (gN b ⟨j,o,hjo,by rw[freeO_num (hfr x o (by simp[List.mem_of_getElem? hjo])) (fun _=>0) ρ 0 j];exact hn⟩) hTb
  ·
   rcases List.mem_append.1 hp with hp | hp
   · have:=gL p hp b hS;have:=hTlt b hTb;omega
   ·
    obtain⟨j,o,_,h1,h2⟩:=hTit b hTb
    have:=hsnown p hp j o b h1 h2 hS;omega
  · rw[hkp.block _ (fun hTb=>absurd (hTlt _ hTb) (Nat.lt_irrefl _)) (Array.getElem?_eq_some_iff.1 g2).1];exact g2
 have hllst:∀ (W W':World) (r:Loop),W.heap[ll]?=some (.loop r)→Keep (fun b=>¬ T b) W W'→W'.heap[ll]?=some (.loop r):=fun W W' r h hkp=>by
  rw[hkp.block _ (fun hTb=>by have:=hTlt _ hTb;omega) (Array.getElem?_eq_some_iff.1 h).1];exact h
 have hJst:∀ k L W W',J k L W→Keep (fun b=>¬ T b) W W'→J k L W':=fun k L W W' hj hkp=>by
  rw[hJ] at hj ⊢
  obtain⟨x,gI,g1,g2,g3,g4⟩:=hj
  exact⟨x,gI,hGst x W W' g1 hkp,g2,g3,hllst W W' _ g4 hkp⟩
 have hJxst:∀ W W',Jx W→Keep (fun b=>¬ T b) W W'→Jx W':=fun W W' hj hkp=>by
  rw[hJx] at hj ⊢
  obtain⟨x,gI,g1,g4⟩:=hj
  exact⟨x,gI,hGst x W W' g1 hkp,hllst W W' _ g4 hkp⟩
 have hJ0:J 0 w1.heap.size w1:=by
  rw[hJ]
  refine⟨x0,hI0,?_,fun b hb=>by have:=hnum0 b hb;omega,by omega,hl1⟩
  rw[hG]
  refine⟨fun p hp=>(by rw[hsn0] at hp;cases hp),fun b hb=>.inl hb,?_,hD1⟩
  have hb1:=hs.base.apartB (B:=fun _=>False) (w':=w1) ⟨hk1.os,hk1.tape,hk1.output,hk1.size,fun b _ hlt=>hk1.block b trivial hlt,hk1.drawn⟩ (fun _ _ _ _ _ h=>h) fun _ _ _ _ _ h=>h
  have hpre:∀ (j:Nat) (o:Own),(ow x0)[j]?=some o→σ.own[j]?=some o:=fun j o hj=>by rw[h0,List.getElem?_append_left (List.getElem?_eq_some_iff.1 hj).1];exact hj
  rw[hsn0]
  exact⟨fun j o hj ρ' _=>freeO_holds (hfr x0 o (by simp[List.mem_of_getElem? hj])) (hb1.own j o (hpre j o hj) ρ (Agree.refl _ _)),fun i j oi oj b h1 h2=>hb1.apart i j oi oj b (hpre _ _ h1) (hpre _ _ h2),fun p hp=>⟨(hb1.keep p hp).1,fun j o b hj=>(hb1.keep p hp).2 j o b (hpre j o hj)⟩⟩
 have hround:∀ (b9:Bool) k L y W,(b9=false→k<m)→(b9=true→stop=true∧k=m)→V k y L W→J k L W→YieldAt (Fr none) 0 P ll (val y).toArray W fun e W'=>e=.returned (.bool (!b9))∧(b9=false→J (k+1) W'.heap.size W')∧(b9=true→Jx W')∧Keep (fun b=>¬ (ofOwn (ow x0) b∨w.heap.size≤b)) W W':=fun b9 k L y W hkm hkx hV hj=>by
  rw[hJ] at hj
  obtain⟨x,gI,gG,gL2,gL3,g3⟩:=hj
  rw[hG] at gG
  obtain⟨gL,gN,g1,g2⟩:=gG
  have hwl:w.heap.size≤W.heap.size:=by have:=(Array.getElem?_eq_some_iff.1 g3).1;omega
  have hllW:ll<W.heap.size:=(Array.getElem?_eq_some_iff.1 g3).1
  refine⟨_,_,_,_,run_yield g3 (by rw[hrec];simp[hval y]),roundIn_of_wpIn (n:=0) trivial ?_⟩
  have hof:∀ x (j:Nat) (o:Own) b ρ' j',(ow x)[j]?=some o→o.num ρ' j'=some b→ofOwn (ow x) b:=fun x j o b ρ' j' hjo hn=>⟨j,o,hjo,by rw[freeO_num (hfr x o (by simp[List.mem_of_getElem? hjo])) (fun _=>0) ρ' 0 j'];exact hn⟩
  have hne:∀ b,(ofOwn (ow x0) b∨ll+1≤b)→b≠w.heap.size∧b≠ll:=fun b hb=>by
   rcases hb with h | h
   · have:=hnum0 b h;omega
   · omega
  obtain⟨S,hS⟩:∃ S:Nat→Prop,S=fun b=>¬ ofOwn (ow x) b:=⟨_,rfl⟩
  have hSno:∀ (j:Nat) (o:Own) b ρ' j',(ow x)[j]?=some o→o.num ρ' j'=some b→¬ S b:=fun j o b ρ' j' hjo hn hSb=>by
   rw[hS] at hSb
   exact hSb (hof x j o b ρ' j' hjo hn)
  have hSll:S ll:=by rw[hS];exact fun h=>(hne ll (gN ll h)).2 rfl
  have hSw:S w.heap.size:=by rw[hS];exact fun h=>(hne _ (gN _ h)).1 rfl
  have hSL:∀ b,L≤b→S b:=fun b hb=>by rw[hS];exact fun h=>by have:=gL2 b h;omega
  have hsat1:Sat ρ ⟨σ.n,zipE ts (val y)++keepE σ.env kp,ow x,(S,W)::(sn x++σ.snaps),[]⟩ { tmps:=putT a.tmps ts (val y),defers:=[] } W:=by
   refine⟨by rw[putT_size];exact hs.size,rfl,fun i s hi=>?_,⟨g1.own,g1.apart,fun p hp=>?_⟩⟩
   ·
    rcases zipE_get (a:=a.tmps) htn (fun t h=>by rw[hs.size];exact ht t h) (hval y) hi with⟨v,rfl,h2,h3⟩ | ⟨h2,h3⟩
    · exact⟨ht i h2,fun ρ' _=>h3⟩
    ·
     have h5:=keepE_mem (getE_mem h3)
     have h6:=hs.env i s h5
     refine⟨h6.1,fun ρ' _=>?_⟩
     rw[putT_ne _ _ _ _ h2,den_agree (m:=0) (ρ:=ρ) (fun i hi=>by omega) s (hkb _ (getE_mem h3))]
     exact h6.2 ρ (Agree.refl _ _)
   ·
    rcases List.mem_cons.1 hp with rfl | hp
    · exact⟨Keep.refl _ _,fun j o b hjo hn hSb=>absurd hSb (hSno j o b ρ j hjo hn)⟩
    · exact g1.keep p hp
  have htm:(rec.params.zip (val y).toArray).foldl (fun tmps (t,a)=>tmps.setIfInBounds t a) rec.tmps=putT a.tmps ts (val y):=by
   rw[hrec]
   simp only[List.zip_toArray,List.size_toArray,List.foldl_toArray']
   exact putT_foldl ts (val y) a.tmps
  rw[htm]
  have hasg:rec.assign=assign:=by rw[hrec]
  have hbdy:rec.body=body:=by rw[hrec]
  have hst:rec.state=.ready:=by rw[hrec]
  rw[hasg,hbdy]
  refine wpIn_mono (hA ll k x y L S W hV hSL ρ _ W hsat1) ?_
  rintro e a1 W1 ⟨ρ1,τ,hs1,hq1⟩
  obtain⟨rfl,hle1⟩:=onN_and hq1
  have hs1:=hs1.le hle1
  have hkW1:Keep S W W1:=(hs1.base.keep (S,W) (by simp)).1
  have hl2:W1.heap[ll]?=some (.loop rec):=by rw[hkW1.block ll hSll hllW];exact g3
  refine⟨_,run_beginRound hl2 hst,?_⟩
  have hput:∀ x,(∀ p,p∈sn x→∀ b,p.1 b→ll+1≤b)→∀ p,p∈sn x++σ.snaps→p.2.heap.size≤ll∨¬ p.1 ll:=fun x hL p hp=>by
   rcases List.mem_append.1 hp with hp | hp
   · exact .inr fun h=>by have:=hL p hp ll h;omega
   · have:=hsnlt p hp;exact .inl (by omega)
  have hllW1:ll<W1.heap.size:=(Array.getElem?_eq_some_iff.1 hl2).1
  have hnum1:∀ (j:Nat) (o:Own) b,(ow x++xa k x y)[j]?=some o→o.num ρ1 j=some b→b≠ll∧b≠w.heap.size:=fun j o b hjo hn=>by
   by_cases hSb:S b
   ·
    have:=(hs1.base.keep (S,W) (by simp)).2 j o b hjo hn hSb
    simp only at this;omega
   ·
    rw[hS] at hSb
    have:=hne b (gN b (Classical.not_not.1 hSb))
    exact⟨this.2,this.1⟩
  obtain⟨S1,hS1⟩:∃ S1:Nat→Prop,S1=fun b=>¬ ofOwn (ow x) b∧b≠ll:=⟨_,rfl⟩
  obtain⟨S2,hS2⟩:∃ S2:Nat→Prop,S2=fun b=>b=ll∨b=w.heap.size:=⟨_,rfl⟩
  have hS1S:∀ b,S1 b→S b:=fun b h=>by rw[hS1] at h;rw[hS];exact h.1
  have hSL1:∀ b,L≤b→S1 b:=fun b hb=>by rw[hS1];exact⟨fun h=>by have:=gL2 b h;omega,by omega⟩
  have hb1:Base ρ1 ⟨σ.n,[],ow x++xa k x y,(S1,W)::(sn x++σ.snaps),[]⟩ W1:=⟨hs1.base.own,hs1.base.apart,fun p hp=>by
   rcases List.mem_cons.1 hp with rfl | hp
   ·
    have h9:=hs1.base.keep (S,W) List.mem_cons_self
    exact⟨h9.1.mono fun b hb _=>hS1S b hb,fun j o b h1 h2 h3=>h9.2 j o b h1 h2 (hS1S b h3)⟩
   · exact hs1.base.keep p (List.mem_cons_of_mem _ hp)⟩
  have hb2:Base ρ1 ⟨σ.n,[],ow x++xa k x y,(S1,W)::(sn x++σ.snaps),[]⟩ (W1.putObj ll (.loop { rec with state:=.busy })):=by
   refine Base.putObj hb1 (fun j o b hjo hn he=>(hnum1 j o b hjo hn).1 he) fun p hp=>?_
   rcases List.mem_cons.1 hp with rfl | hp
   · exact .inr fun h=>by simp only[hS1] at h;exact h.2 rfl
   · exact hput x gL p hp
  have hsat2:Sat ρ1 ⟨σ.n,ea k x y,ow x++xa k x y,(S1,W)::(S2,W1.putObj ll (.loop { rec with state:=.busy }))::(sn x++σ.snaps),[]⟩ a1 (W1.putObj ll (.loop { rec with state:=.busy })):=
   ⟨hs1.size,hs1.defers,hs1.env,hb2.own,hb2.apart,fun p hp=>by
    rcases List.mem_cons.1 hp with rfl | hp
    · exact hb2.keep _ List.mem_cons_self
    rcases List.mem_cons.1 hp with rfl | hp
    ·
     refine⟨Keep.refl _ _,fun j o b hjo hn hSb=>?_⟩
     have:=hnum1 j o b hjo hn
     simp only[hS2] at hSb;omega
    · exact hb2.keep p (List.mem_cons_of_mem _ hp)⟩
  have after:∀ (jump:Option Code) (x':X) (ρ3:Nat→Nat) (a3:Act) (W3:World),(∀ p,p∈sn x'→∀ b,p.1 b→ll+1≤b)→Sat ρ3 ⟨σ.n,[],ow x',(S1,W)::(S2,W1.putObj ll (.loop { rec with state:=.busy }))::(sn x'++σ.snaps),[]⟩ a3 W3 →
    W3.heap[ll]?=some (.loop { rec with state:=.busy })∧G x' (W3.putObj ll (.loop { rec with state:=if jump.isNone then .ready else .done,pending:=jump }))∧ll<W3.heap.size∧(∀ b,ofOwn (ow x') b→b<W3.heap.size) ∧
    Keep (fun b=>¬ (ofOwn (ow x0) b∨w.heap.size≤b)) W (W3.putObj ll (.loop { rec with state:=if jump.isNone then .ready else .done,pending:=jump })):=fun jump x' ρ3 a3 W3 hL' hs3=>by
   have hkW3:Keep S1 W W3:=(hs3.base.keep (S1,_) List.mem_cons_self).1
   have hkL3:Keep S2 (W1.putObj ll (.loop { rec with state:=.busy })) W3:=(hs3.base.keep (S2,_) (List.mem_cons_of_mem _ List.mem_cons_self)).1
   have hS2ll:S2 ll:=by rw[hS2];exact .inl rfl
   have hS2w:S2 w.heap.size:=by rw[hS2];exact .inr rfl
   have hN':∀ b,ofOwn (ow x') b→ofOwn (ow x0) b∨ll+1≤b:=fun b hb=>by
    apply Classical.byContradiction
    intro hno
    obtain⟨j,o,h1,h2⟩:=hb
    have h2':o.num ρ3 j=some b:=by rw[freeO_num (hfr x' o (by simp[List.mem_of_getElem? h1])) ρ3 (fun _=>0) j 0];exact h2
    have hbll:b≠ll:=fun he=>by
     subst he
     have h3:=(hs3.base.keep (S2,_) (List.mem_cons_of_mem _ List.mem_cons_self)).2 j o _ h1 h2' hS2ll
     simp at h3;omega
    have hSb:S1 b:=by rw[hS1];exact⟨fun h=>hno (gN b h),hbll⟩
    have h3:=(hs3.base.keep (S1,_) List.mem_cons_self).2 j o b h1 h2' hSb
    simp only at h3
    exact hno (.inr (by omega))
   have hl3:W3.heap[ll]?=some (.loop { rec with state:=.busy }):=by
    rw[hkL3.block ll hS2ll (by simpa using hllW1)];exact World.putObj_heap_same hllW1
   have hD3:W3.heap[w.heap.size]?=some (.deferred (some [])):=by
    rw[hkL3.block w.heap.size hS2w (by simp;omega),World.putObj_heap_other (by omega),hkW1.block _ hSw (Array.getElem?_eq_some_iff.1 g2).1];exact g2
   have hl3lt:ll<W3.heap.size:=(Array.getElem?_eq_some_iff.1 hl3).1
   refine⟨hl3,?_,hl3lt,fun b ⟨j,o,h1,h2⟩=>?_,?_⟩
   ·
    rw[hG]
    refine⟨hL',hN',?_,?_⟩
    ·
     have hb3:Base ρ3 ⟨σ.n,[],ow x',sn x'++σ.snaps,[]⟩ W3:=⟨hs3.base.own,hs3.base.apart,fun p hp=>hs3.base.keep p (List.mem_cons_of_mem _ (List.mem_cons_of_mem _ hp))⟩
     refine Base.free (ρ:=ρ3) (Base.putObj hb3 (fun j o b hjo hn he=>?_) (hput x' hL')) (fun o ho=>hfr x' o (by simp[ho]))
     exact(hne b (hN' b (hof x' j o b ρ3 j hjo hn))).2 he
    · rw[World.putObj_heap_other (by omega)];exact hD3
   ·
    refine Own.lt (hs3.base.own j o h1 ρ3 (Agree.refl _ _)) ?_
    rw[freeO_num (hfr x' o (by simp[List.mem_of_getElem? h1])) ρ3 (fun _=>0) j 0];exact h2
   ·
    have hno:¬ (fun b=>¬ (ofOwn (ow x0) b∨w.heap.size≤b)) ll:=fun h=>h (.inr (by omega))
    have hsub:∀ b,¬ (ofOwn (ow x0) b∨w.heap.size≤b)→S1 b:=fun b hb=>by
     rw[hS1]
     exact⟨fun h=>hb ((gN b h).imp id fun h=>by omega),fun he=>hb (.inr (by omega))⟩
    exact(hkW3.mono fun b hb _=>hsub b hb).trans (putObj_keep _ hno)
  cases b9 with
  |
   false=>
   refine wpIn_mono (hB ll k x y (ll+1) L S1 W S2 _ (hkm rfl) gI hV hSL1 gL3 gL (by omega) (fun b hb9 hb=>by rw[hS1];exact⟨hb,by omega⟩) (fun p hp=>by have:=hsnlt p hp;omega) ρ1 a1 _ hsat2) ?_
   rintro e a3 W3 ⟨ρ3,τ3,hs3,hq3⟩
   obtain⟨rfl,x',hI',hL',hle3⟩:=onN_and hq3
   have hs3:=hs3.le hle3
   obtain⟨hl3,hG3,hl3lt,hlt3,hk3⟩:=after none x' ρ3 a3 W3 hL' hs3
   refine⟨_,_,run_endRound none hl3,?_⟩
   have hrr:({ ({ rec with state:=.busy }:Loop) with state:=if (none:Option Code).isNone then .ready else .done,pending:=none }:Loop)=rec:=by rw[hrec];rfl
   have hrr2:({ rec with state:=if (none:Option Code).isNone then .ready else .done,pending:=none }:Loop)=rec:=by rw[hrec];rfl
   rw[hrr]
   rw[hrr2] at hG3 hk3
   refine⟨rfl,fun _=>?_,(fun h=>by cases h),hk3⟩
   rw[hJ]
   exact⟨x',hI',hG3,fun b hb=>by have:=hlt3 b hb;simpa using this,by simp;omega,World.putObj_heap_same hl3lt⟩
  |
   true=>
   obtain⟨hstp,rfl⟩:=hkx rfl
   refine wpIn_mono (hX hstp ll x y (ll+1) L S1 W S2 _ gI hV hSL1 gL3 gL (by omega) (fun b hb9 hb=>by rw[hS1];exact⟨hb,by omega⟩) (fun p hp=>by have:=hsnlt p hp;omega) ρ1 a1 _ hsat2) ?_
   rintro e a3 W3 ⟨ρ3,τ3,hs3,hq3⟩
   obtain⟨rfl,x',hI',hL',hle3⟩:=onR_and hq3
   have hs3:=hs3.le hle3
   obtain⟨hl3,hG3,hl3lt,hlt3,hk3⟩:=after (some .ret) x' ρ3 a3 W3 hL' hs3
   refine⟨_,_,run_endRound (some .ret) hl3,?_⟩
   refine⟨rfl,(fun h=>by cases h),fun _=>?_,hk3⟩
   rw[hJx]
   exact⟨x',hI',hG3,World.putObj_heap_same hl3lt⟩
 have hcall:=hit ρ w hs.base w1 hk1 (fun b ⟨j,o,h1,h2⟩=>hnlt j o b h1 h2) hap ll J Jx hJst hJxst (fun k L y W hk hV hj=>by
  obtain⟨a1,a2,a3,a4,a5,a6⟩:=hround false k L y W (fun _=>hk) (fun h=>by cases h) hV hj
  exact⟨a1,a2,a3,a4,a5,a6.mono fun e W' ⟨h1,h2,_,h4⟩=>⟨h1,h2 rfl,h4⟩⟩) (fun hstp L y W hV hj=>by
  obtain⟨a1,a2,a3,a4,a5,a6⟩:=hround true m L y W (fun h=>by cases h) (fun _=>⟨hstp,rfl⟩) hV hj
  exact⟨a1,a2,a3,a4,a5,a6.mono fun e W' ⟨h1,_,h3,h4⟩=>⟨h1,h3 rfl,h4⟩⟩) hJ0
 have done:∀ (x:X) (W':World) (r:Loop),G x W'→W'.heap[ll]?=some (.loop r)→Marks (w.heap.size::ds) (W'.putObj ll (.loop { r with state:=.exhausted })) w0 ∧
   Sat ρ ⟨σ.n,keepE σ.env kp,ow x,((fun b=>b∈w.heap.size::ds),W'.putObj ll (.loop { r with state:=.exhausted }))::(sn x++σ.snaps),.mk w.heap.size::σ.dfs⟩ { a with defers:=[{ target:=.collected w.heap.size,args:=#[] }]++a.defers } (W'.putObj ll (.loop { r with state:=.exhausted })):=fun x W' r gG g3=>by
  rw[hG] at gG
  obtain⟨gL,gN,g1,g2⟩:=gG
  have hllt:ll<W'.heap.size:=(Array.getElem?_eq_some_iff.1 g3).1
  have hof:∀ (j:Nat) (o:Own) b,(ow x)[j]?=some o→o.num ρ j=some b→ofOwn (ow x0) b∨ll+1≤b:=fun j o b hjo hn=>gN b ⟨j,o,hjo,by rw[freeO_num (hfr x o (by simp[List.mem_of_getElem? hjo])) (fun _=>0) ρ 0 j];exact hn⟩
  have hb5:Base ρ ⟨σ.n,[],ow x,sn x++σ.snaps,[]⟩ (W'.putObj ll (.loop { r with state:=.exhausted })):=Base.putObj g1 (fun j o b hjo hn he=>by
   rcases hof j o b hjo hn with h | h
   · have:=hnum0 b h;omega
   · omega) fun p hp=>by
   rcases List.mem_append.1 hp with hp | hp
   · exact .inr fun h=>by have:=gL p hp ll h;omega
   · have:=hsnlt p hp;exact .inl (by omega)
  have hks0:=(hb5.keep _ (List.mem_append_right _ hs0)).1
  have hMk:Marks (w.heap.size::ds) (W'.putObj ll (.loop { r with state:=.exhausted })) w0:=by
   refine⟨List.nodup_cons.2 ⟨fun hm=>?_,hM.1⟩,fun d hd=>?_⟩
   ·
    have:=(hM.2 _ hm).2.1
    have:=hsnlt _ hs0
    simp only at this;omega
   ·
    rcases List.mem_cons.1 hd with rfl | hd
    ·
     refine⟨(hs.base.keep _ hw0).1.size,by simp;omega,?_⟩
     rw[World.putObj_heap_other (by omega)];exact g2
    ·
     obtain⟨q1,q2,q3⟩:=hM.2 d hd
     exact⟨q1,Nat.lt_of_lt_of_le q2 hks0.size,by rw[hks0.block d hd q2];exact q3⟩
  refine⟨hMk,⟨hs.size,?_,fun i s hi=>?_,?_⟩⟩
  ·
   show [{ target:=.collected w.heap.size,args:=#[] }]++a.defers=_
   rw[hs.defers];rfl
  ·
   have h5:=keepE_mem (getE_mem hi)
   have h6:=hs.env i s h5
   refine⟨h6.1,fun ρ' _=>?_⟩
   rw[den_agree (m:=0) (ρ:=ρ) (fun i hi=>by omega) s (hkb _ (getE_mem hi))]
   exact h6.2 ρ (Agree.refl _ _)
  ·
   refine⟨hb5.own,hb5.apart,fun p hp=>?_⟩
   rcases List.mem_cons.1 hp with rfl | hp
   ·
    refine⟨Keep.refl _ _,fun j o b hjo hn hSb=>?_⟩
    have hq:=hof j o b hjo hn
    rcases List.mem_cons.1 hSb with rfl | hSb
    ·
     rcases hq with h | h
     · have:=hnum0 _ h;omega
     · omega
    ·
     have h9:=(hM.2 b hSb).2.1
     have h8:=hsnlt _ hs0
     simp only at h8
     rcases hq with⟨j9,o9,h1,h2⟩ | h
     ·
      have:=hsnown _ hs0 j9 o9 b (by rw[h0,List.getElem?_append_left (List.getElem?_eq_some_iff.1 h1).1];exact h1) h2 hSb
      simp only at *;omega
     · simp only at *;omega
   · exact hb5.keep p hp
 refine⟨ll,[{ target:=.collected w.heap.size,args:=#[] }],w1,{ target:=.fn (.func f) caps,args:=#[.func (.yield ll) #[] #[]] },w1,f,#[.func (.yield ll) #[] #[]]++caps,w1,?_,?_,fun _ _=>trivial,?_,fun h=>by simp[Fr,Fence.wide] at h,?_⟩
 ·
  rw[hw1,hll,hrec]
  exact run_enterLoop_outer fn a.tmps ts.toArray assign body
 ·
  show(Deferred.ofValue (a.eval g) (#[Operand.const (.func (.yield ll) #[] #[])].map a.eval)).run P w1=_
  rw[hgv];simp[Deferred.ofValue,Act.eval]
 ·
  show(invoke (.fn (.func f) caps) #[.func (.yield ll) #[] #[]]).run P w1=_
  simp only[invoke]
  exact run_callFunc hfn
 ·
  refine hcall.mono ?_
  rintro e W' ⟨⟨v,rfl⟩,hj1,hj2⟩
  cases hstp:stop with
  |
   false=>
   obtain⟨L,hj⟩:=hj1 hstp
   rw[hJ] at hj
   obtain⟨x,gI,gG,_,_,g3⟩:=hj
   have hst:rec.state≠.busy:=by rw[hrec];simp
   have hpd:rec.pending=none:=by rw[hrec]
   obtain⟨hMk,hsat⟩:=done x W' rec gG g3
   exact⟨none,_,by rw[← hpd];exact run_endLoop g3 hst,ρ,_,hsat,k hstp w.heap.size _ x gI hMk⟩
  |
   true=>
   have hj:=hj2 hstp
   rw[hJx] at hj
   obtain⟨x,gI,gG,g3⟩:=hj
   obtain⟨hMk,hsat⟩:=done x W' _ gG g3
   refine⟨some .ret,_,run_endLoop g3 (by simp),?_⟩
   exact kx hstp w.heap.size _ x gI hMk ρ _ _ hsat
end
end Go.SX
namespace Go.Proofs.YtolmeekbjonbcaaGreatDoor
open Go Go.SX Go.RowKit
variable [Drw]
open Int renaming reduceEq → E, reduceLT → F, reduceBEq → G, reduceBNe → H, reduceNeg → Z1, reduceGT → Z2, reduceLE → Z3, reduceGE → Z4, reduceMul → Z5, reduceMod → Z6, reduceAdd → Z7, reduceTMod → Z8, reduceTDiv → Z9
open Nat renaming reduceAdd → J, reduceSub → M, reduceMul → R, reduceLT → Tz, reduceLeDiff → V, reduceEqDiff → X
open List renaming reduceReplicate → Y
theorem onN_i (C:St→Prop) (t:St) (h:C t):(onN C) .normal t:=h
theorem onR_i (C:St→Prop) (t:St) (h:C t):(onR C) .ret t:=h
theorem plays_get {l:List Nt} {q:Nt→Bool} {f:Nt→Nt} {i:Nat} {y z:Nt} (hy:l[i]?=some y) (hq:q y=true):((l.filter q).map f).getD ((l.take i).filter q).length z=f y:=by
 obtain⟨hi,he⟩:=List.getElem?_eq_some_iff.1 hy
 have h1:l=l.take i++(y::l.drop (i+1)):=by
  conv=>lhs;rw[← List.take_append_drop i l]
  rw[← List.getElem_cons_drop hi,he]
 have h2:l.filter q=(l.take i).filter q++(y::(l.drop (i+1)).filter q):=by
  conv=>lhs;rw[h1]
  rw[List.filter_append,List.filter_cons,if_pos hq]
 rw[h2,List.map_append,List.getD_eq_getElem?_getD,List.getElem?_append_right (by simp)]
 simp
theorem filt_yes {l:List Nt} {q:Nt→Bool} {i:Nat} {y:Nt} (hy:l[i]?=some y) (hq:q y=true):((l.take (i+1)).filter q).length=((l.take i).filter q).length+1:=by
 rw[List.take_add_one,hy,List.filter_append];simp[hq]
theorem filt_no {l:List Nt} {q:Nt→Bool} {i:Nat} {y:Nt} (hy:l[i]?=some y) (hq:q y=false):((l.take (i+1)).filter q).length=((l.take i).filter q).length:=by
 rw[List.take_add_one,hy,List.filter_append];simp[hq]
theorem filt_lt {l:List Nt} {q:Nt→Bool} {i:Nat} {y:Nt} (hy:l[i]?=some y) (hq:q y=true):((l.take i).filter q).length<(l.filter q).length:=by
 rw[← Nat.succ_le_iff,Nat.succ_eq_add_one,← filt_yes hy hq]
 exact((List.take_sublist _ _).filter _).length_le
theorem played_spec (w:World) (a:ScA) (s:Sc) (p:Pt):Gives Tryz.prog 88 #[scV a s,(ptq p)] w fun r w'=>∃ x:Nat×Nat×Nat,r=.func (.func 142) #[] #[.pointer (some ⟨x.1,0,none⟩),.pointer (some ⟨x.2.1,0,none⟩),.pointer (some ⟨x.2.2,0,none⟩)]∧(At w' ⟨x.1,0,none⟩ (scl a s)∧At w' ⟨x.2.1,0,none⟩ [iv (srcOf p)]∧At w' ⟨x.2.2,0,none⟩ [iv p.id,iv p.sec,iv p.src,iv p.oct,iv p.desks,iv p.sa,iv p.sb,iv p.low.1,iv p.low.2.1,iv p.low.2.2,iv p.high.1,iv p.high.2.1,iv p.high.2.2])∧(w.heap.size≤x.1∧w.heap.size≤x.2.1∧w.heap.size≤x.2.2)∧x.1<w'.heap.size∧x.2.1<w'.heap.size∧x.2.2<w'.heap.size:=by
 unfold scV
 refine gives_of [.agg (scw a s),.agg (ptw p)] 13 [.tmp 4] Tryz.func88 rfl rfl rfl (by simp) rfl rfl ?_
 refine W.pure dn fun K1 k1=>?_
 simp only[E,F,J,M,R,Tz,V,X,Y,reduceIte,G,H,sz];refine k1 _ ?_
 refine W.pure dn fun K2 k2=>?_
 simp only[E,F,J,M,R,Tz,V,X,Y,reduceIte,G,H,sz];refine k2 _ ?_
 refine W.seqK fun K3 k3=>?_
 refine W.pure dn fun K4 k4=>?_
 simp only[E,F,J,M,R,Tz,V,X,Y,reduceIte,G,H,sz];refine k4 _ ?_
 refine W.cond rfl rfl (fun hc=>?_) fun hc=>?_
 ·
  have h0:p.src=0:=by simpa using hc
  refine W.region ?_
  refine WO.go 3 dn ?_
  simp only[E,F,J,M,R,Tz,V,X,Y,reduceIte,G,H,sz]
  refine WO.nil ?_
  refine k3 _ ?_
  refine W.pure dn fun K5 k5=>?_
  simp only[E,F,J,M,R,Tz,V,X,Y,reduceIte,G,H,sz];refine k5 _ ?_
  refine W.ret ⟨by simp,_,rfl,fun ρ w1 hb=>?_⟩
  refine⟨(ρ 0,ρ 2,ρ 1),rfl,⟨?_,?_,?_⟩,⟨own_new (k:=0) hb (by simp) rfl rfl,own_new (k:=2) hb (by simp) rfl rfl,own_new (k:=1) hb (by simp) rfl rfl⟩,(own_cells (k:=0) hb rfl 0).2,(own_cells (k:=2) hb rfl 0).2,(own_cells (k:=1) hb rfl 0).2⟩
  · exact(own_cells (k:=0) hb rfl 0).1
  · rw[show srcOf p=p.id from by unfold srcOf;rw[if_pos h0]];exact(own_cells (k:=2) hb rfl 0).1
  · exact(own_cells (k:=1) hb rfl 0).1
 ·
  have h0:¬ p.src=0:=by simpa using hc
  refine W.skip (k3 _ ?_)
  refine W.pure dn fun K6 k6=>?_
  simp only[E,F,J,M,R,Tz,V,X,Y,reduceIte,G,H,sz];refine k6 _ ?_
  refine W.ret ⟨by simp,_,rfl,fun ρ w1 hb=>?_⟩
  refine⟨(ρ 0,ρ 2,ρ 1),rfl,⟨?_,?_,?_⟩,⟨own_new (k:=0) hb (by simp) rfl rfl,own_new (k:=2) hb (by simp) rfl rfl,own_new (k:=1) hb (by simp) rfl rfl⟩,(own_cells (k:=0) hb rfl 0).2,(own_cells (k:=2) hb rfl 0).2,(own_cells (k:=1) hb rfl 0).2⟩
  · exact(own_cells (k:=0) hb rfl 0).1
  · rw[show srcOf p=p.src from by unfold srcOf;rw[if_neg h0]];exact(own_cells (k:=2) hb rfl 0).1
  · exact(own_cells (k:=1) hb rfl 0).1
def ntA (n:Nt):Value:=(ntq n)
theorem add_blk (q:Addr) (i:Nat):(q.add i).block=q.block:=by unfold Addr.add;split<;>rfl
theorem played1_iter {S:Nat→Prop} {w:World} {b1 b2 b3:Nat} {a:ScA} {s:Sc} {pa:Pt} {B:Nat→Prop} (h1:At w ⟨b1,0,none⟩ (scl a s)) (hb1l:b1<w.heap.size) (h2:At w ⟨b2,0,none⟩ [.int .i64 (srcOf pa)]) (hb2l:b2<w.heap.size) (h3:At w ⟨b3,0,none⟩ [.int .i64 pa.id,.int .i64 pa.sec,.int .i64 pa.src,.int .i64 pa.oct,.int .i64 pa.desks,.int .i64 pa.sa,.int .i64 pa.sb,.int .i64 pa.low.1,.int .i64 pa.low.2.1,.int .i64 pa.low.2.2,.int .i64 pa.high.1,.int .i64 pa.high.2.1,.int .i64 pa.high.2.2]) (hb3l:b3<w.heap.size)
  (hl:rNts.rd S w [.slice a.n.1 s.notes.length a.n.2] s.notes) (hS:∀ b,S b→b<w.heap.size→¬ B b) (hb1:¬ B b1) (hb2:¬ B b2) (hb3:¬ B b3) (hno:∀ n,n∈s.notes→NoteOk s.bars n) (hpo:PartOk pa) :
  IterZ Tryz.prog 142 #[.pointer (some ⟨b1,0,none⟩),.pointer (some ⟨b2,0,none⟩),.pointer (some ⟨b3,0,none⟩)] (playsL s pa).length false (fun k:Nat=>[ntA ((playsL s pa).getD k (zeroN 0))]) (fun k y _ _=>y=k) (fun _=>False) B w:=by
 intro ll Ji Jx hst _ hY _ hJ0
 have hlS:(Rp.slice rNt).rd (fun b=>¬ B b∧¬ b∈[]) w [.slice a.n.1 s.notes.length a.n.2] s.notes:=Rp.mono _ hl fun b hb hlt=>⟨hS b hb hlt,by simp⟩
 obtain⟨_,_,hq9,hc1,hc2⟩:=Rp.slice_val hl
 have hoc:=within_iff.1 hpo.oct
 have hpl:(playsL s pa).length=(s.notes.filter (fun n:Nt=>n.part == srcOf pa)).length:=by unfold playsL;rw[List.length_map]
 have hlen9:s.notes.length≤9223372036854775807:=by
  simp only[Value.slice.injEq] at hq9
  omega
 have hb1':(fun b=>¬ B b∧¬ b∈([]:List Nat)) b1:=⟨hb1,by simp⟩
 have hb2':(fun b=>¬ B b∧¬ b∈([]:List Nat)) b2:=⟨hb2,by simp⟩
 have hb3':(fun b=>¬ B b∧¬ b∈([]:List Nat)) b3:=⟨hb3,by simp⟩
 refine iter_of (R:=fun w'=>(false=false→∃ L,Ji (playsL s pa).length L w')∧(false=true→Jx w')) [] [.val (.func (.yield ll) #[] #[]),.val (.pointer (some ⟨b1,0,none⟩)),.val (.pointer (some ⟨b2,0,none⟩)),.val (.pointer (some ⟨b3,0,none⟩))] 34 B Tryz.func142 rfl rfl rfl (by simp) rfl rfl (by simp) (by simp) ?_
 show W Tryz.prog _ _ ⟨34,initE 0 _,[],[((fun b=>¬ b∈[]),w),((fun b=>¬ B b∧¬ b∈[]),w)],[]⟩
 refine W.sub (τ:=⟨34,initE 0 [.val (.func (.yield ll) #[] #[]),.val (.pointer (some ⟨b1,0,none⟩)),.val (.pointer (some ⟨b2,0,none⟩)),.val (.pointer (some ⟨b3,0,none⟩))],[],[((fun b=>¬ False),w),((fun b=>¬ B b∧¬ b∈[]),w)],[]⟩) (fun ρ a w9 h=>⟨ρ,h.size,h.defers,h.env,h.base.own,h.base.apart,fun p hp=>by
  rcases List.mem_cons.1 hp with rfl | hp
  ·
   have h9:=h.base.keep ((fun b=>¬ b∈([]:List Nat)),w) (by simp)
   exact⟨h9.1.mono fun b _ _=>by simp,fun k o b hk=>by simp at hk⟩
  · exact h.base.keep p (List.mem_cons_of_mem _ hp)⟩) ?_
 refine W.seqK fun K1 k1=>W.region ?_
 refine WO.go 1 dn ?_
 simp only[E,F,J,M,R,Tz,V,X,Y,reduceIte,G,H,sz]
 refine WO.load [.slice a.n.1 s.notes.length a.n.2] false dn rfl rfl rfl rfl agg24 sz24 (.inr rfl) (fun ρ w1 hb=>((h1.part 3 1)).frame ((hb.at (S:=fun b=>¬ B b∧¬ b∈[]) (s:=w) (by simp[St.put,initE])).block _ (by rw[add_blk];exact hb1') (by rw[add_blk];exact hb1l))) ?_
 simp only[ofCells,sr]
 refine WO.go 2 dn ?_
 simp only[E,F,J,M,R,Tz,V,X,Y,reduceIte,G,H,sz]
 refine WO.nil ?_
 refine k1 _ ?_
 refine W.block ?_
 refine W.loopO (X:=Nat×World) [0,2,3,8,9] (fun x9=>[(10,.val (.int .i64 (x9.1:Int)))]) (fun x9=>[]) (fun x9=>[((fun b=>¬ False),x9.2),((fun b=>¬ B b∧¬ b∈[]),w)]) (fun x9=>x9.1≤s.notes.length∧Ji ((s.notes.take (x9.1)).filter (fun n:Nt=>n.part == srcOf pa)).length x9.2.heap.size x9.2) (fun x9=>s.notes.length - x9.1) (0,w) ?_ ?_ ?_
 · exact⟨rfl,by simp[getE,bnd,keepE],⟨[],by simp⟩,by simp[Own.bnd,bndL,bnd,boxO],by simp⟩
 ·
  exact⟨Nat.zero_le _,hJ0⟩
 ·
  rintro⟨i,sw⟩ ⟨hi,hJi⟩
  simp only at hi hJi
  simp only[E,F,J,M,R,Tz,V,X,Y,reduceIte,sxk,G,H,sz]
  refine W.pure dn fun K2 k2=>?_
  simp only[E,F,J,M,R,Tz,V,X,Y,reduceIte,G,H,sz];refine k2 _ ?_
  refine W.seqK fun K3 k3=>?_
  refine W.cond rfl rfl (fun hc=>?_) fun hc=>?_
  ·
   have hlt:i<s.notes.length:=by simpa using hc
   obtain⟨y,hy⟩:=len_lt (rfl:s.notes.length=_) hlt
   have hyo:=isNote_b (hno y (List.mem_of_getElem? hy)).pit
   have hwo:IntKind.i64.wrap (y.pit.2.2+pa.oct)=y.pit.2.2+pa.oct:=wrap_id (by omega) (by omega)
   refine W.skip (k3 _ ?_)
   refine W.seqK fun K4 k4=>?_
   refine W.block ?_
   refine W.seqK fun K5 k5=>W.region ?_
   refine WO.elem (y:=y) hlS (by simp[St.put]) dn rfl rfl (by simp[St.put]) (fun _=>rfl) rfl rfl rfl rfl rfl el24 agg89 sz89 (.inl rfl) (by omega) (hy) fun p ces hces=>?_
   have hces:ces=ntV y:=hces
   subst hces
   simp only[ntV,ofCells,if_true,List.toList_toArray,sr]
   refine WO.go 2 dn ?_
   simp only[E,F,J,M,R,Tz,V,X,Y,reduceIte,G,H,sz]
   refine WO.nil ?_
   refine k5 _ ?_
   refine W.seqK fun K6 k6=>?_
   refine W.seqK fun K7 k7=>W.region ?_
   refine WO.go 2 dn ?_
   simp only[E,F,J,M,R,Tz,V,X,Y,reduceIte,G,H,sz]
   refine WO.load [.int .i64 (srcOf pa)] false dn rfl rfl rfl rfl agg3 sz3 (.inr rfl) (fun ρ w1 hb=>(h2).frame ((hb.at (S:=fun b=>¬ B b∧¬ b∈[]) (s:=w) (by simp[St.put,initE])).block _ hb2' hb2l)) ?_
   simp only[ofCells,sr]
   refine WO.go 1 dn ?_
   simp only[E,F,J,M,R,Tz,V,X,Y,reduceIte,G,H,sz]
   refine WO.nil ?_
   refine k7 _ ?_
   refine W.cond rfl rfl (fun hc=>?_) fun hc=>?_
   ·
    have h0:(y.part == srcOf pa)=false:=by simpa using hc
    have hfn:=filt_no (q:=(fun n:Nt=>n.part == srcOf pa)) hy h0
    refine W.exit (k4 _ ?_)
    refine W.region ?_
    refine WO.go 2 dn ?_
    simp only[E,F,J,M,R,Tz,V,X,Y,reduceIte,G,H,sz]
    refine WO.nil ?_
    refine⟨(i+1,sw),?_,by first | omega | (simp;omega),rfl,by simp[getE,bnd,keepE,wrap_succ (show i+1≤9223372036854775807 by omega)],⟨_,rfl⟩,by simp[Own.bnd,bndL,bnd,boxO],by simp⟩
    exact⟨hlt,by rw[hfn];exact hJi⟩
   ·
    have h0:(y.part == srcOf pa)=true:=by simpa using hc
    have hfy:=filt_yes (q:=(fun n:Nt=>n.part == srcOf pa)) hy h0
    have hfl:=filt_lt (q:=(fun n:Nt=>n.part == srcOf pa)) hy h0
    have hpg:(playsL s pa).getD ((s.notes.take (i)).filter (fun n:Nt=>n.part == srcOf pa)).length (zeroN 0)=playN pa y:=plays_get (f:=playN pa) hy h0
    have hYi:∀ w1,Ji ((s.notes.take (i)).filter (fun n:Nt=>n.part == srcOf pa)).length sw.heap.size w1→_:=fun w1 h=>hY ((s.notes.take (i)).filter (fun n:Nt=>n.part == srcOf pa)).length sw.heap.size ((s.notes.take (i)).filter (fun n:Nt=>n.part == srcOf pa)).length w1 (by rw[hpl];exact hfl) rfl h
    simp only[hpg] at hYi
    refine W.skip (k6 _ ?_)
    refine W.seqK fun K8 k8=>W.region ?_
    refine WO.go 1 dn ?_
    simp only[E,F,J,M,R,Tz,V,X,Y,reduceIte,G,H,sz]
    refine WO.load [.int .i64 pa.id] false dn rfl rfl rfl rfl agg3 sz3 (.inr rfl) (fun ρ w1 hb=>((h3.part 0 1)).frame ((hb.at (S:=fun b=>¬ B b∧¬ b∈[]) (s:=w) (by simp[St.put,initE])).block _ (by rw[add_blk];exact hb3') (by rw[add_blk];exact hb3l))) ?_
    simp only[ofCells,sr]
    refine WO.go 2 dn ?_
    simp only[E,F,J,M,R,Tz,V,X,Y,reduceIte,G,H,sz]
    refine WO.nil ?_
    refine k8 _ ?_
    refine W.seqK fun K9 k9=>W.region ?_
    refine WO.go 4 dn ?_
    simp only[E,F,J,M,R,Tz,V,X,Y,reduceIte,G,H,hwo,sz]
    refine WO.load [.int .i64 pa.oct] false dn rfl rfl rfl rfl agg3 sz3 (.inr rfl) (fun ρ w1 hb=>((h3.part 3 1)).frame ((hb.at (S:=fun b=>¬ B b∧¬ b∈[]) (s:=w) (by simp[St.put,initE])).block _ (by rw[add_blk];exact hb3') (by rw[add_blk];exact hb3l))) ?_
    simp only[ofCells,sr]
    refine WO.go 4 dn ?_
    simp only[E,F,J,M,R,Tz,V,X,Y,reduceIte,G,H,hwo,sz]
    refine WO.nil ?_
    refine k9 _ ?_
    refine W.seqK fun K10 k10=>?_
    refine WI.region ?_
    refine WI.pre 2 ?_
    simp only[List.take_succ_cons,List.take_zero,List.drop_succ_cons,List.drop_zero,List.toList_toArray]
    refine WO.go 2 dn ?_
    simp only[E,F,J,M,R,Tz,V,X,Y,reduceIte,G,H,hwo,sz]
    refine WO.nil ?_
    refine⟨rfl,?_⟩
    refine WI.fresh [0,2,3,8,9,10,29,30] rfl ?_
    simp only[E,F,J,M,R,Tz,V,X,Y,reduceIte,sxk,G,H,hwo,sz]
    refine WI.yieldZ1 (v0:=(ntq (playN pa y))) (B:=B) (J':=fun w'=>Ji (((s.notes.take (i)).filter (fun n:Nt=>n.part == srcOf pa)).length+1) w'.heap.size w') true [((fun b=>¬ B b∧¬ b∈[]),w)] (fun b=>False) dn rfl rfl rfl rfl rfl (fun _=>rfl) (fun ρ w1 hb=>?_) (fun p hp=>?_) (fun ρ k o b hk hn=>?_) fun s2 hJ2=>?_
    · exact hYi w1 (hst _ _ sw w1 hJi ((hb.at (S:=fun b=>¬ False) (s:=sw) (by simp[St.put]))))
    · rw[List.mem_singleton] at hp;subst hp;exact⟨by simp[St.put],fun b h _=>h.1⟩
    · simp at hk
    simp only[E,F,J,M,R,Tz,V,X,Y,reduceIte,G,H,hwo,sz]
    refine WI.pre 1 ?_
    simp only[List.take_succ_cons,List.take_zero,List.drop_succ_cons,List.drop_zero,List.toList_toArray]
    refine WO.go 1 dn ?_
    simp only[E,F,J,M,R,Tz,V,X,Y,reduceIte,G,H,hwo,sz]
    refine WO.nil ?_
    refine⟨rfl,WI.nil ?_⟩
    refine k10 _ ?_
    refine W.cond rfl rfl (fun hc=>?_) fun hc=>?_
    ·
     simp at hc
    ·
     refine W.skip (k4 _ ?_)
     refine W.region ?_
     refine WO.go 2 dn ?_
     simp only[E,F,J,M,R,Tz,V,X,Y,reduceIte,G,H,hwo,sz]
     refine WO.nil ?_
     refine⟨(i+1,s2),?_,by first | omega | (simp;omega),rfl,by simp[getE,bnd,keepE,wrap_succ (show i+1≤9223372036854775807 by omega)],⟨_,rfl⟩,by simp[Own.bnd,bndL,bnd,boxO],by simp⟩
     exact⟨hlt,by rw[hfy];exact hJ2⟩
  ·
   have hge:s.notes.length≤i:=by simpa using hc
   have hJe:Ji (playsL s pa).length sw.heap.size sw:=by
    rw[hpl]
    rw[List.take_of_length_le hge] at hJi
    exact hJi
   refine W.exit ?_
   refine⟨by simp,rfl,?_⟩
   try simp only[E,F,J,M,R,Tz,V,X,Y,reduceIte,sxr,G,H,sz]
   intro ρ w1 hb
   exact⟨fun _=>⟨_,hst _ _ _ _ hJe (hb.at (S:=fun b=>¬ False) (by simp))⟩,fun h=>by cases h⟩
theorem snap_apart {ρ:Nat→Nat} {σ:St} {w s:World} {S:Nat→Prop} (hb:Base ρ σ w) (hm:(S,s)∈σ.snaps) {own:List Go.SX.Own} (hfr:∀ o,o∈own→freeO o=true) (hsub:∀ (j:Nat) (o:Go.SX.Own),own[j]?=some o→σ.own[j]?=some o) {b:Nat} (hS:S b) (hlt:b<s.heap.size):¬ (ofOwn own b∨w.heap.size≤b):=by
 rintro (⟨j,o,h1,h2⟩ | h)
 ·
  have h3:=(hb.keep _ hm).2 j o b (hsub j o h1) (by rw[freeO_num (hfr o (List.mem_of_getElem? h1)) ρ (fun _=>0) j 0];exact h2) hS
  simp only at h3
  omega
 ·
  have:=(hb.keep _ hm).1.size
  simp only at this
  omega
theorem snap_at {ρ:Nat→Nat} {σ:St} {w w2 s:World} {S:Nat→Prop} (hb:Base ρ σ w) (hm:(S,s)∈σ.snaps) (hk:Keep (fun _=>True) w w2) {q:Addr} {cs:List Value} (h:At s q cs) (hS:S q.block) (hlt:q.block<s.heap.size):At w2 q cs:=
 (h.frame ((hb.keep _ hm).1.block _ hS hlt)).frame (hk.block _ trivial (Nat.lt_of_lt_of_le hlt (hb.keep _ hm).1.size))
theorem snap_lt {ρ:Nat→Nat} {σ:St} {w w2 s:World} {S:Nat→Prop} (hb:Base ρ σ w) (hm:(S,s)∈σ.snaps) (hk:Keep (fun _=>True) w w2) {b:Nat} (hlt:b<s.heap.size):b<w2.heap.size:=
 Nat.lt_of_lt_of_le (Nat.lt_of_lt_of_le hlt (hb.keep _ hm).1.size) hk.size
theorem splays_spec {S:Nat→Prop} {w:World} {a:ScA} {s:Sc} (hN:GN w) (hs:ScR S w a s) (hok:ScOk s) {i:Nat} {pa:Pt} (hp:s.parts[i]?=some pa):Gives Tryz.prog 42 #[scV a s,iv pa.id] w fun r w'=>∃ x:Option Addr×Nat,r=.tuple #[.slice x.1 (playsL s pa).length x.2,iv 0]∧rNts.rd (fun b=>w.heap.size≤b) w' [.slice x.1 (playsL s pa).length x.2] (playsL s pa):=by
 have lb:(Rp.slice rBr).rd (fun _=>True) w _ s.bars:=Rp.any hs.b
 have lp:(Rp.slice rPt).rd (fun _=>True) w _ s.parts:=Rp.any hs.p
 have ln:(Rp.slice rNt).rd (fun _=>True) w _ s.notes:=Rp.any hs.n
 have hs9:=hs.any
 have hM:Marks [] w w:=⟨List.nodup_nil,fun d hd=>by cases hd⟩
 unfold scV
 have hlw:(Rp.slice rNt).rd (fun b=>b<w.heap.size) w [.slice a.n.1 s.notes.length a.n.2] s.notes:=Rp.mono _ ln fun b hb hlt=>hlt
 refine gives_of_marks [.agg (scw a s),wv pa.id] 35 [.tmp 4,.tmp 5] Tryz.func42 rfl rfl rfl (by simp) rfl rfl ?_
 refine W.pure dn fun K1 k1=>?_
 simp only[E,F,J,M,R,Tz,V,X,Y,reduceIte,G,H,sz];refine k1 _ ?_
 refine W.seqK fun K2 k2=>?_
 refine W.seqK fun K3 k3=>W.region ?_
 refine WO.go 1 dn ?_
 simp only[E,F,J,M,R,Tz,V,X,Y,reduceIte,G,H,sz]
 refine WO.call (.bool true) dn rfl rfl rfl co36 (fun ρ w1 hb=>sValid_spec (a:=a) (hN.now (hb.first (by simp[St.put]))) (ScR.now hs9 (hb.first (by simp[St.put]))) hok) ?_
 refine WO.go 1 dn ?_
 simp only[E,F,J,M,R,Tz,V,X,Y,reduceIte,G,H,sz]
 refine WO.nil ?_
 refine k3 _ ?_
 refine W.cond rfl rfl (fun hc=>?_) fun hc=>?_
 ·
  simp at hc
 ·
  refine W.skip (k2 _ ?_)
  refine W.seqK fun K4 k4=>W.region ?_
  refine WO.go 3 dn ?_
  simp only[E,F,J,M,R,Tz,V,X,Y,reduceIte,G,H,sz]
  refine WO.call (.tuple #[iv (i:Int),.bool true]) dn rfl rfl rfl co86 (fun ρ w1 hb=>sindex_spec (Rp.now lp (hb.first (by simp[St.put]))) (part_ix hok.parts.nd hp)) ?_
  refine WO.go 5 dn ?_
  simp only[E,F,J,M,R,Tz,V,X,Y,reduceIte,G,H,sz]
  refine WO.nil ?_
  refine k4 _ ?_
  refine W.seqK fun K5 k5=>?_
  refine W.pure dn fun K6 k6=>?_
  simp only[E,F,J,M,R,Tz,V,X,Y,reduceIte,G,H,sz];refine k6 _ ?_
  refine W.cond rfl rfl (fun hc=>?_) fun hc=>?_
  ·
   simp at hc
  ·
   refine W.skip (k5 _ ?_)
   refine W.pure dn fun K7 k7=>?_
   simp only[E,F,J,M,R,Tz,V,X,Y,reduceIte,G,H,sz];refine k7 _ ?_
   refine W.seqK fun K8 k8=>?_
   refine W.seqK fun K9 k9=>?_
   refine W.regionT' 6 [] [0,1,2,3,4,5] mixed (by kernel_rfl) ?_
   simp only[E,F,J,M,R,Tz,V,X,Y,reduceIte,sxt,List.toList_toArray,G,H,sz]
   refine WQ.go 4 dn ?_
   simp only[E,F,J,M,R,Tz,V,X,Y,reduceIte,sxq,G,H,sz]
   refine WQ.elem (y:=pa) lp (by simp[St.put]) dn rfl rfl (by simp[St.put]) (fun _=>rfl) rfl rfl rfl rfl rfl el23 agg50 sz50 (.inl rfl) (by omega) (hp) fun p ces hces=>?_
   have hces:ces=ptV pa:=hces
   subst hces
   simp only[ptV,ofCells,if_true,List.toList_toArray,sr]
   simp only[E,F,J,M,R,Tz,V,X,Y,reduceIte,G,H,sz]
   refine WQ.nil ?_
   refine WO.callM (fun x:Nat×Nat×Nat=>.func (.func 142) #[] #[.pointer (some ⟨x.1,0,none⟩),.pointer (some ⟨x.2.1,0,none⟩),.pointer (some ⟨x.2.2,0,none⟩)]) (fun lo x s9=>(At s9 ⟨x.1,0,none⟩ (scl a s)∧At s9 ⟨x.2.1,0,none⟩ [iv (srcOf pa)]∧At s9 ⟨x.2.2,0,none⟩ [iv pa.id,iv pa.sec,iv pa.src,iv pa.oct,iv pa.desks,iv pa.sa,iv pa.sb,iv pa.low.1,iv pa.low.2.1,iv pa.low.2.2,iv pa.high.1,iv pa.high.2.1,iv pa.high.2.2])∧(lo≤x.1∧lo≤x.2.1∧lo≤x.2.2)∧x.1<s9.heap.size∧x.2.1<s9.heap.size∧x.2.2<s9.heap.size) dn rfl rfl rfl co88 (fun ρ w1 hb=>played_spec w1 a s pa) fun x lo s9 hx=>?_
   obtain⟨z1,z2,z3⟩:=x
   simp only at hx
   simp only[E,F,J,M,R,Tz,V,X,Y,reduceIte,G,H,sz]
   refine WO.nil ?_
   refine k9 _ ?_
   refine W.block ?_
   refine W.pinA (by simp[smallO]) fun β=>?_
   obtain⟨b0,hb0⟩:∃ b0,β 0=b0:=⟨_,rfl⟩
   obtain⟨b1,hb1⟩:∃ b1,β 1=b1:=⟨_,rfl⟩
   simp only[pinEn,pinOw,pinOw_box,den,denL,Nat.zero_add,J,hb0,hb1]
   refine W.ownNil 89 12 ?_
   simp only[Bool.false_eq_true,E,F,J,M,R,Tz,V,X,Y,reduceIte,St.pushO,List.cons_append,List.nil_append,sz]
   refine W.rangeZ (X:=List Nt×Option Addr×Nat) (Y:=Nat) (w0:=w) (s0:=w) (playsL s pa).length false (fun k:Nat=>[ntA ((playsL s pa).getD k (zeroN 0))]) (fun k y _ _=>y=k) [8] (fun x=>[boxO 26 b0 (scl a s),boxO 24 b1 [.slice x.2.1 x.1.length x.2.2],.slice 89 12 (.slice x.2.1 x.1.length x.2.2) x.1.length (rowV ntV x.1)]) (fun _=>[]) (fun k x=>x.1=(playsL s pa).take k) (fun _=>False) ([],none,0) [] (fun _=>False) (fun k x y=>[(9,.loc 3 0),(8,.val (.pointer (some ⟨b1,0,none⟩)))]) (fun k x y=>[.cells 89 (ntw ((playsL s pa).getD y (zeroN 0)))]) [] rfl (by kernel_rfl) (by simp[keepE,getE,bnd]) rfl ?_ (by intro t h;simp only[List.mem_singleton] at h;subst h;show 29<35;decide) (by decide) (fun _=>rfl) (fun _ h=>h.elim) rfl rfl ?_ ?_ ?_ (fun h=>by cases h) (by simp) (by simp) hM ?_ (fun h=>by cases h)
   ·
    intro x o ho;simp only[List.append_nil,List.mem_cons,List.not_mem_nil,or_false] at ho
    rcases ho with rfl | rfl | rfl<;>rfl
   ·
    intro ρ w1 hb w2 hk hlt hap
    have hm1:((fun b=>lo≤b),s9)∈[((fun b=>lo≤b),s9),((fun b=>b∈([]:List Nat)),w),((fun _=>True),w)]:=by simp
    have hm0:((fun _=>True),w)∈[((fun b=>lo≤b),s9),((fun b=>b∈([]:List Nat)),w),((fun _=>True),w)]:=by simp
    have hfr:∀ o,o∈[boxO 26 b0 (scl a s),boxO 24 b1 [.slice (([],none,0):List Nt×Option Addr×Nat).2.1 (([],none,0):List Nt×Option Addr×Nat).1.length (([],none,0):List Nt×Option Addr×Nat).2.2],.slice 89 12 (.slice (([],none,0):List Nt×Option Addr×Nat).2.1 (([],none,0):List Nt×Option Addr×Nat).1.length (([],none,0):List Nt×Option Addr×Nat).2.2) (([],none,0):List Nt×Option Addr×Nat).1.length (rowV ntV (([],none,0):List Nt×Option Addr×Nat).1)]→freeO o=true:=by
     intro o ho;simp only[List.mem_cons,List.not_mem_nil,or_false] at ho
     rcases ho with rfl | rfl | rfl<;>rfl
    exact played1_iter (S:=fun b=>b<w.heap.size) (snap_at hb hm1 hk hx.1.1 hx.2.1.1 hx.2.2.1) (snap_lt hb hm1 hk hx.2.2.1) (snap_at hb hm1 hk hx.1.2.1 hx.2.1.2.1 hx.2.2.2.1) (snap_lt hb hm1 hk hx.2.2.2.1) (snap_at hb hm1 hk hx.1.2.2 hx.2.1.2.2 hx.2.2.2.2) (snap_lt hb hm1 hk hx.2.2.2.2)
     (Rp.now (Rp.now hlw (hb.first hm0)) hk) (fun b hb9 _=>snap_apart (S:=fun _=>True) hb hm0 hfr (fun _ _ h=>h) trivial hb9) (snap_apart hb hm1 hfr (fun _ _ h=>h) hx.2.1.1 hx.2.2.1) (snap_apart hb hm1 hfr (fun _ _ h=>h) hx.2.1.2.1 hx.2.2.2.1) (snap_apart hb hm1 hfr (fun _ _ h=>h) hx.2.1.2.2 hx.2.2.2.2) hok.notes.all (hok.parts.all pa (List.mem_of_getElem? hp))
   ·
    intro ll k x y L S sw hV hSL
    simp only[zipE,ntA,List.cons_append,List.nil_append]
    refine W.region ?_
    refine WO.go 2 dn ?_
    simp only[E,F,J,M,R,Tz,V,X,Y,reduceIte,sxk,G,H,sz]
    refine WO.nil ?_
    exact⟨rfl,by simp[getE,bnd,keepE],⟨[],by simp⟩,by simp[Own.bnd,bndL,bnd,boxO],by simp⟩
   ·
    intro ll k x y L0 L S sw S2 s2 hk hIx hV hSL hL0 hsL hLs hLS hLw
    obtain⟨xs,q5,c5⟩:=x
    simp only at hIx hV
    subst hV
    obtain⟨u,hu⟩:=len_lt (rfl:(playsL s pa).length=_) hk
    have hyd:(playsL s pa).getD y (zeroN 0)=u:=by rw[List.getD_eq_getElem?_getD,hu];rfl
    have hpl2:(playsL s pa).length≤20000:=by
     have h9:(playsL s pa).length≤s.notes.length:=by unfold playsL;rw[List.length_map];exact List.length_filter_le _ _
     have:=hok.notes.len;omega
    have hxl:xs.length=y:=by rw[hIx,List.length_take];omega
    simp only[hyd]
    have hKr10:=onN_i fun t=>(∃ x':List Nt×Option Addr×Nat,x'.1=(playsL s pa).take (y+1)∧(∀ p,p∈([]:List ((Nat→Prop)×World))→∀ b,p.1 b→L0≤b)∧Le t ⟨35,[],[boxO 26 b0 (scl a s),boxO 24 b1 [.slice x'.2.1 x'.1.length x'.2.2],.slice 89 12 (.slice x'.2.1 x'.1.length x'.2.2) x'.1.length (rowV ntV x'.1)],(S,sw)::(S2,s2)::([]++[((fun b=>lo≤b),s9),((fun b=>b∈([]:List Nat)),w),((fun _=>True),w)]),[]⟩)
    refine W.block ?_
    refine W.region ?_
    refine WO.loadBox (k:=1) (i:=0) (sz:=1) rfl dn rfl rfl rfl rfl (by simp[Addr.add_mid]) (by simp) agg24 sz24 (.inr rfl) ?_
    simp only[ofCells,if_true,List.toList_toArray,sr]
    refine WO.go 2 dn ?_
    simp only[E,F,J,M,R,Tz,V,X,Y,reduceIte,G,H,sz]
    refine WO.append (k:=2) (m:=1) [iv u.id,iv u.part,iv u.bar,iv u.voice,iv u.ossia,iv u.start.1,iv u.start.2,iv u.len.1,iv u.len.2,iv u.pit.1,iv u.pit.2.1,iv u.pit.2.2] dn rfl rfl rfl rfl rfl rfl ek24 (news_own (k2:=4) rfl fun _=>rfl) rfl (by simp[Value.oneCell']) (by rw[maxLen_eq];omega) (by omega) fun p6 c6=>?_
    simp only[E,F,J,M,R,Tz,V,X,Y,reduceIte,G,H,sz]
    refine WO.storeBox (k:=1) (i:=0) rfl dn rfl rfl rfl rfl (by simp[Addr.add_mid]) (by simp) rfl rfl sz24 ?_
    simp only[E,F,J,M,R,Tz,V,X,Y,reduceIte,G,H,sz]
    refine WO.nil ?_
    refine hKr10 _ ?_
    refine⟨(xs++[u],p6,c6),?_,(fun p hp=>by cases hp),⟨rfl,by simp,⟨_,by simp[row_snoc,ntV];rfl⟩,by simp[Own.bnd,bndL,bnd,boxO],fun p hp=>by simp only[List.nil_append] at hp ⊢;exact hp⟩⟩
    simp only
    rw[List.take_add_one,hu,hIx];rfl
   intro _ D2 s3 x hIx hM2
   obtain⟨xs,q5,c5⟩:=x
   simp only at hIx
   rw[List.take_length] at hIx
   subst hIx
   refine k8 _ ?_
   simp only[E,F,J,M,R,Tz,V,X,Y,reduceIte,sxk,G,H,sz]
   refine W.seqK fun K11 k11=>W.region ?_
   refine WO.loadBox (k:=1) (i:=0) (sz:=1) rfl dn rfl rfl rfl rfl (by simp[Addr.add_mid]) (by simp) agg24 sz24 (.inr rfl) ?_
   simp only[ofCells,if_true,List.toList_toArray,sr]
   refine WO.go 2 dn ?_
   simp only[E,F,J,M,R,Tz,V,X,Y,reduceIte,G,H,sz]
   refine WO.nil ?_
   refine k11 _ ?_
   refine W.ret ?_
   refine⟨by simp,⟨[D2],s3,rfl,by simp,hM2⟩,RunR.ex ?_⟩
   simp only[E,F,J,M,R,Tz,V,X,Y,reduceIte,sxr,G,H,sz]
   intro ρ w1 hb
   exact⟨(q5,c5),rfl,owr_read (j:=2) (T:=89) (k:=12) (f:=ntV) (h:=fun _=>rfl) hb rfl (fun b9 h9=>own_new (k:=2) hb (by simp) rfl h9)⟩
theorem GN.keep {w w1:World} {S:Nat→Prop} (h:GN w) (hk:Keep S w w1) (hS:S 0):GN w1:=⟨h.1.frame (hk.block _ hS h.2),Nat.lt_of_lt_of_le h.2 hk.size⟩
theorem apart_of {own own0 it:List Go.SX.Own} {sz:Nat} (he:own=own0++it) (hlt:∀ b,(∃ (j:Nat) (o:Go.SX.Own),own[j]?=some o∧o.num (fun _=>0) 0=some b)→b<sz) (hap:∀ (i j:Nat) (oi oj:Go.SX.Own) b,own[i]?=some oi→own[j]?=some oj→oi.num (fun _=>0) 0=some b→oj.num (fun _=>0) 0=some b→i=j) {j:Nat} {o:Go.SX.Own} {b:Nat} (hj:own[j]?=some o) (hge:own0.length≤j) (hn:o.num (fun _=>0) 0=some b):¬ (ofOwn own0 b∨sz≤b):=by
 rintro (⟨i,o',h1,h2⟩ | h)
 ·
  have h3:=(List.getElem?_eq_some_iff.1 h1).1
  have:=hap i j o' o b (by rw[he,List.getElem?_append_left h3];exact h1) hj h2 hn
  omega
 · have:=hlt b ⟨j,o,hj,hn⟩;omega
theorem WI.freshP {P:Program} {ops:Array Oper} {Q:Exit→St→Prop} {σ:St} {l:List Oper} (kp:List Nat) (own' ex:List Go.SX.Own) (ho:σ.own=own'++ex) (hb:((keepE σ.env kp).all fun p=>bnd own'.length p.2)=true) (hbo:∀ o,o∈own'→Go.SX.Own.bnd own'.length o=true) (h:WI P ops Q l ⟨σ.n,keepE σ.env kp,own',σ.snaps,σ.dfs⟩):WI P ops Q l σ:=fun ρ a w hs=>
 h ρ a w (hs.le (σ':=⟨σ.n,keepE σ.env kp,own',σ.snaps,σ.dfs⟩) ⟨rfl,fun p hp=>⟨keepE_mem hp,List.all_eq_true.1 hb p hp⟩,⟨ex,ho⟩,hbo,fun p hp=>hp⟩)
theorem tw_cons {p:Pt} {k:Int} {q:Nt→Bool} {y:Nt} {l:List Nt} (h:q y=true):((y::l).takeWhile q).map (wtOf p k)=wtOf p k y::(l.takeWhile q).map (wtOf p k):=by rw[List.takeWhile_cons,if_pos h,List.map_cons]
theorem dw_cons {q:Nt→Bool} {y:Nt} {l:List Nt} (h:q y=true):(y::l).dropWhile q=l.dropWhile q:=by rw[List.dropWhile_cons,if_pos h]
theorem msF_drop {p:Pt} {bars:List Br} {rest pl:List Nt} {i:Nat} {b:Br} (hb:bars[i]?=some b) (h:msF p (bars.drop i) rest=(msF p bars pl).drop i):(msF p bars pl)[i]?=some ⟨b.id,(keyF p.sa p.sb p.low p.high b.key).1,b.len,(rest.takeWhile fun n=>n.bar == b.id).map (wtOf p b.key)⟩∧msF p (bars.drop (i+1)) (rest.dropWhile fun n=>n.bar == b.id)=(msF p bars pl).drop (i+1):=by
 obtain⟨hi,he⟩:=List.getElem?_eq_some_iff.1 hb
 have hd:bars.drop i=b::bars.drop (i+1):=by rw[← List.getElem_cons_drop hi,he]
 rw[hd,msF] at h
 have h2:(msF p bars pl)[i]?=((msF p bars pl).drop i)[0]?:=by rw[List.getElem?_drop,Nat.add_zero]
 refine⟨by rw[h2,← h];rfl,?_⟩
 have h3:(msF p bars pl).drop (i+1)=((msF p bars pl).drop i).drop 1:=by rw[List.drop_drop]
 rw[h3,← h];rfl
theorem measures_spec (w:World) (a:ScA) (s:Sc) (pa:Pt) (q:Option Addr) (n c:Nat):Gives Tryz.prog 44 #[(ptq pa),scV a s,.slice q n c] w fun r w'=>∃ x:Nat×Nat×Nat,r=.func (.func 91) #[] #[.pointer (some ⟨x.1,0,none⟩),.pointer (some ⟨x.2.1,0,none⟩),.pointer (some ⟨x.2.2,0,none⟩)]∧True∧(∀ (j:Nat) (o:Go.SX.Own),[boxO 26 x.1 (scl a s),boxO 24 x.2.1 [.slice q n c],boxO 112 x.2.2 [iv pa.id,iv pa.sec,iv pa.src,iv pa.oct,iv pa.desks,iv pa.sa,iv pa.sb,iv pa.low.1,iv pa.low.2.1,iv pa.low.2.2,iv pa.high.1,iv pa.high.2.1,iv pa.high.2.2]][j]?=some o→o.holds (fun _=>0) 0 w'∧∀ b,o.num (fun _=>0) 0=some b→w.heap.size≤b)∧∀ (i j:Nat) (oi oj:Go.SX.Own) b,[boxO 26 x.1 (scl a s),boxO 24 x.2.1 [.slice q n c],boxO 112 x.2.2 [iv pa.id,iv pa.sec,iv pa.src,iv pa.oct,iv pa.desks,iv pa.sa,iv pa.sb,iv pa.low.1,iv pa.low.2.1,iv pa.low.2.2,iv pa.high.1,iv pa.high.2.1,iv pa.high.2.2]][i]?=some oi→[boxO 26 x.1 (scl a s),boxO 24 x.2.1 [.slice q n c],boxO 112 x.2.2 [iv pa.id,iv pa.sec,iv pa.src,iv pa.oct,iv pa.desks,iv pa.sa,iv pa.sb,iv pa.low.1,iv pa.low.2.1,iv pa.low.2.2,iv pa.high.1,iv pa.high.2.1,iv pa.high.2.2]][j]?=some oj→oi.num (fun _=>0) 0=some b→oj.num (fun _=>0) 0=some b→i=j:=by
 unfold scV
 refine gives_of [.agg (ptw pa),.agg (scw a s),.val (.slice q n c)] 8 [.tmp 6] Tryz.func44 rfl rfl rfl (by simp) rfl rfl ?_
 refine W.pure dn fun K1 k1=>?_
 simp only[E,F,J,M,R,Tz,V,X,Y,reduceIte,G,H,sz];refine k1 _ ?_
 refine W.pure dn fun K2 k2=>?_
 simp only[E,F,J,M,R,Tz,V,X,Y,reduceIte,G,H,sz];refine k2 _ ?_
 refine W.ret ⟨by simp,_,rfl,fun ρ w1 hb=>?_⟩
 have e0:=own_new (w0:=w) (k:=0) (b:=ρ 0) hb (by simp) rfl rfl
 have e1:=own_new (w0:=w) (k:=1) (b:=ρ 1) hb (by simp) rfl rfl
 have e2:=own_new (w0:=w) (k:=2) (b:=ρ 2) hb (by simp) rfl rfl
 have d01:=own_apart hb (i:=0) (j:=1) (x:=ρ 0) (y:=ρ 1) rfl rfl rfl rfl (by decide)
 have d02:=own_apart hb (i:=0) (j:=2) (x:=ρ 0) (y:=ρ 2) rfl rfl rfl rfl (by decide)
 have d12:=own_apart hb (i:=1) (j:=2) (x:=ρ 1) (y:=ρ 2) rfl rfl rfl rfl (by decide)
 have f0:=hb.own 0 _ rfl ρ (Agree.refl _ _)
 have f1:=hb.own 1 _ rfl ρ (Agree.refl _ _)
 have f2:=hb.own 2 _ rfl ρ (Agree.refl _ _)
 simp only[Go.SX.Own.holds,denL,den] at f0 f1 f2
 refine⟨(ρ 1,ρ 2,ρ 0),rfl,trivial,fun j o hj=>?_,fun i j oi oj b h1 h2 h3 h4=>?_⟩
 ·
  rcases j with _ | _ | _ | j
  ·
   simp only[List.getElem?_cons_zero,Option.some.injEq] at hj;subst hj
   exact⟨boxO_holds (by rw[maxLen_eq];simp) f1,fun b h=>by simp only[boxO_num,Option.some.injEq] at h;omega⟩
  ·
   simp only[List.getElem?_cons_succ,List.getElem?_cons_zero,Option.some.injEq] at hj;subst hj
   exact⟨boxO_holds (by rw[maxLen_eq];simp) f2,fun b h=>by simp only[boxO_num,Option.some.injEq] at h;omega⟩
  ·
   simp only[List.getElem?_cons_succ,List.getElem?_cons_zero,Option.some.injEq] at hj;subst hj
   exact⟨boxO_holds (by rw[maxLen_eq];simp) f0,fun b h=>by simp only[boxO_num,Option.some.injEq] at h;omega⟩
  · simp at hj
 · rcases i with _ | _ | _ | i<;>rcases j with _ | _ | _ | j<;>simp only[List.getElem?_cons_succ,List.getElem?_cons_zero,List.getElem?_nil,Option.some.injEq,reduceCtorEq] at h1 h2<;>subst h1<;>subst h2<;>simp only[boxO_num,Option.some.injEq] at h3 h4<;>omega
def msA (y:Ms×Option Addr×Nat):Value:=.agg #[.int .i64 y.1.bar,.int .i64 y.1.key,.int .i64 y.1.len.1,.int .i64 y.1.len.2,.slice y.2.1 y.1.notes.length y.2.2]
def MsV (pa:Pt) (bars:List Br) (pl:List Nt) (k:Nat) (y:Ms×Option Addr×Nat) (L:Nat) (W:World):Prop:=(msF pa bars pl)[k]?=some y.1∧rWts.rd (fun b=>L≤b) W [.slice y.2.1 y.1.notes.length y.2.2] y.1.notes
def headB:List Nt→Int→Bool
 | [],_=>false
 | n::_,i=>n.bar == i
theorem headB_no {l:List Nt} {i:Int} (h:headB l i=false):(l.takeWhile fun n=>n.bar == i)=[]∧(l.dropWhile fun n=>n.bar == i)=l:=by
 cases l with
 | nil=>exact⟨rfl,rfl⟩
 |
  cons n l=>
  have h':(n.bar == i)=false:=h
  rw[List.takeWhile_cons,List.dropWhile_cons]
  simp[h']
theorem headB_yes {l:List Nt} {i:Int} (h:headB l i=true):∃ u r,l=u::r∧(u.bar == i)=true:=by
 cases l with
 | nil=>cases h
 | cons n l=>exact⟨n,l,rfl,h⟩
abbrev D65_:List (Option Nat):=[some 15,some 16,some 17,some 18,some 19,some 20,some 21,some 22,some 23,some 24,some 25,some 26]
theorem measures1_iter {S:Nat→Prop} {w:World} {b1 b2 b3:Nat} {a:ScA} {s:Sc} {pa:Pt} {B:Nat→Prop} {p0:Option Addr} {c0:Nat} {pl:List Nt} (hN:GN w) (h1:At w ⟨b1,0,none⟩ (scl a s)) (hb1l:b1<w.heap.size) (h2:w.heap[b2]?=some (.cells #[.slice p0 pl.length c0] 24 (0,0))) (h3:At w ⟨b3,0,none⟩ [.int .i64 pa.id,.int .i64 pa.sec,.int .i64 pa.src,.int .i64 pa.oct,.int .i64 pa.desks,.int .i64 pa.sa,.int .i64 pa.sb,.int .i64 pa.low.1,.int .i64 pa.low.2.1,.int .i64 pa.low.2.2,.int .i64 pa.high.1,.int .i64 pa.high.2.1,.int .i64 pa.high.2.2]) (hb3l:b3<w.heap.size)
  (hl:rBrs.rd S w [.slice a.b.1 s.bars.length a.b.2] s.bars) (hl2:rNts.rd S w [.slice p0 pl.length c0] pl) (hS:∀ b,S b→b<w.heap.size→¬ B b∧b≠b2) (hb1:¬ B b1∧b1≠b2) (hb2:¬ B b2) (hb3:¬ B b3∧b3≠b2) (hG:¬ B 0∧0≠b2) (hpl:pl.length≤20000) :
  IterZ Tryz.prog 91 #[.pointer (some ⟨b1,0,none⟩),.pointer (some ⟨b2,0,none⟩),.pointer (some ⟨b3,0,none⟩)] s.bars.length false (fun y=>[msA y]) (MsV pa s.bars pl) (fun b=>b∈[b2]) B w:=by
 intro ll Ji Jx hst _ hY _ hJ0
 have hlb:(Rp.slice rBr).rd (fun b=>¬ B b∧¬ b∈[b2]) w [.slice a.b.1 s.bars.length a.b.2] s.bars:=Rp.mono _ hl fun b hb hlt=>by simpa using hS b hb hlt
 have hln:(Rp.slice rNt).rd (fun b=>¬ B b∧¬ b∈[b2]) w [.slice p0 pl.length c0] pl:=Rp.mono _ hl2 fun b hb hlt=>by simpa using hS b hb hlt
 obtain⟨_,_,hq9,hc1,hc2⟩:=Rp.slice_val hl
 have hlen9:s.bars.length≤9223372036854775807:=by
  simp only[Value.slice.injEq] at hq9
  omega
 have hb1':(fun b=>¬ B b∧¬ b∈[b2]) b1:=by simpa using hb1
 have hb3':(fun b=>¬ B b∧¬ b∈[b2]) b3:=by simpa using hb3
 have hG':(fun b=>¬ B b∧¬ b∈[b2]) 0:=by simpa using hG
 refine iter_of (R:=fun w'=>(false=false→∃ L,Ji s.bars.length L w')∧(false=true→Jx w')) [(b2,24,[.slice p0 pl.length c0])] [.val (.func (.yield ll) #[] #[]),.val (.pointer (some ⟨b1,0,none⟩)),.val (.pointer (some ⟨b2,0,none⟩)),.val (.pointer (some ⟨b3,0,none⟩))] 46 B Tryz.func91 rfl rfl rfl (by simp) rfl rfl (fun x hx=>by rw[List.mem_singleton] at hx;subst hx;exact⟨by rw[maxLen_eq];simp,h2⟩) (by simp) ?_
 show W Tryz.prog _ _ ⟨46,initE 0 _,[boxO 24 b2 [.slice p0 pl.length c0]],[((fun b=>¬ b∈[b2]),w),((fun b=>¬ B b∧¬ b∈[b2]),w)],[]⟩
 refine W.seqK fun K1 k1=>W.region ?_
 refine WO.go 1 dn ?_
 simp only[E,F,J,M,R,Tz,V,X,Y,reduceIte,G,H,sz]
 refine WO.q dn rfl rfl (QR.load [.slice a.b.1 s.bars.length a.b.2] false rfl rfl agg22 sz22 (.inr rfl) (fun ρ w1 hb=>((h1.part 1 1)).frame ((hb.at (S:=(fun b=>¬ B b∧¬ b∈[b2])) (s:=w) (by simp[St.put,initE])).block _ (by rw[add_blk];exact hb1') (by rw[add_blk];exact hb1l)))) ?_
 simp only[ofCells,if_true,List.toList_toArray,sr]
 refine WO.go 2 dn ?_
 simp only[E,F,J,M,R,Tz,V,X,Y,reduceIte,G,H,sz]
 refine WO.nil ?_
 refine k1 _ ?_
 refine W.block ?_
 refine W.loopO (X:=Nat×World×List Nt×Option Addr×Nat) [0,2,3,9,10] (fun x9=>[(11,.val (.int .i64 (x9.1:Int)))]) (fun x9=>[boxO 24 b2 [.slice x9.2.2.2.1 x9.2.2.1.length x9.2.2.2.2]]) (fun x9=>[((fun b=>¬ b∈[b2]),x9.2.1),((fun b=>¬ B b∧¬ b∈[b2]),w)]) (fun x9=>x9.1≤s.bars.length∧Ji x9.1 x9.2.1.heap.size x9.2.1∧msF pa (s.bars.drop x9.1) x9.2.2.1=(msF pa s.bars pl).drop x9.1∧rNts.rd (fun b=>¬ B b∧¬ b∈[b2]) w [.slice x9.2.2.2.1 x9.2.2.1.length x9.2.2.2.2] x9.2.2.1∧x9.2.2.1.length≤20000) (fun x9=>s.bars.length - x9.1) (0,w,pl,p0,c0) ?_ ?_ ?_
 · exact⟨rfl,by simp[getE,bnd,keepE],⟨[],by simp⟩,by simp[Own.bnd,bndL,bnd,boxO],by simp⟩
 ·
  exact⟨Nat.zero_le _,hJ0,rfl,hln,hpl⟩
 ·
  rintro⟨i,sw,rest,pr,cr⟩ ⟨hi,hJi,hms,hrd,hrl⟩
  simp only at hi hJi hms hrd hrl
  simp only[E,F,J,M,R,Tz,V,X,Y,reduceIte,sxk,G,H,sz]
  refine W.pure dn fun K2 k2=>?_
  simp only[E,F,J,M,R,Tz,V,X,Y,reduceIte,G,H,sz];refine k2 _ ?_
  refine W.seqK fun K3 k3=>?_
  refine W.cond rfl rfl (fun hc=>?_) fun hc=>?_
  ·
   have hlt:i<s.bars.length:=by simpa using hc
   obtain⟨y,hy⟩:=len_lt (rfl:s.bars.length=_) hlt
   obtain⟨hmg,hmd⟩:=msF_drop hy hms
   refine W.skip (k3 _ ?_)
   refine W.seqK fun K4 k4=>?_
   refine W.block ?_
   refine W.seqK fun K5 k5=>W.region ?_
   refine WO.elem (y:=y) hlb (by simp[St.put]) dn rfl rfl (by simp[St.put]) (fun _=>rfl) rfl rfl rfl rfl rfl el22 agg75 sz75 (.inl rfl) (by omega) (hy) fun p ces hces=>?_
   have hces:ces=brV y:=hces
   subst hces
   simp only[brV,ofCells,if_true,List.toList_toArray,sr]
   refine WO.go 2 dn ?_
   simp only[E,F,J,M,R,Tz,V,X,Y,reduceIte,G,H,sz]
   refine WO.nil ?_
   refine k5 _ ?_
   refine W.pure dn fun K6 k6=>?_
   simp only[E,F,J,M,R,Tz,V,X,Y,reduceIte,G,H,sz];refine k6 _ ?_
   refine W.seqK fun K7 k7=>?_
   refine W.block ?_
   refine W.ownNil 62 10 ?_
   simp only[Bool.false_eq_true,E,F,J,M,R,Tz,V,X,Y,reduceIte,St.pushO,List.cons_append,List.nil_append,sz]
   refine W.loopO (X:=List Wt×List Nt×(Option Addr×Nat)×Option Addr×Nat) [0,2,3,6,9,10,11] (fun x8=>[(7,.val (.slice x8.2.2.1.1 x8.1.length x8.2.2.1.2))]) (fun x8=>[boxO 24 b2 [.slice x8.2.2.2.1 x8.2.1.length x8.2.2.2.2],.cells 75 [.val (.int .i64 y.id),.val (.int .i64 y.len.1),.val (.int .i64 y.len.2),.val (.int .i64 y.key)],.slice 62 10 (.slice x8.2.2.1.1 x8.1.length x8.2.2.1.2) x8.1.length (rowV wtV x8.1)]) (fun x8=>[((fun b=>¬ b∈[b2]),sw),((fun b=>¬ B b∧¬ b∈[b2]),w)]) (fun x8=>x8.1++(x8.2.1.takeWhile (fun n:Nt=>n.bar == y.id)).map (wtOf pa y.key)=(rest.takeWhile (fun n:Nt=>n.bar == y.id)).map (wtOf pa y.key)∧x8.2.1.dropWhile (fun n:Nt=>n.bar == y.id)=rest.dropWhile (fun n:Nt=>n.bar == y.id)∧rNts.rd (fun b=>¬ B b∧¬ b∈[b2]) w [.slice x8.2.2.2.1 x8.2.1.length x8.2.2.2.2] x8.2.1∧x8.1.length+x8.2.1.length≤20000) (fun x8=>x8.2.1.length) ([],rest,(none,0),pr,cr) ?_ ?_ ?_
   · exact⟨rfl,by simp[getE,bnd,keepE],⟨[],by simp[rowV]⟩,by simp[Own.bnd,bndL,bnd,boxO],by simp⟩
   ·
    exact⟨rfl,rfl,hrd,by simp only[List.length_nil];omega⟩
   ·
    rintro⟨ws,r2,⟨qw,cw⟩,p2,c2⟩ ⟨hw1,hw2,hrd2,hl9⟩
    simp only at hw1 hw2 hrd2 hl9
    simp only[E,F,J,M,R,Tz,V,X,Y,reduceIte,sxk,G,H,sz]
    refine W.seqK fun K8 k8=>?_
    refine W.join 26 (.val (.bool (headB r2 y.id))) [0,2,3,6,7,9,10,11] (W.regionQ mixed (by kernel_rfl) ?_) ?_
    ·
     refine WQ.q (ds:=D65_) rfl rfl rfl (QR.load [.slice p2 r2.length c2] false rfl rfl agg24 sz24 (.inr rfl) (fun ρ w1 hb=>box_at (k:=0) hb rfl)) ?_
     simp only[ofCells,sr]
     refine WQ.go 3 (ds:=D65_) rfl ?_
     simp only[E,F,J,M,R,Tz,V,X,Y,reduceIte,sxq,G,H,sz]
     refine WQ.cases 18 _ rfl (fun hg18=>?_) fun hg18=>?_
     ·
      obtain⟨u,r3,rfl⟩:∃ u r3,r2=u::r3:=by
                                    cases r2 with
                                    | nil=>simp at hg18
                                    | cons u r3=>exact⟨u,r3,rfl⟩
      refine WQ.q (ds:=D65_) rfl rfl rfl (QR.load [.slice p2 (u::r3).length c2] false rfl rfl agg24 sz24 (.inr rfl) (fun ρ w1 hb=>box_at (k:=0) hb rfl)) ?_
      simp only[ofCells,sr]
      simp only[E,F,J,M,R,Tz,V,X,Y,reduceIte,G,H,sz]
      refine WQ.elemF (y:=u) hrd2 (by simp[St.put]) (ds:=D65_) rfl rfl rfl (by simp[St.put]) (fun _=>rfl) rfl (by simp[St.put]) (fun _ _=>rfl) rfl rfl rfl rfl rfl rfl el24 fo89_2 agg3 sz3 (Nat.le_of_ble_eq_true rfl) (.inr rfl) (by omega) (rfl) fun p q ces hces=>?_
      have hces:ces=ntV u:=hces
      subst hces
      simp only[ntV,ofCells,if_true,List.toList_toArray,sr]
      refine WQ.go 4 (ds:=D65_) rfl ?_
      simp only[E,F,J,M,R,Tz,V,X,Y,reduceIte,sxq,G,H,sz]
      refine WQ.nil ?_
      refine⟨rfl,?_,⟨_,rfl⟩,by simp[Own.bnd,bndL,bnd,boxO],by simp⟩
      unfold headB
      try simp[getE,bnd,keepE]
     ·
      obtain rfl:r2=[]:=by
                                    cases r2 with
                                    | nil=>rfl
                                    | cons u r3=>simp at hg18
      refine WQ.go 8 (ds:=D65_) rfl ?_
      simp only[E,F,J,M,R,Tz,V,X,Y,reduceIte,sxq,G,H,sz]
      refine WQ.nil ?_
      refine⟨rfl,?_,⟨_,rfl⟩,by simp[Own.bnd,bndL,bnd,boxO],by simp⟩
      unfold headB
      try simp[getE,bnd,keepE]
    ·
     simp only[E,F,J,M,R,Tz,V,X,Y,reduceIte,sxk,G,H,sz]
     refine W.cond rfl rfl (fun hc=>?_) fun hc=>?_
     ·
      obtain⟨u,r3,rfl,hub⟩:=headB_yes hc
      rw[tw_cons hub] at hw1
      rw[dw_cons hub] at hw2
      have hl8:=hl9
      simp only[List.length_cons] at hl8
      have hrd3:=Rp.slc (l:=1) (h:=(u::r3).length) hrd2 (by simp) (Nat.le_refl _)
      rw[show((u::r3).drop 1).take ((u::r3).length - 1)=r3 by simp] at hrd3
      obtain⟨p3,c3,he3,_,_⟩:=Rp.slice_val hrd3
      rw[he3] at hrd3
      obtain⟨_,_,hq8,hc8,_⟩:=Rp.slice_val hrd2
      have hc9:(u::r3).length≤c2:=by simp only[Value.slice.injEq] at hq8;omega
      refine W.skip (k8 _ ?_)
      refine W.block ?_
      refine W.seqK fun K10 k10=>?_
      refine W.regionT' 7 [0] [1,2,3,4,5,6] mixed (by kernel_rfl) ?_
      simp only[E,F,J,M,R,Tz,V,X,Y,reduceIte,sxt,List.toList_toArray,G,H,sz]
      refine WQ.q dn rfl rfl (QR.load [.int .i64 pa.id,.int .i64 pa.sec,.int .i64 pa.src,.int .i64 pa.oct,.int .i64 pa.desks,.int .i64 pa.sa,.int .i64 pa.sb,.int .i64 pa.low.1,.int .i64 pa.low.2.1,.int .i64 pa.low.2.2,.int .i64 pa.high.1,.int .i64 pa.high.2.1,.int .i64 pa.high.2.2] true rfl rfl agg112 sz112 (.inl rfl) (fun ρ w1 hb=>(h3).frame ((hb.at (S:=(fun b=>¬ B b∧¬ b∈[b2])) (s:=w) (by simp[St.put,initE])).block _ hb3' hb3l))) ?_
      simp only[ofCells,if_true,List.toList_toArray,sr]
      refine WQ.go 1 dn ?_
      simp only[E,F,J,M,R,Tz,V,X,Y,reduceIte,sxq,G,H,sz]
      refine WQ.q dn rfl rfl (QR.load [.slice p2 (u::r3).length c2] false rfl rfl agg24 sz24 (.inr rfl) (fun ρ w1 hb=>box_at (k:=0) hb rfl)) ?_
      simp only[ofCells,sr]
      simp only[E,F,J,M,R,Tz,V,X,Y,reduceIte,G,H,sz]
      refine WQ.elem (y:=u) hrd2 (by simp[St.put]) dn rfl rfl (by simp[St.put]) (fun _=>rfl) rfl rfl rfl rfl rfl el24 agg89 sz89 (.inl rfl) (by omega) (rfl) fun p ces hces=>?_
      have hces:ces=ntV u:=hces
      subst hces
      simp only[ntV,ofCells,if_true,List.toList_toArray,sr]
      simp only[E,F,J,M,R,Tz,V,X,Y,reduceIte,G,H,sz]
      refine WQ.call (.agg #[.int .i64 (wtOf pa y.key u).id,.int .i64 (wtOf pa y.key u).voice,.int .i64 (wtOf pa y.key u).ossia,.int .i64 (wtOf pa y.key u).start.1,.int .i64 (wtOf pa y.key u).start.2,.int .i64 (wtOf pa y.key u).len.1,.int .i64 (wtOf pa y.key u).len.2,.int .i64 (wtOf pa y.key u).pit.1,.int .i64 (wtOf pa y.key u).pit.2.1,.int .i64 (wtOf pa y.key u).pit.2.2]) dn rfl rfl rfl co92 (fun ρ w1 hb=>vwritten_spec (hN.keep (hb.at (S:=(fun b=>¬ B b∧¬ b∈[b2])) (s:=w) (by simp[St.put])) hG') pa y u) ?_
      simp only[E,F,J,M,R,Tz,V,X,Y,reduceIte,G,H,sz]
      refine WQ.nil ?_
      refine WO.go 1 dn ?_
      simp only[E,F,J,M,R,Tz,V,X,Y,reduceIte,G,H,sz]
      refine WO.append (k:=2) (m:=1) [.int .i64 (wtOf pa y.key u).id,.int .i64 (wtOf pa y.key u).voice,.int .i64 (wtOf pa y.key u).ossia,.int .i64 (wtOf pa y.key u).start.1,.int .i64 (wtOf pa y.key u).start.2,.int .i64 (wtOf pa y.key u).len.1,.int .i64 (wtOf pa y.key u).len.2,.int .i64 (wtOf pa y.key u).pit.1,.int .i64 (wtOf pa y.key u).pit.2.1,.int .i64 (wtOf pa y.key u).pit.2.2] dn rfl rfl rfl rfl rfl rfl ek58 (news_own (k2:=3) rfl fun _=>rfl) rfl (by simp[Value.oneCell']) (by rw[maxLen_eq];omega) (by omega) fun p6 c6=>?_
      refine WO.go 1 dn ?_
      simp only[E,F,J,M,R,Tz,V,X,Y,reduceIte,G,H,sz]
      refine WO.nil ?_
      refine k10 _ ?_
      refine W.region ?_
      refine WO.q dn rfl rfl (QR.load [.slice p2 (u::r3).length c2] false rfl rfl agg24 sz24 (.inr rfl) (fun ρ w1 hb=>box_at (k:=0) hb rfl)) ?_
      simp only[ofCells,sr]
      simp only[E,F,J,M,R,Tz,V,X,Y,reduceIte,G,H,sz]
      refine WO.slc dn rfl rfl rfl rfl el24 rfl rfl (by simp[loS]) (by simp[loS,hiS];omega) (by show((u::r3).length:Int)≤(c2:Int);omega) ?_
      rw[show slcV 12 p2 c2 (loS (some (IntKind.i64,1))).toNat (hiS (r3.length+1) none).toNat=.slice p3 r3.length c3 from by rw[← he3];rfl]
      simp only[E,F,J,M,R,Tz,V,X,Y,reduceIte,G,H,sz]
      refine WO.storeBox (k:=0) (i:=0) rfl dn rfl rfl rfl rfl (by simp[Addr.add_mid]) (by simp) rfl rfl sz24 ?_
      simp only[E,F,J,M,R,Tz,V,X,Y,reduceIte,G,H,sz]
      refine WO.nil ?_
      refine⟨(ws++[wtOf pa y.key u],r3,(p6,c6),p3,c3),⟨by simp only;rw[← hw1];simp,hw2,hrd3,by simp;omega⟩,by simp,rfl,by simp[getE,bnd,keepE],⟨_,by simp[row_snoc,wtV];rfl⟩,by simp[Own.bnd,bndL,bnd,boxO],by simp⟩
     ·
      have hh9:=headB_no hc
      have hwsq:ws=(rest.takeWhile fun n=>n.bar == y.id).map (wtOf pa y.key):=by rw[← hw1,hh9.1];simp
      have hrsq:r2=rest.dropWhile fun n=>n.bar == y.id:=by rw[← hw2,hh9.2]
      refine W.exit (k7 _ ?_)
      refine W.seqK fun K11 k11=>?_
      refine WI.region ?_
      refine WI.pre 5 ?_
      simp only[List.take_succ_cons,List.take_zero,List.drop_succ_cons,List.drop_zero,List.toList_toArray]
      refine WO.go 1 dn ?_
      simp only[E,F,J,M,R,Tz,V,X,Y,reduceIte,G,H,sz]
      refine WO.q dn rfl rfl (QR.load [.int .i64 pa.id,.int .i64 pa.sec,.int .i64 pa.src,.int .i64 pa.oct,.int .i64 pa.desks,.int .i64 pa.sa,.int .i64 pa.sb,.int .i64 pa.low.1,.int .i64 pa.low.2.1,.int .i64 pa.low.2.2,.int .i64 pa.high.1,.int .i64 pa.high.2.1,.int .i64 pa.high.2.2] true rfl rfl agg112 sz112 (.inl rfl) (fun ρ w1 hb=>(h3).frame ((hb.at (S:=(fun b=>¬ B b∧¬ b∈[b2])) (s:=w) (by simp[St.put,initE])).block _ hb3' hb3l))) ?_
      simp only[ofCells,if_true,List.toList_toArray,sr]
      simp only[E,F,J,M,R,Tz,V,X,Y,reduceIte,G,H,sz]
      refine WO.go 2 dn ?_
      simp only[E,F,J,M,R,Tz,V,X,Y,reduceIte,G,H,sz]
      refine WO.call (.agg #[.int .i64 y.id,.int .i64 (keyF pa.sa pa.sb pa.low pa.high y.key).1,.int .i64 y.len.1,.int .i64 y.len.2,.slice qw ws.length cw]) dn rfl rfl rfl co61 (fun ρ w1 hb=>vmeasure_spec (hN.keep (hb.at (S:=(fun b=>¬ B b∧¬ b∈[b2])) (s:=w) (by simp[St.put])) hG') pa y qw ws.length cw) ?_
      simp only[E,F,J,M,R,Tz,V,X,Y,reduceIte,G,H,sz]
      refine WO.freeze [2] 42 (.val (.agg #[.int .i64 y.id,.int .i64 (keyF pa.sa pa.sb pa.low pa.high y.key).1,.int .i64 y.len.1,.int .i64 y.len.2,.slice qw ws.length cw])) rfl rfl (fun S9 s9 v=>v=.agg #[.int .i64 y.id,.int .i64 (keyF pa.sa pa.sb pa.low pa.high y.key).1,.int .i64 y.len.1,.int .i64 y.len.2,.slice qw ws.length cw]∧rWts.rd S9 s9 [.slice qw ws.length cw] ws∧∀ b,S9 b→sw.heap.size≤b) (fun ρ w1 hb=>⟨fun b=>(OWR 62 wtV 10 qw cw ws).num ρ 2=some b,⟨rfl,owr_read (j:=2) (T:=62) (k:=10) (f:=wtV) (h:=fun _=>rfl) hb rfl (fun b h=>h),fun b h=>?_⟩,fun k o b hk hnk hnum hS9=>?_⟩) fun S9 s9 v ⟨hv,hrd9,hL9⟩=>?_
      · exact(hb.keep ((fun b=>¬ b∈[b2]),sw) (by simp[St.put])).2 2 _ b rfl h (fun hm=>by rw[List.mem_singleton] at hm;exact own_apart hb (i:=0) (j:=2) rfl rfl rfl h (by decide) hm.symm)
      · exact absurd (hb.apart k 2 o _ b hk rfl hnum hS9) (fun he=>hnk (by rw[he];simp))
      subst hv
      simp only[E,F,J,M,R,Tz,V,X,Y,reduceIte,sxd,G,H,sz]
      refine WO.nil ?_
      refine⟨rfl,?_⟩
      refine WI.freshP [0,2,3,9,10,11,38,42] [boxO 24 b2 [.slice p2 r2.length c2]] _ rfl rfl (by simp[Own.bnd,bndL,bnd,boxO]) ?_
      simp only[E,F,J,M,R,Tz,V,X,Y,reduceIte,sxk,G,H,sz]
      refine WI.yieldZ1 (v0:=msA ((⟨y.id,(keyF pa.sa pa.sb pa.low pa.high y.key).1,y.len,ws⟩:Ms),qw,cw)) (B:=B) (J':=fun w'=>Ji (i+1) w'.heap.size w') true [((fun b=>¬ B b∧¬ b∈[b2]),w)] (fun b=>b∈[b2]) dn rfl rfl rfl rfl rfl (fun _=>rfl) (fun ρ w1 hb=>?_) (fun p hp=>?_) (fun ρ k o b hk hn=>?_) fun s2 hJ2=>?_
      ·
       refine hY i sw.heap.size ((⟨y.id,(keyF pa.sa pa.sb pa.low pa.high y.key).1,y.len,ws⟩:Ms),qw,cw) w1 hlt ⟨?_,?_⟩ (hst _ _ sw w1 hJi (hb.at (S:=fun b=>¬ b∈[b2]) (s:=sw) (by simp[St.put])))
       · rw[hmg,← hwsq]
       · exact Rp.mono _ (Rp.keep hrd9 (hb.at (S:=S9) (s:=s9) (by simp[St.put]))) fun b hb9 _=>hL9 b hb9
      · rw[List.mem_singleton] at hp;subst hp;exact⟨by simp[St.put],fun b h _=>h.1⟩
      ·
       cases k with
       |
        zero=>
        have he9:o=boxO 24 b2 [.slice p2 r2.length c2]:=(Option.some.inj hk).symm
        subst he9
        simp only[boxO_num,Option.some.injEq] at hn
        subst hn
        exact⟨hb2,by simp⟩
       | succ k=>simp at hk
      simp only[E,F,J,M,R,Tz,V,X,Y,reduceIte,G,H,sz]
      refine WI.pre 1 ?_
      simp only[List.take_succ_cons,List.take_zero,List.drop_succ_cons,List.drop_zero,List.toList_toArray]
      refine WO.go 1 dn ?_
      simp only[E,F,J,M,R,Tz,V,X,Y,reduceIte,G,H,sz]
      refine WO.nil ?_
      refine⟨rfl,WI.nil ?_⟩
      refine k11 _ ?_
      refine W.cond rfl rfl (fun hc=>?_) fun hc=>?_
      ·
       simp at hc
      ·
       refine W.skip (k4 _ ?_)
       refine W.region ?_
       refine WO.go 2 dn ?_
       simp only[E,F,J,M,R,Tz,V,X,Y,reduceIte,G,H,sz]
       refine WO.nil ?_
       refine⟨(i+1,s2,r2,p2,c2),⟨hlt,hJ2,by simp only;rw[hrsq];exact hmd,hrd2,by simp only;omega⟩,by simp only;omega,rfl,by simp[getE,bnd,keepE,wrap_succ (show i+1≤9223372036854775807 by omega)],⟨_,rfl⟩,by simp[Own.bnd,bndL,bnd,boxO],by simp⟩
  ·
   have hJe:Ji s.bars.length sw.heap.size sw:=by
    have h9:i=s.bars.length:=Nat.le_antisymm hi (by simpa using hc)
    rw[← h9];exact hJi
   refine W.exit ?_
   refine⟨by simp,rfl,?_⟩
   try simp only[E,F,J,M,R,Tz,V,X,Y,reduceIte,sxr,G,H,sz]
   intro ρ w1 hb
   exact⟨fun _=>⟨_,hst _ _ _ _ hJe (hb.at (S:=fun b=>¬ b∈[b2]) (by simp))⟩,fun h=>by cases h⟩
end Go.Proofs.YtolmeekbjonbcaaGreatDoor
namespace Go.SX
open Go Go.RowKit
variable [Drw]
section
variable {P:Program} {ops:Array Oper} {Q:Exit→St→Prop} {σ:St} {l:List Oper} {o:Oper} {rest:List Oper} {ds:List (Option Nat)}
def FinN (P:Program) (w0:World) (rs:List ResultVar) (Q:Value→World→Prop) (σ:St):Prop:=
 ((fun _=>True),w0)∈σ.snaps∧∃ ds s0,(σ.dfs=ds.map .mk∧((fun b=>b∈ds),s0)∈σ.snaps∧Marks ds s0 w0)∧∃ s,resSV P σ rs=some s∧∀ ρ w1 w',Base ρ σ w1→Keep (fun b=>b∉ds) w1 w'→Base ρ ⟨σ.n,σ.env,σ.own,[((fun _=>True),w0)],[]⟩ w'→Q (den ρ s) w'
def EndsN (P:Program) (w0:World) (rs:List ResultVar) (Q:Value→World→Prop):Exit→St→Prop
 | .ret,σ=>FinN P w0 rs Q σ
 | .normal,σ=>FinN P w0 rs Q σ
 | _,_=>False
theorem FinN.of {w0:World} {rs:List ResultVar} {Q:Value→World→Prop} (ds:List Nat) (s0:World) (hm:((fun _=>True),w0)∈σ.snaps∧σ.dfs=ds.map .mk∧((fun b=>b∈ds),s0)∈σ.snaps∧Marks ds s0 w0) (h:RunR (resSV P σ rs) fun s=>∀ ρ w1 w',Base ρ σ w1→Keep (fun b=>b∉ds) w1 w'→Base ρ ⟨σ.n,σ.env,σ.own,[((fun _=>True),w0)],[]⟩ w'→Q (den ρ s) w'):FinN P w0 rs Q σ:=by
 cases hr:resSV P σ rs with
 | none=>rw[hr] at h;exact h.elim
 | some s=>rw[hr] at h;exact⟨hm.1,ds,s0,hm.2,s,hr,h⟩
theorem gives_of_marks2 {f:FuncId} {fn:Func} {c:Code} {args:Array Value} {w:World} {Q:Value→World→Prop} (svs:List SV) (n:Nat) (rs:List ResultVar)
  (hf:P.funcs[f]?=some fn) (hb:fn.body=some c) (hn:fn.ntmps=n) (hr:fn.results=rs.toArray) (hl:svs.length≤n) (ha:args=(denL (fun _=>0) svs).toArray) (hbn:bndL 0 svs=true)
  (h:W P c (EndsN P w rs Q) ⟨n,initE 0 svs,[],[((fun b=>b∈([]:List Nat)),w),((fun _=>True),w)],[]⟩):Gives P f args w Q:=by
 refine(callsIn_wide (n:=0)).1 ?_
 refine callsIn_of_wp_marks (F:=Fr none) hf hb trivial ?_
 subst ha
 refine wpIn_mono (h (fun _=>0) _ w ?_) ?_
 ·
  refine⟨by simp[hn];omega,rfl,fun i s hi=>?_,⟨fun k o hk=>by simp at hk,fun i j oi oj b h1=>by simp at h1,fun p hp=>?_⟩⟩
  ·
   obtain⟨k,rfl,hk⟩:=initE_get svs 0 i s hi
   have hkl:k<svs.length:=(List.getElem?_eq_some_iff.1 hk).1
   simp only[Nat.zero_add]
   refine⟨by show k<n;omega,fun ρ' hρ=>?_⟩
   have:denL ρ' svs=denL (fun _=>0) svs:=denL_agree (m:=0) (fun i hi=>by omega) svs hbn
   have hk2:(denL (fun _=>0) svs)[k]?=some (den ρ' s):=by rw[← this,denL_eq];simp[hk]
   rw[Array.getElem?_append_left (by simp;exact hkl)]
   simpa using hk2
  ·
   simp only[List.mem_cons,List.not_mem_nil,or_false] at hp
   rcases hp with rfl | rfl<;>exact⟨Keep.refl _ _,fun k o b hk=>by simp at hk⟩
 ·
  rintro e a' w' ⟨ρ,σ,hs,hq⟩
  have fin:FinN P w rs Q σ→LeavesInM (Fr none) 0 P fn a'.tmps (fun e w'=>∃ v',e=.returned v'∧BelowD w.heap.size w w'∧Q v' w') a'.defers .returning w':=by
   rintro⟨hm,dl,s0,⟨hdl,hs0,hM⟩,s,hs1,hs2⟩
   rw[hs.defers,hdl]
   have hks:=(hs.base.keep _ hs0).1
   have hownd:∀ (k:Nat) (o:Own) b,σ.own[k]?=some o→o.num ρ k=some b→¬ b∈dl:=fun k o b h1 h2 h3=>by
    have:=(hs.base.keep _ hs0).2 k o b h1 h2 h3
    have:=(hM.2 b h3).2.1
    simp only at *;omega
   refine leaves_marks (v:=den ρ s) dl w' hM.1 (fun d hd=>?_) fun w2 hk=>?_
   ·
    obtain⟨_,q2,q3⟩:=hM.2 d hd
    rw[hks.block d hd q2];exact q3
   ·
    have hb2:Base ρ ⟨σ.n,σ.env,σ.own,[((fun _=>True),w)],[]⟩ w2:=by
     refine Base.apartB (σ:=⟨σ.n,σ.env,σ.own,[((fun _=>True),w)],[]⟩) (B:=fun b=>b∈dl) (w:=w') ⟨hs.base.own,hs.base.apart,fun p hp=>?_⟩ hk hownd fun p hp b _ hlt hbd=>?_
     · simp only[List.mem_singleton] at hp;subst hp;exact hs.base.keep _ hm
     ·
      simp only[List.mem_singleton] at hp;subst hp
      have:=(hM.2 b hbd).1
      simp only at *;omega
    have hs':Sat ρ ⟨σ.n,σ.env,σ.own,[((fun _=>True),w)],[]⟩ { tmps:=a'.tmps,defers:=[] } w2:=⟨hs.size,rfl,hs.env,hb2⟩
    have hs1':resSV P ⟨σ.n,σ.env,σ.own,[((fun _=>True),w)],[]⟩ rs=some s:=by
     have key:∀ r,resOne P ⟨σ.n,σ.env,σ.own,[((fun _=>True),w)],[]⟩ r=resOne P σ r:=fun r=>by
      cases r with
      | tmp t=>rfl
      | cell a t=>rfl
     have key2:∀ l,resAll P ⟨σ.n,σ.env,σ.own,[((fun _=>True),w)],[]⟩ l=resAll P σ l:=fun l=>by
      induction l with
      | nil=>rfl
      | cons r l ih=>simp only[resAll,key,ih]
     unfold resSV at hs1 ⊢
     rw[key2];exact hs1
    refine⟨?_,den ρ s,rfl,(hb2.keep ((fun _=>True),w) (by simp)).1.toBelow,hs2 ρ w' w2 hs.base hk hb2⟩
    unfold resSV at hs1'
    cases hra:resAll P ⟨σ.n,σ.env,σ.own,[((fun _=>True),w)],[]⟩ rs with
    | none=>rw[hra] at hs1';cases hs1'
    |
     some ss=>
     have hrun:=run_results hs' rs ss hra
     rw[results_eq,hr]
     simp only[Sem.run_bind,List.mapM_toArray,Sem.run_map,hrun,Result.andThen_ok,Sem.run_pure]
     rw[hra] at hs1'
     match ss,hs1' with
     | [],h1=>simp only[Option.some.injEq] at h1;subst h1;simp[denL,den]
     | [x],h1=>simp only[Option.some.injEq] at h1;subst h1;simp[denL]
     | x::y::l,h1=>simp only[Option.some.injEq] at h1;subst h1;simp[denL,den]
  cases e with
  | normal=>exact fin hq
  | ret=>exact fin hq
  | _=>exact hq.elim
theorem row_no {S D:Nat→Prop} {w:World} {α:Type} {A:Rp α} {p:Option Addr} {n c:Nat} {xs:List α} (hr:(Rp.slice A).rd S w [.slice p n c] xs) (hA:∀ ces x,A.rd S w ces x→0<ces.length∧A.rd (fun b=>S b∧¬ D b) w ces x) (hD:∀ b,D b→∃ d,w.heap[b]?=some (.deferred d)):(Rp.slice A).rd (fun b=>S b∧¬ D b) w [.slice p n c] xs:=by
 obtain⟨p',n',c',h1,h2,h3,h4,h5⟩:=hr
 refine⟨p',n',c',h1,h2,h3,h4,?_⟩
 rcases h5 with h5 | ⟨a,h5,h6,h7,h8⟩
 · exact .inl h5
 ·
  cases xs with
  | nil=>exact .inl rfl
  |
   cons x xs=>
   obtain⟨ces,hc1,hc2⟩:=h8 0 x rfl
   refine .inr ⟨a,h5,⟨h6,fun hd=>?_⟩,h7,fun i y hy=>?_⟩
   ·
    obtain⟨d,hd⟩:=hD _ hd
    have h9:=hc1 0 (ces[0]'(hA ces x hc2).1) (List.getElem?_eq_getElem _)
    unfold World.cell? at h9
    have hbl:((a.add (0*A.sz)).add 0).block=a.block:=by simp only[Addr.add];split<;>(try split)<;>rfl
    rw[hbl,hd] at h9
    cases h9
   ·
    obtain⟨ces,hc1,hc2⟩:=h8 i y hy
    exact⟨ces,hc1,(hA ces y hc2).2⟩
end
end Go.SX
namespace Go.Proofs.YtolmeekbjonbcaaGreatDoor
open Go Go.SX Go.RowKit
variable [Drw]
open Int renaming reduceEq → E, reduceLT → F, reduceBEq → G, reduceBNe → H, reduceNeg → Z1, reduceGT → Z2, reduceLE → Z3, reduceGE → Z4, reduceMul → Z5, reduceMod → Z6, reduceAdd → Z7, reduceTMod → Z8, reduceTDiv → Z9
open Nat renaming reduceAdd → J, reduceSub → M, reduceMul → R, reduceLT → Tz, reduceLeDiff → V, reduceEqDiff → X
open List renaming reduceReplicate → Y
abbrev x1_ (q7:Option Addr) (c7:Nat):List Nt×(Option Addr×Nat)×Int×Int:=([],(q7,c7),0,0)
abbrev x0_:List (Ms×Option Addr×Nat)×Option Addr×Nat×List ((Nat→Prop)×World):=([],none,0,[])
def mzV (z:Ms×Option Addr×Nat):List Value:=[.int .i64 z.1.bar,.int .i64 z.1.key,.int .i64 z.1.len.1,.int .i64 z.1.len.2,.slice z.2.1 z.1.notes.length z.2.2]
theorem snap_own {ρ:Nat→Nat} {σ:St} {w s:World} {S:Nat→Prop} (hb:Base ρ σ w) (hm:(S,s)∈σ.snaps) {j:Nat} {o:Go.SX.Own} {b:Nat} (hj:nth σ.own j=some o) (hn:o.num ρ j=some b) (hS:S b):s.heap.size≤b:=(hb.keep _ hm).2 j o b (by rw[← nth_eq];exact hj) hn hS
def MsI (w:World) (pa:Pt) (bars:List Br) (pl:List Nt) (k:Nat) (x:List (Ms×Option Addr×Nat)×Option Addr×Nat×List ((Nat→Prop)×World)):Prop:=
 x.1.map (·.1)=(msF pa bars pl).take k∧∀ z,z∈x.1→∃ S9 s9,(S9,s9)∈x.2.2.2∧(∀ b,S9 b→w.heap.size≤b)∧rWts.rd S9 s9 [.slice z.2.1 z.1.notes.length z.2.2] z.1.notes
theorem get_spec {S:Nat→Prop} {w:World} {a:ScA} {s:Sc} (hN:GN w) (hs:ScR S w a s) (hok:ScOk s) {i:Nat} {pa:Pt} (hp:s.parts[i]?=some pa):Gives Tryz.prog 15 #[scV a s,iv pa.id] w fun r w'=>∃ z:Sl,r=.tuple #[vwV z (getV s pa),iv 0]∧rMss.rd (fun b=>w.heap.size≤b) w' [.slice z.1 (getV s pa).ms.length z.2] (getV s pa).ms:=by
 have lb:(Rp.slice rBr).rd (fun _=>True) w _ s.bars:=Rp.any hs.b
 have lp:(Rp.slice rPt).rd (fun _=>True) w _ s.parts:=Rp.any hs.p
 have ln:(Rp.slice rNt).rd (fun _=>True) w _ s.notes:=Rp.any hs.n
 have hs9:=hs.any
 have hM:Marks [] w w:=⟨List.nodup_nil,fun d hd=>by cases hd⟩
 have hpl2:(playsL s pa).length≤20000:=by
  have h9:(playsL s pa).length≤s.notes.length:=by unfold playsL;rw[List.length_map];exact List.length_filter_le _ _
  have:=hok.notes.len;omega
 have hlw:(Rp.slice rBr).rd (fun b=>b<w.heap.size) w [.slice a.b.1 s.bars.length a.b.2] s.bars:=Rp.mono _ lb fun b hb hlt=>hlt
 unfold scV
 refine gives_of_marks2 [.agg (scw a s),wv pa.id] 44 [.cell 4 29,.tmp 5] Tryz.func15 rfl rfl rfl (by simp) rfl rfl ?_
 refine W.pure dn fun K1 k1=>?_
 simp only[E,F,J,M,R,Tz,V,X,Y,reduceIte,G,H,sz];refine k1 _ ?_
 refine W.seqK fun K2 k2=>W.region ?_
 refine WO.go 2 dn ?_
 simp only[E,F,J,M,R,Tz,V,X,Y,reduceIte,G,H,sz]
 refine WO.callM (fun x:Option Addr×Nat=>.tuple #[.slice x.1 (playsL s pa).length x.2,iv 0]) (fun lo x s9=>rNts.rd (fun b=>lo≤b) s9 [.slice x.1 (playsL s pa).length x.2] (playsL s pa)) dn rfl rfl rfl co42 (fun ρ w1 hb=>splays_spec (a:=a) (hN.now (hb.first (by simp[St.put]))) (ScR.now hs9 (hb.first (by simp[St.put]))) hok hp) fun x lo1 s1 hx1=>?_
 obtain⟨q1,c1⟩:=x
 simp only at hx1
 refine WO.go 5 dn ?_
 simp only[E,F,J,M,R,Tz,V,X,Y,reduceIte,G,H,sz]
 refine WO.nil ?_
 refine k2 _ ?_
 refine W.seqK fun K3 k3=>?_
 refine W.pure dn fun K4 k4=>?_
 simp only[E,F,J,M,R,Tz,V,X,Y,reduceIte,G,H,sz];refine k4 _ ?_
 refine W.cond rfl rfl (fun hc=>?_) fun hc=>?_
 ·
  simp at hc
 ·
  refine W.skip (k3 _ ?_)
  refine W.seqK fun K5 k5=>W.region ?_
  refine WO.go 2 dn ?_
  simp only[E,F,J,M,R,Tz,V,X,Y,reduceIte,G,H,sz]
  refine WO.call (.tuple #[(ptq pa),.bool true]) dn rfl rfl rfl co43 (fun ρ w1 hb=>vfind_spec (a:=a) (ScR.now hs9 (hb.first (by simp[St.put]))) hok.parts.nd hp) ?_
  refine WO.go 6 dn ?_
  simp only[E,F,J,M,R,Tz,V,X,Y,reduceIte,G,H,sz]
  refine WO.nil ?_
  refine k5 _ ?_
  refine W.pure dn fun K6 k6=>?_
  simp only[E,F,J,M,R,Tz,V,X,Y,reduceIte,G,H,sz];refine k6 _ ?_
  refine W.seqK fun K7 k7=>?_
  refine W.ownNil 60 5 ?_
  simp only[Bool.false_eq_true,E,F,J,M,R,Tz,V,X,Y,reduceIte,St.pushO,List.cons_append,List.nil_append,sz]
  refine W.seqK fun K8 k8=>W.region ?_
  refine WO.go 3 dn ?_
  simp only[E,F,J,M,R,Tz,V,X,Y,reduceIte,G,H,sz]
  refine WO.callN (fun x:Nat×Nat×Nat=>.func (.func 91) #[] #[.pointer (some ⟨x.1,0,none⟩),.pointer (some ⟨x.2.1,0,none⟩),.pointer (some ⟨x.2.2,0,none⟩)]) (fun x=>[boxO 26 x.1 (scl a s),boxO 24 x.2.1 [.slice q1 (playsL s pa).length c1],boxO 112 x.2.2 [iv pa.id,iv pa.sec,iv pa.src,iv pa.oct,iv pa.desks,iv pa.sa,iv pa.sb,iv pa.low.1,iv pa.low.2.1,iv pa.low.2.2,iv pa.high.1,iv pa.high.2.1,iv pa.high.2.2]]) (fun _=>True) dn rfl rfl rfl co44 (by intro x o ho;simp at ho;rcases ho with rfl | rfl | rfl<;>rfl) (fun ρ w1 hb=>measures_spec w1 a s pa q1 (playsL s pa).length c1) fun x _=>?_
  obtain⟨z1,z2,z3⟩:=x
  simp only[List.cons_append,List.nil_append]
  simp only[E,F,J,M,R,Tz,V,X,Y,reduceIte,G,H,sz]
  refine WO.nil ?_
  refine k8 _ ?_
  refine W.block ?_
  refine W.pinA (by simp[smallO,boxO]) fun β=>?_
  simp only[pinEn,pinOw,pinOw_box,den,denL,Nat.zero_add,J]
  refine W.rangeZ (X:=List (Ms×Option Addr×Nat)×Option Addr×Nat×List ((Nat→Prop)×World)) (Y:=Ms×Option Addr×Nat) (w0:=w) (s0:=w) s.bars.length false (fun y=>[msA y]) (MsV pa s.bars (playsL s pa)) [4,10] (fun x=>[boxO 26 (β 0) (scl a s),boxO 29 (β 1) [iv 0,.slice none 0 0],boxO 112 (β 2) [iv pa.id,iv pa.sec,iv pa.src,iv pa.oct,iv pa.desks,iv pa.sa,iv pa.sb,iv pa.low.1,iv pa.low.2.1,iv pa.low.2.2,iv pa.high.1,iv pa.high.2.1,iv pa.high.2.2],boxO 29 (β 3) [iv pa.id,.slice x.2.1 x.1.length x.2.2.1],.slice 60 5 (.slice x.2.1 x.1.length x.2.2.1) x.1.length (rowV mzV x.1)]) (fun x=>x.2.2.2) (MsI w pa s.bars (playsL s pa)) (fun _=>False) ([],none,0,[]) [boxO 26 z1 (scl a s),boxO 24 z2 [.slice q1 (playsL s pa).length c1],boxO 112 z3 [iv pa.id,iv pa.sec,iv pa.src,iv pa.oct,iv pa.desks,iv pa.sa,iv pa.sb,iv pa.low.1,iv pa.low.2.1,iv pa.low.2.2,iv pa.high.1,iv pa.high.2.1,iv pa.high.2.2]] (fun b=>b∈[z2]) (fun k x y=>[(11,.loc 5 0),(10,.val (.pointer (some ⟨(β 3),0,none⟩)))]) (fun k x y=>[.cells 60 [wv y.1.bar,wv y.1.key,wv y.1.len.1,wv y.1.len.2,.val (.slice y.2.1 y.1.notes.length y.2.2)]]) [] rfl (by kernel_rfl) (by simp[keepE,getE,bnd]) rfl ?_ (by intro t h;simp only[List.mem_singleton] at h;subst h;show 36<44;decide) (by decide) (fun _=>rfl) (fun b h=>by rw[List.mem_singleton] at h;subst h;exact⟨1,_,rfl,rfl⟩) ⟨rfl,fun z hz=>by cases hz⟩ rfl ?_ ?_ ?_ (fun h=>by cases h) (by simp) (by simp) hM ?_ (fun h=>by cases h)
  ·
   intro x o ho;simp only[List.cons_append,List.nil_append,List.mem_cons,List.not_mem_nil,or_false] at ho
   rcases ho with rfl | rfl | rfl | rfl | rfl | rfl | rfl | rfl<;>rfl
  ·
   intro ρ w1 hb w2 hk hlt hap
   have hm1:((fun b=>lo1≤b),s1)∈[((fun b=>lo1≤b),s1),((fun b=>b∈([]:List Nat)),w),((fun _=>True),w)]:=by simp
   have hm0:((fun _=>True),w)∈[((fun b=>lo1≤b),s1),((fun b=>b∈([]:List Nat)),w),((fun _=>True),w)]:=by simp
   have hfr:∀ o,o∈[boxO 26 (β 0) (scl a s),boxO 29 (β 1) [iv 0,.slice none 0 0],boxO 112 (β 2) [iv pa.id,iv pa.sec,iv pa.src,iv pa.oct,iv pa.desks,iv pa.sa,iv pa.sb,iv pa.low.1,iv pa.low.2.1,iv pa.low.2.2,iv pa.high.1,iv pa.high.2.1,iv pa.high.2.2],boxO 29 (β 3) [iv pa.id,.slice x0_.2.1 x0_.1.length x0_.2.2.1],.slice 60 5 (.slice x0_.2.1 x0_.1.length x0_.2.2.1) x0_.1.length (rowV mzV x0_.1)]→freeO o=true:=by
    intro o ho;simp only[List.mem_cons,List.not_mem_nil,or_false] at ho
    rcases ho with rfl | rfl | rfl | rfl | rfl<;>rfl
   have hpre:∀ (j:Nat) (o:Go.SX.Own),([boxO 26 (β 0) (scl a s),boxO 29 (β 1) [iv 0,.slice none 0 0],boxO 112 (β 2) [iv pa.id,iv pa.sec,iv pa.src,iv pa.oct,iv pa.desks,iv pa.sa,iv pa.sb,iv pa.low.1,iv pa.low.2.1,iv pa.low.2.2,iv pa.high.1,iv pa.high.2.1,iv pa.high.2.2],boxO 29 (β 3) [iv pa.id,.slice x0_.2.1 x0_.1.length x0_.2.2.1],.slice 60 5 (.slice x0_.2.1 x0_.1.length x0_.2.2.1) x0_.1.length (rowV mzV x0_.1)])[j]?=some o→([boxO 26 (β 0) (scl a s),boxO 29 (β 1) [iv 0,.slice none 0 0],boxO 112 (β 2) [iv pa.id,iv pa.sec,iv pa.src,iv pa.oct,iv pa.desks,iv pa.sa,iv pa.sb,iv pa.low.1,iv pa.low.2.1,iv pa.low.2.2,iv pa.high.1,iv pa.high.2.1,iv pa.high.2.2],boxO 29 (β 3) [iv pa.id,.slice x0_.2.1 x0_.1.length x0_.2.2.1],.slice 60 5 (.slice x0_.2.1 x0_.1.length x0_.2.2.1) x0_.1.length (rowV mzV x0_.1)]++[boxO 26 z1 (scl a s),boxO 24 z2 [.slice q1 (playsL s pa).length c1],boxO 112 z3 [iv pa.id,iv pa.sec,iv pa.src,iv pa.oct,iv pa.desks,iv pa.sa,iv pa.sb,iv pa.low.1,iv pa.low.2.1,iv pa.low.2.2,iv pa.high.1,iv pa.high.2.1,iv pa.high.2.2]])[j]?=some o:=fun j o hj=>by rw[List.getElem?_append_left (List.getElem?_eq_some_iff.1 hj).1];exact hj
   have l1:=hlt z1 ⟨5,boxO 26 z1 (scl a s),rfl,rfl⟩
   have l2:=hlt z2 ⟨6,boxO 24 z2 [.slice q1 (playsL s pa).length c1],rfl,rfl⟩
   have l3:=hlt z3 ⟨7,boxO 112 z3 [iv pa.id,iv pa.sec,iv pa.src,iv pa.oct,iv pa.desks,iv pa.sa,iv pa.sb,iv pa.low.1,iv pa.low.2.1,iv pa.low.2.2,iv pa.high.1,iv pa.high.2.1,iv pa.high.2.2],rfl,rfl⟩
   have hrn:rNts.rd (fun b=>lo1≤b∧b<s1.heap.size) s1 [.slice q1 (playsL s pa).length c1] (playsL s pa):=Rp.mono _ hx1 fun b h1 h2=>⟨h1,h2⟩
   refine measures1_iter (S:=fun b=>b<w.heap.size∨(lo1≤b∧b<s1.heap.size)) (s:=s) (a:=a) (pa:=pa) (pl:=playsL s pa) (GN.now (GN.now hN (hb.first hm0)) hk) ((box_at (k:=5) (b:=z1) hb rfl).frame (hk.block z1 trivial l1)) (Nat.lt_of_lt_of_le l1 hk.size) ((hk.block z2 trivial l2).trans (box_heap (k:=6) (b:=z2) hb rfl)) ((box_at (k:=7) (b:=z3) hb rfl).frame (hk.block z3 trivial l3)) (Nat.lt_of_lt_of_le l3 hk.size)
    (Rp.mono _ (Rp.now (Rp.now hlw (hb.first hm0)) hk) fun b h _=>.inl h) (Rp.mono _ (Rp.now (Rp.keep hrn ((hb.at hm1).mono fun b h _=>h.1)) hk) fun b h _=>.inr h) (fun b hb9 _=>?_)
    ⟨apart_of (own0:=[boxO 26 (β 0) (scl a s),boxO 29 (β 1) [iv 0,.slice none 0 0],boxO 112 (β 2) [iv pa.id,iv pa.sec,iv pa.src,iv pa.oct,iv pa.desks,iv pa.sa,iv pa.sb,iv pa.low.1,iv pa.low.2.1,iv pa.low.2.2,iv pa.high.1,iv pa.high.2.1,iv pa.high.2.2],boxO 29 (β 3) [iv pa.id,.slice x0_.2.1 x0_.1.length x0_.2.2.1],.slice 60 5 (.slice x0_.2.1 x0_.1.length x0_.2.2.1) x0_.1.length (rowV mzV x0_.1)]) (it:=[boxO 26 z1 (scl a s),boxO 24 z2 [.slice q1 (playsL s pa).length c1],boxO 112 z3 [iv pa.id,iv pa.sec,iv pa.src,iv pa.oct,iv pa.desks,iv pa.sa,iv pa.sb,iv pa.low.1,iv pa.low.2.1,iv pa.low.2.2,iv pa.high.1,iv pa.high.2.1,iv pa.high.2.2]]) rfl hlt hap (j:=5) (o:=boxO 26 z1 (scl a s)) rfl (by simp) rfl,fun he=>absurd (hap 5 6 _ _ z1 rfl rfl rfl (by rw[he];rfl)) (by decide)⟩
    (apart_of (own0:=[boxO 26 (β 0) (scl a s),boxO 29 (β 1) [iv 0,.slice none 0 0],boxO 112 (β 2) [iv pa.id,iv pa.sec,iv pa.src,iv pa.oct,iv pa.desks,iv pa.sa,iv pa.sb,iv pa.low.1,iv pa.low.2.1,iv pa.low.2.2,iv pa.high.1,iv pa.high.2.1,iv pa.high.2.2],boxO 29 (β 3) [iv pa.id,.slice x0_.2.1 x0_.1.length x0_.2.2.1],.slice 60 5 (.slice x0_.2.1 x0_.1.length x0_.2.2.1) x0_.1.length (rowV mzV x0_.1)]) (it:=[boxO 26 z1 (scl a s),boxO 24 z2 [.slice q1 (playsL s pa).length c1],boxO 112 z3 [iv pa.id,iv pa.sec,iv pa.src,iv pa.oct,iv pa.desks,iv pa.sa,iv pa.sb,iv pa.low.1,iv pa.low.2.1,iv pa.low.2.2,iv pa.high.1,iv pa.high.2.1,iv pa.high.2.2]]) rfl hlt hap (j:=6) (o:=boxO 24 z2 [.slice q1 (playsL s pa).length c1]) rfl (by simp) rfl)
    ⟨apart_of (own0:=[boxO 26 (β 0) (scl a s),boxO 29 (β 1) [iv 0,.slice none 0 0],boxO 112 (β 2) [iv pa.id,iv pa.sec,iv pa.src,iv pa.oct,iv pa.desks,iv pa.sa,iv pa.sb,iv pa.low.1,iv pa.low.2.1,iv pa.low.2.2,iv pa.high.1,iv pa.high.2.1,iv pa.high.2.2],boxO 29 (β 3) [iv pa.id,.slice x0_.2.1 x0_.1.length x0_.2.2.1],.slice 60 5 (.slice x0_.2.1 x0_.1.length x0_.2.2.1) x0_.1.length (rowV mzV x0_.1)]) (it:=[boxO 26 z1 (scl a s),boxO 24 z2 [.slice q1 (playsL s pa).length c1],boxO 112 z3 [iv pa.id,iv pa.sec,iv pa.src,iv pa.oct,iv pa.desks,iv pa.sa,iv pa.sb,iv pa.low.1,iv pa.low.2.1,iv pa.low.2.2,iv pa.high.1,iv pa.high.2.1,iv pa.high.2.2]]) rfl hlt hap (j:=7) (o:=boxO 112 z3 [iv pa.id,iv pa.sec,iv pa.src,iv pa.oct,iv pa.desks,iv pa.sa,iv pa.sb,iv pa.low.1,iv pa.low.2.1,iv pa.low.2.2,iv pa.high.1,iv pa.high.2.1,iv pa.high.2.2]) rfl (by simp) rfl,fun he=>absurd (hap 7 6 _ _ z3 rfl rfl rfl (by rw[he];rfl)) (by decide)⟩
    ⟨snap_apart (S:=fun _=>True) hb hm0 hfr hpre trivial hN.2,fun he=>?_⟩ hpl2
   ·
    rcases hb9 with h | ⟨h,h2⟩
    · exact⟨snap_apart (S:=fun _=>True) hb hm0 hfr hpre trivial h,fun he=>by have:=snap_own (j:=6) hb hm0 rfl rfl trivial (b:=z2);omega⟩
    · exact⟨snap_apart hb hm1 hfr hpre h h2,fun he=>by subst he;have:=snap_own (b:=b) (j:=6) hb hm1 rfl rfl h;omega⟩
   · have:=snap_own (j:=6) hb hm0 rfl rfl trivial (b:=z2);have:=hN.2;omega
  ·
   intro ll k x y L S sw hV hSL
   simp only[zipE,msA,List.cons_append,List.nil_append]
   refine W.region ?_
   refine WO.go 2 dn ?_
   simp only[E,F,J,M,R,Tz,V,X,Y,reduceIte,sxk,G,H,sz]
   refine WO.nil ?_
   exact⟨rfl,by simp[getE,bnd,keepE],⟨[],by simp⟩,by simp[Own.bnd,bndL,bnd,boxO],by simp⟩
  ·
   intro ll k x y L0 L S sw S2 s2 hk hIx hV hSL hL0 hsL hLs hLS hLw
   obtain⟨zs,q5,c5,snx⟩:=x
   simp only at hsL hLS
   obtain⟨hmg,hwr⟩:=hV
   have hxl:zs.length=k:=by
    have h9:=congrArg List.length hIx.1
    rw[List.length_map,List.length_take,msF_len] at h9
    simp only at h9;omega
   have hbl:=hok.bars.len
   have hwL:w.heap.size≤L0:=hLw ((fun _=>True),w) (by simp)
   refine W.sub (τ:=⟨44,_,_,(S,sw)::(S2,s2)::((fun b=>L≤b),sw)::(snx++[((fun b=>lo1≤b),s1),((fun b=>b∈([]:List Nat)),w),((fun _=>True),w)]),[]⟩) (fun ρ a w9 h=>⟨ρ,h.size,h.defers,h.env,h.base.own,h.base.apart,fun p hp=>by
    simp only[List.mem_cons] at hp
    rcases hp with rfl | rfl | rfl | hp
    · exact h.base.keep _ (by simp)
    · exact h.base.keep _ (by simp)
    ·
     have h9:=h.base.keep (S,sw) (by simp)
     exact⟨h9.1.mono fun b hb _=>hSL b hb,fun j o b h1 h2 h3=>h9.2 j o b h1 h2 (hSL b h3)⟩
    · exact h.base.keep p (List.mem_cons_of_mem _ (List.mem_cons_of_mem _ hp))⟩) ?_
   have hKr9:=onN_i fun t=>(∃ x':List (Ms×Option Addr×Nat)×Option Addr×Nat×List ((Nat→Prop)×World),MsI w pa s.bars (playsL s pa) (k+1) x'∧(∀ p,p∈x'.2.2.2→∀ b,p.1 b→L0≤b)∧Le t ⟨44,[],[boxO 26 (β 0) (scl a s),boxO 29 (β 1) [iv 0,.slice none 0 0],boxO 112 (β 2) [iv pa.id,iv pa.sec,iv pa.src,iv pa.oct,iv pa.desks,iv pa.sa,iv pa.sb,iv pa.low.1,iv pa.low.2.1,iv pa.low.2.2,iv pa.high.1,iv pa.high.2.1,iv pa.high.2.2],boxO 29 (β 3) [iv pa.id,.slice x'.2.1 x'.1.length x'.2.2.1],.slice 60 5 (.slice x'.2.1 x'.1.length x'.2.2.1) x'.1.length (rowV mzV x'.1)],(S,sw)::(S2,s2)::(x'.2.2.2++[((fun b=>lo1≤b),s1),((fun b=>b∈([]:List Nat)),w),((fun _=>True),w)]),[]⟩)
   refine W.block ?_
   refine W.region ?_
   refine WO.go 1 dn ?_
   simp only[E,F,J,M,R,Tz,V,X,Y,reduceIte,G,H,sz]
   refine WO.loadBox (k:=3) (i:=1) (sz:=1) rfl dn rfl rfl rfl rfl (by simp[Addr.add_mid]) (by simp) agg27 sz27 (.inr rfl) ?_
   simp only[ofCells,if_true,List.toList_toArray,sr]
   refine WO.go 2 dn ?_
   simp only[E,F,J,M,R,Tz,V,X,Y,reduceIte,G,H,sz]
   refine WO.append (k:=4) (m:=1) [iv y.1.bar,iv y.1.key,iv y.1.len.1,iv y.1.len.2,.slice y.2.1 y.1.notes.length y.2.2] dn rfl rfl rfl rfl rfl rfl ek27 (news_own (k2:=6) rfl fun _=>rfl) rfl (by simp[Value.oneCell']) (by rw[maxLen_eq];omega) (by omega) fun p6 c6=>?_
   refine WO.go 1 dn ?_
   simp only[E,F,J,M,R,Tz,V,X,Y,reduceIte,G,H,sz]
   refine WO.storeBox (k:=3) (i:=1) rfl dn rfl rfl rfl rfl (by simp[Addr.add_mid]) (by simp) rfl rfl sz27 ?_
   simp only[E,F,J,M,R,Tz,V,X,Y,reduceIte,G,H,sz]
   refine WO.nil ?_
   refine hKr9 _ ?_
   refine⟨(zs++[y],p6,c6,((fun b=>L≤b),sw)::snx),⟨?_,fun z hz=>?_⟩,fun p hp9 b hb9=>?_,⟨rfl,by simp,⟨_,by simp[row_snoc,mzV];rfl⟩,by simp[Own.bnd,bndL,bnd,boxO],fun p hp9=>by simpa using hp9⟩⟩
   ·
    simp only
    rw[List.map_append,hIx.1,List.take_add_one,hmg];rfl
   ·
    simp only at hz ⊢
    rcases List.mem_append.1 hz with hz | hz
    ·
     obtain⟨S9,s9,h1,h2,h3⟩:=hIx.2 z hz
     exact⟨S9,s9,List.mem_cons_of_mem _ h1,h2,h3⟩
    ·
     rw[List.mem_singleton] at hz
     subst hz
     exact⟨_,sw,List.mem_cons_self,fun b hb9=>by omega,hwr⟩
   ·
    simp only at hp9
    rcases List.mem_cons.1 hp9 with rfl | hp9
    · simp only at hb9;omega
    · exact hsL p hp9 b hb9
  intro _ D2 s3 x hIx hM2
  obtain⟨zs,q5,c5,snx⟩:=x
  obtain⟨hI1,hI2⟩:=hIx
  simp only at hI1 hI2
  refine k7 _ ?_
  simp only[E,F,J,M,R,Tz,V,X,Y,reduceIte,sxk,G,H,sz]
  refine W.unpin β ⟨44,[(4,.loc 1 0),(10,.loc 3 0)],[.cells 26 (scw a s),.cells 29 [wv 0,.val (.slice none 0 0)],.cells 112 (ptw pa),.cells 29 [wv pa.id,.val (.slice q5 zs.length c5)],.slice 60 5 (.slice q5 zs.length c5) zs.length (rowV mzV zs)],((fun b=>b∈[D2]),s3)::(snx++[((fun b=>lo1≤b),s1),((fun b=>b∈([]:List Nat)),w),((fun _=>True),w)]),_⟩ rfl (by simp[getE,den,bnd]) ⟨.inr ⟨_,_,rfl,rfl,rfl⟩,.inr ⟨_,_,rfl,rfl,rfl⟩,.inr ⟨_,_,rfl,rfl,rfl⟩,.inr ⟨_,_,rfl,rfl,rfl⟩,.inl ⟨rfl,rfl⟩,trivial⟩ (by simp) ?_
  refine W.pure dn fun K10 k10=>?_
  simp only[E,F,J,M,R,Tz,V,X,Y,reduceIte,G,H,sz];refine k10 _ ?_
  refine W.ret ?_
  refine⟨by simp,[D2],s3,⟨rfl,by simp,hM2⟩,RunR.ex ?_⟩
  simp only[E,F,J,M,R,Tz,V,X,Y,reduceIte,sxr,G,H,sz]
  intro ρ w9 w1 hb9 hk9 hb
  have hml:(getV s pa).ms=zs.map (·.1):=by
   rw[hI1];show msF _ _ _=_
   rw[List.take_of_length_le (by rw[msF_len];exact Nat.le_refl _)]
  refine⟨(q5,c5),?_,?_⟩
  · unfold vwV;rw[hml,List.length_map];rfl
  ·
   rw[hml,List.length_map]
   refine own_slice (A:=rMs) (k:=4) hb rfl (by simp) (fun b9 h9=>own_new (w0:=w) (k:=4) hb (by simp) rfl h9) fun i m hm=>?_
   rw[List.getElem?_map,Option.map_eq_some_iff] at hm
   obtain⟨z,hz,rfl⟩:=hm
   rw[show((rowV mzV zs).drop (i*rMs.sz)).take rMs.sz=mzV z from flat_at (k:=5) (fun _=>rfl) zs i z hz]
   obtain⟨S9,s9,h1,h2,h3⟩:=hI2 z (List.mem_of_getElem? hz)
   have hrw:(Rp.slice rWt).rd S9 w9 [.slice z.2.1 z.1.notes.length z.2.2] z.1.notes:=Rp.keep h3 (hb9.at (S:=S9) (s:=s9) (List.mem_cons_of_mem _ (List.mem_append_left _ h1)))
   have hrn:=row_no (D:=fun b=>b∈[D2]) hrw (fun ces x hx=>⟨by rw[show ces=wtV x from hx];simp[wtV],hx⟩) (fun b hb8=>by
    obtain⟨_,q2,q3⟩:=hM2.2 b hb8
    exact⟨_,((hb9.at (S:=fun b=>b∈[D2]) (s:=s3) (by simp)).block b hb8 q2).trans q3⟩)
   exact rMs_mk (Rp.mono _ (Rp.keep hrn (hk9.mono fun b hb8 _=>hb8.2)) fun b hb8 _=>h2 b hb8.1)
theorem newsB_at {ρ:Nat→Nat} {σ:St} {w w0:World} (hb:Base ρ σ w) (hm:((fun _=>True),w0)∈σ.snaps) (k0:Nat) (os:List Go.SX.Own) (hp:(σ.own.drop k0).take os.length=os) (hfr:os.all freeO=true) :
  (∀ (j:Nat) (o:Go.SX.Own),os[j]?=some o→o.holds (fun _=>0) 0 w∧∀ b,o.num (fun _=>0) 0=some b→w0.heap.size≤b)∧∀ (i j:Nat) (oi oj:Go.SX.Own) b,os[i]?=some oi→os[j]?=some oj→oi.num (fun _=>0) 0=some b→oj.num (fun _=>0) 0=some b→i=j:=by
 have hfk:∀ (k:Nat) (o:Go.SX.Own),os[k]?=some o→freeO o=true:=fun k o hk=>List.all_eq_true.1 hfr o (List.mem_of_getElem? hk)
 have hk:∀ (k:Nat) (o:Go.SX.Own),os[k]?=some o→σ.own[k0+k]?=some o:=fun k o hk=>by
  have hl:=(List.getElem?_eq_some_iff.1 hk).1
  rw[← hp,List.getElem?_take,if_pos hl,List.getElem?_drop] at hk;exact hk
 have hnum:∀ (k:Nat) (o:Go.SX.Own) b,os[k]?=some o→o.num (fun _=>0) 0=some b→o.num ρ (k0+k)=some b:=fun k o b h1 h2=>by rw[freeO_num (hfk k o h1) ρ (fun _=>0) (k0+k) 0];exact h2
 exact⟨fun k o h=>⟨freeO_holds (hfk k o h) (hb.own _ o (hk k o h) ρ (Agree.refl _ _)),fun b h2=>(hb.keep _ hm).2 _ o b (hk k o h) (hnum k o b h h2) trivial⟩,fun i j oi oj b h1 h2 h3 h4=>by
  have:=hb.apart _ _ oi oj b (hk i oi h1) (hk j oj h2) (hnum i oi b h1 h3) (hnum j oj b h2 h4)
  omega⟩
def othT (s:Sc) (o:Pt) (i:Nat):List Nt:=(s.notes.take i).filter fun n=>n.part != o.id
theorem othT_yes {s:Sc} {o:Pt} {i:Nat} {y:Nt} (h:s.notes[i]?=some y) (h0:(y.part != o.id)=true):othT s o (i+1)=othT s o i++[y]:=by
 unfold othT
 rw[List.take_add_one,h,List.filter_append];simp only[Option.toList_some,List.filter_cons,h0,if_true,List.filter_nil]
theorem othT_no {s:Sc} {o:Pt} {i:Nat} {y:Nt} (h:s.notes[i]?=some y) (h0:(y.part != o.id)=false):othT s o (i+1)=othT s o i:=by
 unfold othT
 rw[List.take_add_one,h,List.filter_append];simp[h0]
theorem othT_all {s:Sc} {o:Pt} {i:Nat} (h:s.notes.length≤i):othT s o i=othersL s o:=by
 unfold othT othersL;rw[List.take_of_length_le h]
theorem othT_len (s:Sc) (o:Pt) (i:Nat):(othT s o i).length≤s.notes.length:=by
 unfold othT
 have h1:=List.length_filter_le (fun n:Nt=>n.part != o.id) (s.notes.take i)
 rw[List.length_take] at h1;omega
theorem othT_new {s:Sc} {o:Pt} {i:Nat} {y:Nt} (hnd:(s.notes.map Nt.id).Nodup) (h:s.notes[i]?=some y):y.id∉(kvOf Nt.id trueV (othT s o i)).map (·.1):=by
 have h9:=kv_new (g:=trueV) hnd h
 rw[kv_keys] at h9 ⊢
 intro hm
 obtain⟨z,hz,he⟩:=List.mem_map.1 hm
 exact h9 (List.mem_map.2 ⟨z,(List.mem_filter.1 hz).1,he⟩)
theorem others_spec {S:Nat→Prop} {w:World} {a:ScA} {s:Sc} (hs:ScR S w a s) (hok:ScOk s) (p o:Pt):Gives Tryz.prog 28 #[.agg #[iv p.id,iv p.sec,iv p.src,iv p.oct,iv p.desks,iv p.sa,iv p.sb,iv p.low.1,iv p.low.2.1,iv p.low.2.2,iv p.high.1,iv p.high.2.1,iv p.high.2.2,iv s.ver,.slice a.b.1 s.bars.length a.b.2,.slice a.p.1 s.parts.length a.p.2,.slice a.n.1 s.notes.length a.n.2,iv o.id,iv o.sec,iv o.src,iv o.oct,iv o.desks,iv o.sa,iv o.sb,iv o.low.1,iv o.low.2.1,iv o.low.2.2,iv o.high.1,iv o.high.2.1,iv o.high.2.2]] w fun r w'=>∃ x:Nat×Option Addr×Nat,r=.tuple #[.map (some x.1),.slice x.2.1 (othersL s o).length x.2.2]∧True∧(∀ (j:Nat) (o':Go.SX.Own),[.map x.1 (vmE (kvOf Nt.id trueV (othersL s o))) (kvOf Nt.id trueV (othersL s o)).length,.slice 89 12 (.slice x.2.1 (othersL s o).length x.2.2) (othersL s o).length (rowV ntV (othersL s o))][j]?=some o'→o'.holds (fun _=>0) 0 w'∧∀ b,o'.num (fun _=>0) 0=some b→w.heap.size≤b)∧∀ (i j:Nat) (oi oj:Go.SX.Own) b,[.map x.1 (vmE (kvOf Nt.id trueV (othersL s o))) (kvOf Nt.id trueV (othersL s o)).length,.slice 89 12 (.slice x.2.1 (othersL s o).length x.2.2) (othersL s o).length (rowV ntV (othersL s o))][i]?=some oi→[.map x.1 (vmE (kvOf Nt.id trueV (othersL s o))) (kvOf Nt.id trueV (othersL s o)).length,.slice 89 12 (.slice x.2.1 (othersL s o).length x.2.2) (othersL s o).length (rowV ntV (othersL s o))][j]?=some oj→oi.num (fun _=>0) 0=some b→oj.num (fun _=>0) 0=some b→i=j:=by
 have ln:(Rp.slice rNt).rd (fun _=>True) w _ s.notes:=Rp.any hs.n
 have hnl:=hok.notes.len
 refine gives_of [.agg [wv p.id,wv p.sec,wv p.src,wv p.oct,wv p.desks,wv p.sa,wv p.sb,wv p.low.1,wv p.low.2.1,wv p.low.2.2,wv p.high.1,wv p.high.2.1,wv p.high.2.2,wv s.ver,.val (.slice a.b.1 s.bars.length a.b.2),.val (.slice a.p.1 s.parts.length a.p.2),.val (.slice a.n.1 s.notes.length a.n.2),wv o.id,wv o.sec,wv o.src,wv o.oct,wv o.desks,wv o.sa,wv o.sb,wv o.low.1,wv o.low.2.1,wv o.low.2.2,wv o.high.1,wv o.high.2.1,wv o.high.2.2]] 33 [.tmp 2,.tmp 3] Tryz.func28 rfl rfl rfl (by simp) rfl rfl ?_
 refine W.pure dn fun K1 k1=>?_
 simp only[E,F,J,M,R,Tz,V,X,Y,reduceIte,G,H,sz];refine k1 _ ?_
 refine W.seqK fun K2 k2=>W.region ?_
 refine WO.makeV dn rfl rfl rfl fun r=>?_
 simp only[St.pushO]
 refine WO.go 1 dn ?_
 simp only[E,F,J,M,R,Tz,V,X,Y,reduceIte,G,H,sz]
 refine WO.nil ?_
 refine k2 _ ?_
 refine W.ownNil 89 12 ?_
 simp only[Bool.false_eq_true,E,F,J,M,R,Tz,V,X,Y,reduceIte,St.pushO,List.cons_append,List.nil_append,sz]
 refine W.pure dn fun K3 k3=>?_
 simp only[E,F,J,M,R,Tz,V,X,Y,reduceIte,G,H,sz];refine k3 _ ?_
 refine W.seqK fun K4 k4=>?_
 refine W.pure dn fun K5 k5=>?_
 simp only[E,F,J,M,R,Tz,V,X,Y,reduceIte,G,H,sz];refine k5 _ ?_
 refine W.block ?_
 refine W.loopO (X:=Nat×Option Addr×Nat) [1,4,11,12] (fun x=>[(5,.val (.slice x.2.1 (othT s o x.1).length x.2.2)),(13,wv (x.1:Int))]) (fun x=>[.cells 80 [wv p.id,wv p.sec,wv p.src,wv p.oct,wv p.desks,wv p.sa,wv p.sb,wv p.low.1,wv p.low.2.1,wv p.low.2.2,wv p.high.1,wv p.high.2.1,wv p.high.2.2,wv s.ver,.val (.slice a.b.1 s.bars.length a.b.2),.val (.slice a.p.1 s.parts.length a.p.2),.val (.slice a.n.1 s.notes.length a.n.2),wv o.id,wv o.sec,wv o.src,wv o.oct,wv o.desks,wv o.sa,wv o.sb,wv o.low.1,wv o.low.2.1,wv o.low.2.2,wv o.high.1,wv o.high.2.1,wv o.high.2.2],.map r (vmE (kvOf Nt.id trueV (othT s o x.1))) (kvOf Nt.id trueV (othT s o x.1)).length,.slice 89 12 (.slice x.2.1 (othT s o x.1).length x.2.2) (othT s o x.1).length (rowV ntV (othT s o x.1))]) (fun x=>[((fun _=>True),w)]) (fun x=>x.1≤s.notes.length) (fun x=>s.notes.length - x.1) (0,none,0) ?_ ?_ ?_
 · exact⟨rfl,by simp[getE,bnd,keepE,othT],⟨[],by simp[kvOf,othT,rowV]⟩,by simp[Own.bnd,bndL,bnd,boxO],by simp⟩
 ·
  exact Nat.zero_le _
 ·
  rintro⟨i,q5,c5⟩ hi
  simp only at hi
  simp only[E,F,J,M,R,Tz,V,X,Y,reduceIte,sxk,G,H,sz]
  refine W.pure dn fun K6 k6=>?_
  simp only[E,F,J,M,R,Tz,V,X,Y,reduceIte,G,H,sz];refine k6 _ ?_
  refine W.seqK fun K7 k7=>?_
  refine W.cond rfl rfl (fun hc=>?_) fun hc=>?_
  ·
   have hlt:i<s.notes.length:=by simpa using hc
   obtain⟨y,hy⟩:=len_lt (rfl:s.notes.length=_) hlt
   have hnew:=othT_new (o:=o) hok.notes.nd hy
   have hol:=othT_len s o i
   refine W.skip (k7 _ ?_)
   refine W.seqK fun K8 k8=>?_
   refine W.block ?_
   refine W.seqK fun K9 k9=>W.region ?_
   refine WO.elem (y:=y) ln (by simp[St.put]) dn rfl rfl (by simp[St.put]) (fun _=>rfl) rfl rfl rfl rfl rfl el24 agg89 sz89 (.inl rfl) (by omega) (hy) fun p ces hces=>?_
   have hces:ces=ntV y:=hces
   subst hces
   simp only[ntV,ofCells,if_true,List.toList_toArray,sr]
   refine WO.go 2 dn ?_
   simp only[E,F,J,M,R,Tz,V,X,Y,reduceIte,G,H,sz]
   refine WO.nil ?_
   refine k9 _ ?_
   refine W.pure dn fun K10 k10=>?_
   simp only[E,F,J,M,R,Tz,V,X,Y,reduceIte,G,H,sz];refine k10 _ ?_
   refine W.cond rfl rfl (fun hc=>?_) fun hc=>?_
   ·
    have h0:(y.part != o.id)=true:=by simpa using hc
    have hyes:=othT_yes hy h0
    refine W.seqK fun K11 k11=>W.region ?_
    refine WO.go 3 dn ?_
    simp only[E,F,J,M,R,Tz,V,X,Y,reduceIte,G,H,sz]
    refine WO.addV (k:=1) (ks:=(kvOf Nt.id trueV (othT s o i))) (trueV y) dn rfl rfl rfl rfl rfl rfl ⟨_,rfl,fun _=>rfl⟩ (by kernel_rfl) hnew ?_
    rw[← show(kvOf Nt.id trueV (othT s o (i+1)))=(kvOf Nt.id trueV (othT s o i))++[(y.id,trueV y)] from by rw[hyes];exact kv_snoc _ _ _ y]
    simp only[E,F,J,M,R,Tz,V,X,Y,reduceIte,G,H,sz]
    refine WO.nil ?_
    refine k11 _ ?_
    refine W.region ?_
    refine WO.go 3 dn ?_
    simp only[E,F,J,M,R,Tz,V,X,Y,reduceIte,G,H,sz]
    refine WO.append (k:=2) (m:=1) [iv y.id,iv y.part,iv y.bar,iv y.voice,iv y.ossia,iv y.start.1,iv y.start.2,iv y.len.1,iv y.len.2,iv y.pit.1,iv y.pit.2.1,iv y.pit.2.2] dn rfl rfl rfl rfl rfl rfl ek24 (news_own (k2:=4) rfl fun _=>rfl) rfl (by simp[Value.oneCell']) (by rw[maxLen_eq];omega) (by omega) fun p6 c6=>?_
    refine WO.go 1 dn ?_
    simp only[E,F,J,M,R,Tz,V,X,Y,reduceIte,G,H,sz]
    refine WO.nil ?_
    refine k8 _ ?_
    refine W.region ?_
    refine WO.go 2 dn ?_
    simp only[E,F,J,M,R,Tz,V,X,Y,reduceIte,G,H,sz]
    refine WO.nil ?_
    refine⟨(i+1,p6,c6),hlt,by simp only;omega,rfl,by simp[getE,bnd,keepE,hyes,wrap_succ (show i+1≤9223372036854775807 by omega)],⟨_,by simp[hyes,row_snoc,ntV];rfl⟩,by simp[Own.bnd,bndL,bnd],by simp⟩
   ·
    have h0:(y.part != o.id)=false:=by simpa using hc
    have hno9:=othT_no hy h0
    refine W.skip (k8 _ ?_)
    refine W.region ?_
    refine WO.go 2 dn ?_
    simp only[E,F,J,M,R,Tz,V,X,Y,reduceIte,G,H,sz]
    refine WO.nil ?_
    refine⟨(i+1,q5,c5),hlt,by simp only;omega,rfl,by simp[getE,bnd,keepE,hno9,wrap_succ (show i+1≤9223372036854775807 by omega)],⟨_,by rw[hno9];rfl⟩,by simp[Own.bnd,bndL,bnd],by simp⟩
  ·
   have hge:s.notes.length≤i:=by simpa using hc
   rw[othT_all hge]
   refine W.exit (k4 _ ?_)
   refine W.pure dn fun K12 k12=>?_
   simp only[E,F,J,M,R,Tz,V,X,Y,reduceIte,G,H,sz];refine k12 _ ?_
   refine W.ret ⟨by simp,_,rfl,fun ρ w1 hb=>?_⟩
   exact⟨(r,q5,c5),rfl,trivial,newsB_at hb (by simp) 1 _ rfl rfl⟩
theorem all_spec (w:World) (a:ScA) (s:Sc) (p o:Pt) (z:Sl) (v:Vw) (r9:Nat):Gives Tryz.prog 29 #[.agg #[iv p.id,iv p.sec,iv p.src,iv p.oct,iv p.desks,iv p.sa,iv p.sb,iv p.low.1,iv p.low.2.1,iv p.low.2.2,iv p.high.1,iv p.high.2.1,iv p.high.2.2,iv s.ver,.slice a.b.1 s.bars.length a.b.2,.slice a.p.1 s.parts.length a.p.2,.slice a.n.1 s.notes.length a.n.2,iv o.id,iv o.sec,iv o.src,iv o.oct,iv o.desks,iv o.sa,iv o.sb,iv o.low.1,iv o.low.2.1,iv o.low.2.2,iv o.high.1,iv o.high.2.1,iv o.high.2.2],vwV z v,.map (some r9)] w fun r w'=>∃ x:Nat×Nat×Nat,r=.func (.func 67) #[] #[.pointer (some ⟨x.1,0,none⟩),.pointer (some ⟨x.2.1,0,none⟩),.pointer (some ⟨x.2.2,0,none⟩)]∧(At w' ⟨x.1,0,none⟩ [iv v.part,.slice z.1 v.ms.length z.2]∧At w' ⟨x.2.1,0,none⟩ [iv p.id,iv p.sec,iv p.src,iv p.oct,iv p.desks,iv p.sa,iv p.sb,iv p.low.1,iv p.low.2.1,iv p.low.2.2,iv p.high.1,iv p.high.2.1,iv p.high.2.2,iv s.ver,.slice a.b.1 s.bars.length a.b.2,.slice a.p.1 s.parts.length a.p.2,.slice a.n.1 s.notes.length a.n.2,iv o.id,iv o.sec,iv o.src,iv o.oct,iv o.desks,iv o.sa,iv o.sb,iv o.low.1,iv o.low.2.1,iv o.low.2.2,iv o.high.1,iv o.high.2.1,iv o.high.2.2]∧At w' ⟨x.2.2,0,none⟩ [.map (some r9)])∧(w.heap.size≤x.1∧w.heap.size≤x.2.1∧w.heap.size≤x.2.2)∧x.1<w'.heap.size∧x.2.1<w'.heap.size∧x.2.2<w'.heap.size:=by
 unfold vwV
 refine gives_of [.agg [wv p.id,wv p.sec,wv p.src,wv p.oct,wv p.desks,wv p.sa,wv p.sb,wv p.low.1,wv p.low.2.1,wv p.low.2.2,wv p.high.1,wv p.high.2.1,wv p.high.2.2,wv s.ver,.val (.slice a.b.1 s.bars.length a.b.2),.val (.slice a.p.1 s.parts.length a.p.2),.val (.slice a.n.1 s.notes.length a.n.2),wv o.id,wv o.sec,wv o.src,wv o.oct,wv o.desks,wv o.sa,wv o.sb,wv o.low.1,wv o.low.2.1,wv o.low.2.2,wv o.high.1,wv o.high.2.1,wv o.high.2.2],.agg [wv v.part,.val (.slice z.1 v.ms.length z.2)],.val (.map (some r9))] 8 [.tmp 6] Tryz.func29 rfl rfl rfl (by simp) rfl rfl ?_
 refine W.pure dn fun K1 k1=>?_
 simp only[E,F,J,M,R,Tz,V,X,Y,reduceIte,G,H,sz];refine k1 _ ?_
 refine W.pure dn fun K2 k2=>?_
 simp only[E,F,J,M,R,Tz,V,X,Y,reduceIte,G,H,sz];refine k2 _ ?_
 refine W.ret ⟨by simp,_,rfl,fun ρ w1 hb=>?_⟩
 refine⟨(ρ 1,ρ 0,ρ 2),rfl,⟨?_,?_,?_⟩,⟨own_new (w0:=w) (k:=1) hb (by simp) rfl rfl,own_new (w0:=w) (k:=0) hb (by simp) rfl rfl,own_new (w0:=w) (k:=2) hb (by simp) rfl rfl⟩,(own_cells (k:=1) hb rfl 0).2,(own_cells (k:=0) hb rfl 0).2,(own_cells (k:=2) hb rfl 0).2⟩
 · exact(own_cells (k:=1) hb rfl 0).1
 · exact(own_cells (k:=0) hb rfl 0).1
 · exact(own_cells (k:=2) hb rfl 0).1
theorem pairs_get:∀ {bars:List Br} {ms:List Ms} {i j:Nat} {b:Br} {m:Ms} {u:Wt},bars[i]?=some b→ms[i]?=some m→m.notes[j]?=some u→(pairsW bars ms)[(allW (ms.take i)).length+j]?=some (b,u)
 | [],_,i,_,_,_,_,h,_,_=>by simp at h
 | _::_,[],i,_,_,_,_,_,h,_=>by simp at h
 |
  b'::bs,m'::ms,0,j,b,m,u,h1,h2,h3=>by
  simp only[List.getElem?_cons_zero,Option.some.injEq] at h1 h2
  subst h1;subst h2
  unfold pairsW allW
  rw[List.zip_cons_cons,List.flatMap_cons]
  dsimp only
  rw[List.take_zero,List.flatMap_nil,List.length_nil,Nat.zero_add,List.getElem?_append_left (by rw[List.length_map];exact(List.getElem?_eq_some_iff.1 h3).1),List.getElem?_map,h3]
  rfl
 |
  b'::bs,m'::ms,i+1,j,b,m,u,h1,h2,h3=>by
  simp only[List.getElem?_cons_succ] at h1 h2
  have ih:=pairs_get h1 h2 h3
  unfold pairsW allW at *
  rw[List.zip_cons_cons,List.flatMap_cons]
  dsimp only
  rw[List.take_succ_cons,List.flatMap_cons,List.length_append,List.getElem?_append_right (by rw[List.length_map];omega),List.length_map,← ih]
  congr 1
  omega
theorem pairs_len {bars:List Br} {ms:List Ms} (h:ms.length=bars.length):(pairsW bars ms).length=(allW ms).length:=by
 have h1:=congrArg List.length (pairs_ids (bars:=bars) (ms:=ms) h)
 simpa using h1
def tak (s:Sc) (o:Pt) (id:Int):Bool:=(othersL s o).any fun n=>n.id == id
noncomputable def errW (s:Sc) (p o:Pt) (x:Br×Wt):Int:=if tak s o x.2.id=true then 5 else if okB p o x.1 x.2=true then 0 else 20
theorem err_good {s:Sc} {p o:Pt} {x:Br×Wt}:errW s p o x=0↔GoodW s p o x:=by
 unfold errW
 constructor
 ·
  intro h
  split at h
  · cases h
  ·
   rename_i h1
   split at h
   ·
    rename_i h2
    refine⟨okB_iff.1 h2,fun n hn he=>h1 ?_⟩
    unfold tak
    rw[List.any_eq_true]
    exact⟨n,hn,by simpa using he⟩
   · cases h
 ·
  intro h
  rw[if_neg,if_pos (okB_iff.2 h.ok)]
  unfold tak
  rw[List.any_eq_true]
  rintro⟨n,hn,he⟩
  exact h.fresh n hn (by simpa using he)
theorem err_two {s:Sc} {p o:Pt} {x:Br×Wt} (h:errW s p o x≠0):errW s p o x=20∨errW s p o x=5:=by
 unfold errW at *
 split at h
 · rename_i h1;exact .inr (if_pos h1)
 ·
  rename_i h1
  split at h
  · exact absurd rfl h
  · rename_i h2;exact .inl (by rw[if_neg h1,if_neg h2])
theorem tak_get {s:Sc} {o:Pt} (hnd:((othersL s o).map Nt.id).Nodup) (id:Int):vmGet (kvOf Nt.id trueV (othersL s o)) id (.bool false) (.bool (tak s o id)) (tak s o id):=by
 cases h:tak s o id with
 |
  true=>
  unfold tak at h
  rw[List.any_eq_true] at h
  obtain⟨n,hn,he⟩:=h
  have he':n.id=id:=by simpa using he
  have h9:=kv_yes (f:=Nt.id) (g:=trueV) (z:=.bool false) hnd hn
  rw[he'] at h9
  exact h9
 |
  false=>
  refine kv_no fun hm=>?_
  obtain⟨n,hn,he⟩:=List.mem_map.1 hm
  have:tak s o id=true:=by
   unfold tak
   rw[List.any_eq_true]
   exact⟨n,hn,by simpa using he⟩
  rw[h] at this;cases this
noncomputable def atW (s:Sc) (v:Vw) (p o:Pt) (k:Nat):Nt×Int:=match (pairsW s.bars v.ms)[k]? with
 | some x=>(ownN p o x.1 x.2,errW s p o x)
 | none=>(zeroN 0,0)
theorem atW_get {s:Sc} {v:Vw} {p o:Pt} {k:Nat} {x:Br×Wt} (h:(pairsW s.bars v.ms)[k]?=some x):atW s v p o k=(ownN p o x.1 x.2,errW s p o x):=by unfold atW;rw[h]
abbrev D66_:List (Option Nat):=[some 27,some 28,some 29,some 30,some 31,some 32,some 33,some 34,some 35,some 26,some 36,some 37,some 9,none,some 10]
abbrev D67_:List (Option Nat):=[some 42,some 43,some 44,some 45,some 46,some 47,some 48,some 49,some 50]
theorem all1_iter {S:Nat→Prop} {w:World} {b1 b2 b3 r:Nat} {a:ScA} {s:Sc} {pa o:Pt} {z:Sl} {v:Vw} {B:Nat→Prop} {m:Nat} {stop:Bool} (hN:GN w) (h1:At w ⟨b1,0,none⟩ [.int .i64 v.part,.slice z.1 v.ms.length z.2]) (hb1l:b1<w.heap.size) (h2:At w ⟨b2,0,none⟩ [.int .i64 pa.id,.int .i64 pa.sec,.int .i64 pa.src,.int .i64 pa.oct,.int .i64 pa.desks,.int .i64 pa.sa,.int .i64 pa.sb,.int .i64 pa.low.1,.int .i64 pa.low.2.1,.int .i64 pa.low.2.2,.int .i64 pa.high.1,.int .i64 pa.high.2.1,.int .i64 pa.high.2.2,.int .i64 s.ver,.slice a.b.1 s.bars.length a.b.2,.slice a.p.1 s.parts.length a.p.2,.slice a.n.1 s.notes.length a.n.2,.int .i64 o.id,.int .i64 o.sec,.int .i64 o.src,.int .i64 o.oct,.int .i64 o.desks,.int .i64 o.sa,.int .i64 o.sb,.int .i64 o.low.1,.int .i64 o.low.2.1,.int .i64 o.low.2.2,.int .i64 o.high.1,.int .i64 o.high.2.1,.int .i64 o.high.2.2]) (hb2l:b2<w.heap.size) (h3:At w ⟨b3,0,none⟩ [.map (some r)]) (hb3l:b3<w.heap.size) (hr:w.heap[r]?=some (.map (vmE (kvOf Nt.id trueV (othersL s o))) (kvOf Nt.id trueV (othersL s o)).length))
  (hs:ScR S w a s) (hl:rMss.rd S w [.slice z.1 v.ms.length z.2] v.ms) (hS:∀ b,S b→b<w.heap.size→¬ B b) (hb1:¬ B b1) (hb2:¬ B b2) (hb3:¬ B b3) (hbr:¬ B r) (hG:¬ B 0) (hv:VwOk s v) (ho:Owner s pa o) (hm1:∀ k x,k<m→(pairsW s.bars v.ms)[k]?=some x→errW s pa o x=0) (hm2:stop=true→∃ x,(pairsW s.bars v.ms)[m]?=some x∧errW s pa o x≠0) (hm3:stop=false→m=(pairsW s.bars v.ms).length) :
  IterZ Tryz.prog 67 #[.pointer (some ⟨b1,0,none⟩),.pointer (some ⟨b2,0,none⟩),.pointer (some ⟨b3,0,none⟩)] m stop (fun k:Nat=>[ntA (atW s v pa o k).1,.int .i64 (atW s v pa o k).2]) (fun k y _ _=>y=k) (fun _=>False) B w:=by
 intro ll Ji Jx hst hstx hY hYs hJ0
 obtain⟨z1,z2⟩:=z
 have hsS:ScR (fun b=>¬ B b∧¬ b∈([]:List Nat)) w a s:=⟨Rp.mono _ hs.b fun b hb hlt=>⟨hS b hb hlt,by simp⟩,Rp.mono _ hs.p fun b hb hlt=>⟨hS b hb hlt,by simp⟩,Rp.mono _ hs.n fun b hb hlt=>⟨hS b hb hlt,by simp⟩⟩
 have hlb:(Rp.slice rBr).rd (fun b=>¬ B b∧¬ b∈([]:List Nat)) w [.slice a.b.1 s.bars.length a.b.2] s.bars:=hsS.b
 have hlm:(Rp.slice rMs).rd (fun b=>¬ B b∧¬ b∈([]:List Nat)) w [.slice z1 v.ms.length z2] v.ms:=Rp.mono _ hl fun b hb hlt=>⟨hS b hb hlt,by simp⟩
 have hok:=hv.sc
 have hvl:=hv.len
 have hbl:=hok.bars.len
 have hple:=pairs_len hvl
 have hmle:m≤(pairsW s.bars v.ms).length:=by
  cases hq:stop with
  | false=>rw[hm3 hq];exact Nat.le_refl _
  | true=>obtain⟨x,h4,_⟩:=hm2 hq;exact Nat.le_of_lt (List.getElem?_eq_some_iff.1 h4).1
 have hb1':(fun b=>¬ B b∧¬ b∈([]:List Nat)) b1:=⟨hb1,by simp⟩
 have hb2':(fun b=>¬ B b∧¬ b∈([]:List Nat)) b2:=⟨hb2,by simp⟩
 have hb3':(fun b=>¬ B b∧¬ b∈([]:List Nat)) b3:=⟨hb3,by simp⟩
 have hbr':(fun b=>¬ B b∧¬ b∈([]:List Nat)) r:=⟨hbr,by simp⟩
 have hG':(fun b=>¬ B b∧¬ b∈([]:List Nat)) 0:=⟨hG,by simp⟩
 have hrz:r<w.heap.size:=(Array.getElem?_eq_some_iff.1 hr).1
 refine iter_of (R:=fun w'=>(stop=false→∃ L,Ji m L w')∧(stop=true→Jx w')) [] [.val (.func (.yield ll) #[] #[]),.val (.pointer (some ⟨b1,0,none⟩)),.val (.pointer (some ⟨b2,0,none⟩)),.val (.pointer (some ⟨b3,0,none⟩))] 53 B Tryz.func67 rfl rfl rfl (by simp) rfl rfl (by simp) (by simp) ?_
 show W Tryz.prog _ _ ⟨53,initE 0 _,[],[((fun b=>¬ b∈[]),w),((fun b=>¬ B b∧¬ b∈[]),w)],[]⟩
 refine W.sub (τ:=⟨53,initE 0 [.val (.func (.yield ll) #[] #[]),.val (.pointer (some ⟨b1,0,none⟩)),.val (.pointer (some ⟨b2,0,none⟩)),.val (.pointer (some ⟨b3,0,none⟩))],[],[((fun b=>¬ False),w),((fun b=>¬ B b∧¬ b∈([]:List Nat)),w)],[]⟩) (fun ρ a w9 h=>⟨ρ,h.size,h.defers,h.env,h.base.own,h.base.apart,fun p hp=>by
  rcases List.mem_cons.1 hp with rfl | hp
  ·
   have h9:=h.base.keep ((fun b=>¬ b∈([]:List Nat)),w) (by simp)
   exact⟨h9.1.mono fun b _ _=>by simp,fun k o b hk=>by simp at hk⟩
  · exact h.base.keep p (List.mem_cons_of_mem _ hp)⟩) ?_
 refine W.seqK fun K1 k1=>W.region ?_
 refine WO.go 1 dn ?_
 simp only[E,F,J,M,R,Tz,V,X,Y,reduceIte,G,H,sz]
 refine WO.q dn rfl rfl (QR.load [.slice z1 v.ms.length z2] false rfl rfl agg27 sz27 (.inr rfl) (fun ρ w1 hb=>((h1.part 1 1)).frame ((hb.at (S:=(fun b=>¬ B b∧¬ b∈([]:List Nat))) (s:=w) (by simp[St.put,initE])).block _ (by rw[add_blk];exact hb1') (by rw[add_blk];exact hb1l)))) ?_
 simp only[ofCells,if_true,List.toList_toArray,sr]
 refine WO.go 2 dn ?_
 simp only[E,F,J,M,R,Tz,V,X,Y,reduceIte,G,H,sz]
 refine WO.nil ?_
 refine k1 _ ?_
 refine W.block ?_
 refine W.loopO (X:=Nat×World) [0,2,3,12,13] (fun x9=>[(14,.val (.int .i64 (x9.1:Int)))]) (fun x9=>[]) (fun x9=>[((fun b=>¬ False),x9.2),((fun b=>¬ B b∧¬ b∈([]:List Nat)),w)]) (fun x9=>x9.1≤v.ms.length∧(allW (v.ms.take x9.1)).length≤m∧Ji (allW (v.ms.take x9.1)).length x9.2.heap.size x9.2) (fun x9=>v.ms.length - x9.1) (0,w) ?_ ?_ ?_
 · exact⟨rfl,by simp[getE,bnd,keepE],⟨[],by simp⟩,by simp[Own.bnd,bndL,bnd,boxO],by simp⟩
 ·
  exact⟨Nat.zero_le _,Nat.zero_le _,hJ0⟩
 ·
  rintro⟨i,sw⟩ ⟨hi,hcm,hJi⟩
  simp only at hi hcm hJi
  simp only[E,F,J,M,R,Tz,V,X,Y,reduceIte,sxk,G,H,sz]
  refine W.pure dn fun K2 k2=>?_
  simp only[E,F,J,M,R,Tz,V,X,Y,reduceIte,G,H,sz];refine k2 _ ?_
  refine W.seqK fun K3 k3=>?_
  refine W.cond rfl rfl (fun hc=>?_) fun hc=>?_
  ·
   have hlt:i<v.ms.length:=by simpa using hc
   obtain⟨y,hy⟩:=len_lt (rfl:v.ms.length=_) hlt
   obtain⟨b,hbi⟩:=len_lt (rfl:s.bars.length=_) (show i<s.bars.length by omega)
   have hst9:=wlen_step hy
   have hnl9:y.notes.length≤20000:=by have:=hv.few;have:=wlen_le v.ms (i+1);omega
   refine W.skip (k3 _ ?_)
   refine W.seqK fun K4 k4=>?_
   refine W.block ?_
   refine W.seqK fun K5 k5=>W.region ?_
   refine WO.go 1 dn ?_
   simp only[E,F,J,M,R,Tz,V,X,Y,reduceIte,G,H,sz]
   refine WO.elem (y:=y) hlm (by simp[St.put]) dn rfl rfl (by simp[St.put]) (fun _=>rfl) rfl rfl rfl rfl rfl el27 agg60 sz60 (.inl rfl) (by omega) (hy) fun p ces hces=>?_
   obtain⟨p9,c9,rfl,hwr⟩:=rMs_open hces
   clear hces
   simp only[ofCells,sr]
   refine WO.go 3 dn ?_
   simp only[E,F,J,M,R,Tz,V,X,Y,reduceIte,G,H,sz]
   refine WO.nil ?_
   refine k5 _ ?_
   refine W.pure dn fun K6 k6=>?_
   simp only[E,F,J,M,R,Tz,V,X,Y,reduceIte,G,H,sz];refine k6 _ ?_
   refine W.block ?_
   refine W.loopO (X:=Nat×World) [0,2,3,5,12,13,14,20,21] (fun x8=>[(22,.val (.int .i64 (x8.1:Int)))]) (fun x8=>[]) (fun x8=>[((fun b=>¬ False),x8.2),((fun b=>¬ B b∧¬ b∈([]:List Nat)),w)]) (fun x8=>x8.1≤y.notes.length∧(allW (v.ms.take i)).length+x8.1≤m∧Ji ((allW (v.ms.take i)).length+x8.1) x8.2.heap.size x8.2) (fun x8=>y.notes.length - x8.1) (0,sw) ?_ ?_ ?_
   · exact⟨rfl,by simp[getE,bnd,keepE],⟨[.cells 60 [.val (.int .i64 y.bar),.val (.int .i64 y.key),.val (.int .i64 y.len.1),.val (.int .i64 y.len.2),.val (.slice p9 y.notes.length c9)]],by simp⟩,by simp[Own.bnd,bndL,bnd,boxO],by simp⟩
   ·
    exact⟨Nat.zero_le _,hcm,hJi⟩
   ·
    rintro⟨j,sj⟩ ⟨hj,hcj,hJj⟩
    simp only at hj hcj hJj
    simp only[E,F,J,M,R,Tz,V,X,Y,reduceIte,sxk,G,H,sz]
    refine W.pure dn fun K7 k7=>?_
    simp only[E,F,J,M,R,Tz,V,X,Y,reduceIte,G,H,sz];refine k7 _ ?_
    refine W.seqK fun K8 k8=>?_
    refine W.cond rfl rfl (fun hc=>?_) fun hc=>?_
    ·
     have hlj:j<y.notes.length:=by simpa using hc
     obtain⟨u,hu⟩:=len_lt (rfl:y.notes.length=_) hlj
     have hpg:=pairs_get hbi hy hu
     have hat:=atW_get (p:=pa) (o:=o) hpg
     have hfa:=hv.formA (List.mem_of_getElem? hpg)
     have hplt:=(List.getElem?_eq_some_iff.1 hpg).1
     have hkm:((allW (v.ms.take i)).length+j<m∧errW s pa o (b,u)=0)∨((allW (v.ms.take i)).length+j=m∧stop=true∧errW s pa o (b,u)≠0):=by
      rcases Nat.lt_or_ge ((allW (v.ms.take i)).length+j) m with h | h
      · exact .inl ⟨h,hm1 _ _ h hpg⟩
      ·
       have he:(allW (v.ms.take i)).length+j=m:=by omega
       cases hq:stop with
       | false=>have:=hm3 hq;omega
       |
        true=>
        obtain⟨x9,h4,h5⟩:=hm2 hq
        rw[← he,hpg] at h4
        obtain rfl:=Option.some.inj h4
        exact .inr ⟨he,rfl,h5⟩
     refine W.skip (k8 _ ?_)
     refine W.seqK fun K9 k9=>?_
     refine W.block ?_
     refine W.seqK fun K10 k10=>W.region ?_
     refine WO.elem (y:=u) hwr (by simp[St.put]) dn rfl rfl (by simp[St.put]) (fun _=>rfl) rfl rfl rfl rfl rfl el58 agg62 sz62 (.inl rfl) (by omega) (hu) fun p ces hces=>?_
     have hces:ces=wtV u:=hces
     subst hces
     simp only[wtV,ofCells,if_true,List.toList_toArray,sr]
     refine WO.go 2 dn ?_
     simp only[E,F,J,M,R,Tz,V,X,Y,reduceIte,G,H,sz]
     refine WO.nil ?_
     refine k10 _ ?_
     refine W.seqK fun K11 k11=>?_
     refine W.regionS (ds:=D66_) (tg:=[none,none,none,none,none,none,none,none,none,none,none,none,some 1,some 1,none]) [⟨[],[],[2],[1],none,false⟩,⟨[],[],[2],[1],none,false⟩,⟨[1],[1],[],[1],none,false⟩,⟨[1,2],[2],[],[1],none,false⟩,⟨[],[],[5],[1],none,false⟩,⟨[1,2,3,4],[3,4],[],[1],none,false⟩,⟨[1,2,3,4,5],[5],[],[1],none,false⟩,⟨[],[],[8],[1],none,false⟩,⟨[0,1,2,3,4,5,6,7],[0,6,7],[],[1],none,false⟩,⟨[0,1,2,3,4,5,6,7,8],[8],[],[1],none,false⟩,⟨[0,1,2,3,4,5,6,7,8,9],[9],[],[1],none,false⟩,⟨[0,1,2,3,4,5,6,7,8,9],[9],[],[1],none,false⟩,⟨[],[],[],[],some 1,true⟩,⟨[0,1,2,3,4,5,6,7,8,9,10,12],[12,10],[],[],some 1,false⟩,⟨[0,1,2,3,4,5,6,7,8,9,10,11,12,13],[11],[],[],none,false⟩] 1 1 53 mixed rfl rfl (by kernel_rfl) (by kernel_rfl) ?_
     simp only[E,F,J,M,R,Tz,V,X,Y,reduceIte,sxs,G,H,sa,sz]
     refine WS.q rfl rfl (QR.load [.int .i64 pa.id,.int .i64 pa.sec,.int .i64 pa.src,.int .i64 pa.oct,.int .i64 pa.desks,.int .i64 pa.sa,.int .i64 pa.sb,.int .i64 pa.low.1,.int .i64 pa.low.2.1,.int .i64 pa.low.2.2,.int .i64 pa.high.1,.int .i64 pa.high.2.1,.int .i64 pa.high.2.2,.int .i64 s.ver,.slice a.b.1 s.bars.length a.b.2,.slice a.p.1 s.parts.length a.p.2,.slice a.n.1 s.notes.length a.n.2,.int .i64 o.id,.int .i64 o.sec,.int .i64 o.src,.int .i64 o.oct,.int .i64 o.desks,.int .i64 o.sa,.int .i64 o.sb,.int .i64 o.low.1,.int .i64 o.low.2.1,.int .i64 o.low.2.2,.int .i64 o.high.1,.int .i64 o.high.2.1,.int .i64 o.high.2.2] true rfl rfl agg80 sz80 (.inl rfl) (fun ρ w1 hb=>(h2).frame ((hb.at (S:=(fun b=>¬ B b∧¬ b∈([]:List Nat))) (s:=w) (by simp[stAt,initE])).block _ hb2' hb2l))) ?_
     simp only[ofCells,if_true,List.toList_toArray,sr]
     simp only[E,F,J,M,R,Tz,V,X,Y,reduceIte,sxs,G,H,sa,sz]
     refine WS.go rfl rfl rfl ?_
     simp only[E,F,J,M,R,Tz,V,X,Y,reduceIte,sxs,G,H,sa,sz]
     refine WS.go rfl rfl rfl ?_
     simp only[E,F,J,M,R,Tz,V,X,Y,reduceIte,sxs,G,H,sa,sz]
     refine WS.q rfl rfl (QR.load [.slice a.b.1 s.bars.length a.b.2] false rfl rfl agg22 sz22 (.inr rfl) (fun ρ w1 hb=>((h2.part 14 1)).frame ((hb.at (S:=(fun b=>¬ B b∧¬ b∈([]:List Nat))) (s:=w) (by simp[stAt,initE])).block _ (by rw[add_blk];exact hb2') (by rw[add_blk];exact hb2l)))) ?_
     simp only[ofCells,if_true,List.toList_toArray,sr]
     simp only[E,F,J,M,R,Tz,V,X,Y,reduceIte,sxs,G,H,sa,sz]
     refine WS.go rfl rfl rfl ?_
     simp only[E,F,J,M,R,Tz,V,X,Y,reduceIte,sxs,G,H,sa,sz]
     refine WS.elem (y:=b) hlb (by simp) rfl rfl (fun _=>rfl) rfl rfl rfl (fun _=>rfl) rfl rfl el22 agg75 sz75 (.inl rfl) (by omega) (hbi) fun p ces hces=>?_
     have hces:ces=brV b:=hces
     subst hces
     simp only[brV,ofCells,if_true,List.toList_toArray,sr]
     simp only[E,F,J,M,R,Tz,V,X,Y,reduceIte,sxs,G,H,sa,sz]
     refine WS.go rfl rfl rfl ?_
     simp only[E,F,J,M,R,Tz,V,X,Y,reduceIte,sxs,G,H,sa,sz]
     refine WS.call (.tuple #[(ntq (ownN pa o b u)),.int .i64 (if okB pa o b u=true then 0 else 20)]) rfl rfl rfl co68 (fun ρ w1 hb=>lput_spec (a:=a) (hN.keep (hb.at (S:=(fun b=>¬ B b∧¬ b∈([]:List Nat))) (s:=w) (by simp[stAt])) hG') (hsS.keep (hb.at (S:=(fun b=>¬ B b∧¬ b∈([]:List Nat))) (s:=w) (by simp[stAt]))) hok ho b hfa.1 u hfa.2) ?_
     simp only[E,F,J,M,R,Tz,V,X,Y,reduceIte,sxs,G,H,sa,sz]
     refine WS.go rfl rfl rfl ?_
     simp only[E,F,J,M,R,Tz,V,X,Y,reduceIte,sxs,G,H,sa,sz]
     refine WS.go rfl rfl rfl ?_
     simp only[E,F,J,M,R,Tz,V,X,Y,reduceIte,sxs,G,H,sa,sz]
     refine WS.go rfl rfl rfl ?_
     simp only[E,F,J,M,R,Tz,V,X,Y,reduceIte,sxs,G,H,sa,sz]
     refine WS.alloc rfl rfl ze89 rfl rfl ?_
     simp only[E,F,J,M,R,Tz,V,X,Y,reduceIte,sxs,G,H,sa,sz]
     refine WS.store rfl rfl rfl rfl rfl rfl rfl sz89 (Nat.le_of_ble_eq_true rfl) rfl ?_
     simp only[E,F,J,M,R,Tz,V,X,Y,reduceIte,sxs,G,H,sa,sz]
     refine WS.go rfl rfl rfl ?_
     simp only[E,F,J,M,R,Tz,V,X,Y,reduceIte,sxs,G,H,sa,sz]
     refine WS.nil [0,1,2,3,4,5,6,7,8,9,10,11,12,13,14] rfl rfl ?_
     simp only[E,F,J,M,R,Tz,V,X,Y,reduceIte,sxs,G,H,sa,sz]
     refine k11 _ ?_
     refine W.seqK fun K12 k12=>?_
     refine W.seqK fun K13 k13=>W.region ?_
     refine WO.q dn rfl rfl (QR.load [.map (some r)] false rfl rfl agg82 sz82 (.inr rfl) (fun ρ w1 hb=>(h3).frame ((hb.at (S:=(fun b=>¬ B b∧¬ b∈([]:List Nat))) (s:=w) (by simp[St.put,initE])).block _ hb3' hb3l))) ?_
     simp only[ofCells,if_true,List.toList_toArray,sr]
     refine WO.go 2 dn ?_
     simp only[E,F,J,M,R,Tz,V,X,Y,reduceIte,G,H,sz]
     refine WO.q dn rfl rfl (QR.lookup (r:=r) (ks:=(kvOf Nt.id trueV (othersL s o))) (.bool false) (.bool (tak s o u.id)) (tak s o u.id) false rfl rfl rfl (fun ρ w1 hb=>((hb.at (S:=(fun b=>¬ B b∧¬ b∈([]:List Nat))) (s:=w) (by simp[St.put])).block r hbr' hrz).trans hr) (by kernel_rfl) (tak_get (others_nd hok o) u.id)) ?_
     simp only[Bool.false_eq_true,if_false,if_true]
     simp only[E,F,J,M,R,Tz,V,X,Y,reduceIte,G,H,sz]
     refine WO.nil ?_
     refine k13 _ ?_
     refine W.cond rfl rfl (fun hc=>?_) fun hc=>?_
     ·
      have hta:tak s o u.id=true:=by simpa using hc
      have hE:errW s pa o (b,u)=5:=if_pos hta
      refine W.region ?_
      refine WO.go 1 dn ?_
      simp only[E,F,J,M,R,Tz,V,X,Y,reduceIte,G,H,sz]
      refine WO.nil ?_
      refine k12 _ ?_
      refine W.seqK fun K14 k14=>?_
      rcases hkm with⟨hgd,he0⟩ | ⟨hmk,hstop,he1⟩
      · exact absurd (hE.symm.trans he0) (by decide)
      ·
       have hYi:∀ w1,Ji ((allW (v.ms.take i)).length+j) sj.heap.size w1→_:=fun w1 h=>hYs hstop sj.heap.size m w1 rfl (by rw[← hmk];exact h)
       simp only[← hmk,hat,hE] at hYi
       refine WI.region ?_
       refine WI.pre 3 ?_
       simp only[List.take_succ_cons,List.take_zero,List.drop_succ_cons,List.drop_zero,List.toList_toArray]
       refine WO.go 3 (ds:=D67_) rfl ?_
       simp only[E,F,J,M,R,Tz,V,X,Y,reduceIte,G,H,sz]
       refine WO.nil ?_
       refine⟨rfl,?_⟩
       refine WI.fresh [0,2,3,5,10,12,13,14,20,21,22,42,43,44] rfl ?_
       simp only[E,F,J,M,R,Tz,V,X,Y,reduceIte,sxk,G,H,sz]
       refine WI.yieldZ2 (v0:=(ntq (ownN pa o b u))) (v1:=.int .i64 5) (B:=B) (J':=Jx) false [((fun b=>¬ B b∧¬ b∈([]:List Nat)),w)] (fun b=>False) (ds:=D67_) rfl rfl rfl rfl rfl rfl (fun _=>rfl) rfl (fun _=>rfl) (fun ρ w1 hb=>?_) (fun p hp=>?_) (fun ρ k o b hk hn=>?_) fun s2 hJ2=>?_
       · exact hYi w1 (hst _ _ sj w1 hJj ((hb.at (S:=fun b=>¬ False) (s:=sj) (by simp[St.put]))))
       · rw[List.mem_singleton] at hp;subst hp;exact⟨by simp[St.put],fun b h _=>h.1⟩
       · simp at hk
       simp only[E,F,J,M,R,Tz,V,X,Y,reduceIte,G,H,sz]
       refine WI.pre 5 ?_
       simp only[List.take_succ_cons,List.take_zero,List.drop_succ_cons,List.drop_zero,List.toList_toArray]
       refine WO.go 5 (ds:=D67_) rfl ?_
       simp only[E,F,J,M,R,Tz,V,X,Y,reduceIte,H,G,sz]
       refine WO.nil ?_
       refine⟨rfl,WI.nil ?_⟩
       refine k14 _ ?_
       refine W.cond rfl rfl (fun hc=>?_) fun hc=>?_
       rotate_left
       ·
        simp at hc
       ·
        refine W.ret ?_
        refine⟨by simp,rfl,?_⟩
        try simp only[E,F,J,M,R,Tz,V,X,Y,reduceIte,sxr,G,H,sz]
        intro ρ w1 hb
        exact⟨(fun h=>by rw[hstop] at h;cases h),fun _=>hstx _ _ hJ2 (hb.at (S:=fun b=>¬ False) (by simp))⟩
     ·
      have hta:¬ tak s o u.id=true:=by simpa using hc
      have hE:errW s pa o (b,u)=(if okB pa o b u=true then 0 else 20):=if_neg hta
      refine W.skip (k12 _ ?_)
      refine W.seqK fun K15 k15=>?_
      rcases hkm with⟨hgd,he0⟩ | ⟨hmk,hstop,he1⟩
      ·
       have hE0:(if okB pa o b u=true then 0 else 20)=(0:Int):=hE.symm.trans he0
       have hYi:∀ w1,Ji ((allW (v.ms.take i)).length+j) sj.heap.size w1→_:=fun w1 h=>hY ((allW (v.ms.take i)).length+j) sj.heap.size ((allW (v.ms.take i)).length+j) w1 hgd rfl h
       simp only[hat,he0] at hYi
       simp only[hE0]
       refine WI.region ?_
       refine WI.pre 3 ?_
       simp only[List.take_succ_cons,List.take_zero,List.drop_succ_cons,List.drop_zero,List.toList_toArray]
       refine WO.go 3 (ds:=D67_) rfl ?_
       simp only[E,F,J,M,R,Tz,V,X,Y,reduceIte,G,H,sz]
       refine WO.nil ?_
       refine⟨rfl,?_⟩
       refine WI.fresh [0,2,3,5,10,12,13,14,20,21,22,42,43,44] rfl ?_
       simp only[E,F,J,M,R,Tz,V,X,Y,reduceIte,sxk,G,H,sz]
       refine WI.yieldZ2 (v0:=(ntq (ownN pa o b u))) (v1:=.int .i64 0) (B:=B) (J':=fun w'=>Ji ((allW (v.ms.take i)).length+j+1) w'.heap.size w') true [((fun b=>¬ B b∧¬ b∈([]:List Nat)),w)] (fun b=>False) (ds:=D67_) rfl rfl rfl rfl rfl rfl (fun _=>rfl) rfl (fun _=>rfl) (fun ρ w1 hb=>?_) (fun p hp=>?_) (fun ρ k o b hk hn=>?_) fun s2 hJ2=>?_
       · exact hYi w1 (hst _ _ sj w1 hJj ((hb.at (S:=fun b=>¬ False) (s:=sj) (by simp[St.put]))))
       · rw[List.mem_singleton] at hp;subst hp;exact⟨by simp[St.put],fun b h _=>h.1⟩
       · simp at hk
       simp only[E,F,J,M,R,Tz,V,X,Y,reduceIte,G,H,sz]
       refine WI.pre 5 ?_
       simp only[List.take_succ_cons,List.take_zero,List.drop_succ_cons,List.drop_zero,List.toList_toArray]
       refine WO.go 5 (ds:=D67_) rfl ?_
       simp only[E,F,J,M,R,Tz,V,X,Y,reduceIte,H,G,sz]
       refine WO.nil ?_
       refine⟨rfl,WI.nil ?_⟩
       refine k15 _ ?_
       refine W.cond rfl rfl (fun hc=>?_) fun hc=>?_
       ·
        simp at hc
       ·
        refine W.skip (k9 _ ?_)
        refine W.region ?_
        refine WO.go 2 dn ?_
        simp only[E,F,J,M,R,Tz,V,X,Y,reduceIte,G,H,sz]
        refine WO.nil ?_
        refine⟨(j+1,s2),⟨hlj,hgd,hJ2⟩,by simp only;omega,rfl,by simp[getE,bnd,keepE,wrap_succ (show j+1≤9223372036854775807 by omega)],⟨_,rfl⟩,by simp[Own.bnd,bndL,bnd,boxO],by simp⟩
      ·
       have hYi:∀ w1,Ji ((allW (v.ms.take i)).length+j) sj.heap.size w1→_:=fun w1 h=>hYs hstop sj.heap.size m w1 rfl (by rw[← hmk];exact h)
       simp only[← hmk,hat,hE] at hYi
       refine WI.region ?_
       refine WI.pre 3 ?_
       simp only[List.take_succ_cons,List.take_zero,List.drop_succ_cons,List.drop_zero,List.toList_toArray]
       refine WO.go 3 (ds:=D67_) rfl ?_
       simp only[E,F,J,M,R,Tz,V,X,Y,reduceIte,G,H,sz]
       refine WO.nil ?_
       refine⟨rfl,?_⟩
       refine WI.fresh [0,2,3,5,10,12,13,14,20,21,22,42,43,44] rfl ?_
       simp only[E,F,J,M,R,Tz,V,X,Y,reduceIte,sxk,G,H,sz]
       refine WI.yieldZ2 (v0:=(ntq (ownN pa o b u))) (v1:=.int .i64 (if okB pa o b u=true then 0 else 20)) (B:=B) (J':=Jx) false [((fun b=>¬ B b∧¬ b∈([]:List Nat)),w)] (fun b=>False) (ds:=D67_) rfl rfl rfl rfl rfl rfl (fun _=>rfl) rfl (fun _=>rfl) (fun ρ w1 hb=>?_) (fun p hp=>?_) (fun ρ k o b hk hn=>?_) fun s2 hJ2=>?_
       · exact hYi w1 (hst _ _ sj w1 hJj ((hb.at (S:=fun b=>¬ False) (s:=sj) (by simp[St.put]))))
       · rw[List.mem_singleton] at hp;subst hp;exact⟨by simp[St.put],fun b h _=>h.1⟩
       · simp at hk
       simp only[E,F,J,M,R,Tz,V,X,Y,reduceIte,G,H,sz]
       refine WI.pre 5 ?_
       simp only[List.take_succ_cons,List.take_zero,List.drop_succ_cons,List.drop_zero,List.toList_toArray]
       refine WO.go 5 (ds:=D67_) rfl ?_
       simp only[E,F,J,M,R,Tz,V,X,Y,reduceIte,H,G,sz]
       refine WO.nil ?_
       refine⟨rfl,WI.nil ?_⟩
       refine k15 _ ?_
       refine W.cond rfl rfl (fun hc=>?_) fun hc=>?_
       rotate_left
       ·
        simp at hc
       ·
        refine W.ret ?_
        refine⟨by simp,rfl,?_⟩
        try simp only[E,F,J,M,R,Tz,V,X,Y,reduceIte,sxr,G,H,sz]
        intro ρ w1 hb
        exact⟨(fun h=>by rw[hstop] at h;cases h),fun _=>hstx _ _ hJ2 (hb.at (S:=fun b=>¬ False) (by simp))⟩
    ·
     have hgj:j=y.notes.length:=Nat.le_antisymm hj (by simpa using hc)
     subst hgj
     refine W.exit (k4 _ ?_)
     refine W.region ?_
     refine WO.go 2 dn ?_
     simp only[E,F,J,M,R,Tz,V,X,Y,reduceIte,G,H,sz]
     refine WO.nil ?_
     refine⟨(i+1,sj),⟨hlt,by simp only;rw[hst9];exact hcj,by simp only;rw[hst9];exact hJj⟩,by simp only;omega,rfl,by simp[getE,bnd,keepE,wrap_succ (show i+1≤9223372036854775807 by omega)],⟨_,rfl⟩,by simp[Own.bnd,bndL,bnd,boxO],by simp⟩
  ·
   have hcnt:(allW (v.ms.take i)).length=(allW v.ms).length:=by
    rw[List.take_of_length_le (by simpa using hc)]
   refine W.exit ?_
   refine⟨by simp,rfl,?_⟩
   try simp only[E,F,J,M,R,Tz,V,X,Y,reduceIte,sxr,G,H,sz]
   intro ρ w1 hb
   refine⟨fun hs9=>⟨_,by rw[hm3 hs9,hple,← hcnt];exact hst _ _ _ _ hJi (hb.at (S:=fun b=>¬ False) (by simp))⟩,fun hs9=>?_⟩
   obtain⟨x9,h4,_⟩:=hm2 hs9
   have:=(List.getElem?_eq_some_iff.1 h4).1
   omega
theorem row_sing {α:Type} {f:α→List Value} {x:α}:rowV f [x]=f x:=by simp[rowV]
theorem ScR.no {S D:Nat→Prop} {w:World} {a:ScA} {s:Sc} (h:ScR S w a s) (hD:∀ b,D b→∃ d,w.heap[b]?=some (.deferred d)):ScR (fun b=>S b∧¬ D b) w a s:=
 ⟨row_no h.b (fun ces x hx=>⟨by rw[show ces=brV x from hx];simp[brV],hx⟩) hD,row_no h.p (fun ces x hx=>⟨by rw[show ces=ptV x from hx];simp[ptV],hx⟩) hD,row_no h.n (fun ces x hx=>⟨by rw[show ces=ntV x from hx];simp[ntV],hx⟩) hD⟩
theorem ScR.mono {S S':Nat→Prop} {w:World} {a:ScA} {s:Sc} (h:ScR S w a s) (hS:∀ b,S b→b<w.heap.size→S' b):ScR S' w a s:=⟨Rp.mono _ h.b hS,Rp.mono _ h.p hS,Rp.mono _ h.n hS⟩
noncomputable def newT (s:Sc) (v:Vw) (p o:Pt) (k:Nat):List Nt:=((pairsW s.bars v.ms).take k).map fun x=>ownN p o x.1 x.2
theorem newT_step {s:Sc} {v:Vw} {p o:Pt} {k:Nat} {x:Br×Wt} (h:(pairsW s.bars v.ms)[k]?=some x):newT s v p o (k+1)=newT s v p o k++[ownN p o x.1 x.2]:=by
 unfold newT;rw[List.take_add_one,h,List.map_append];rfl
theorem newT_all (s:Sc) (v:Vw) (p o:Pt):newT s v p o (pairsW s.bars v.ms).length=newL p o s.bars v.ms:=by
 unfold newT newL;rw[List.take_length]
theorem newT_len (s:Sc) (v:Vw) (p o:Pt) (k:Nat):(newT s v p o k).length≤(pairsW s.bars v.ms).length:=by
 unfold newT;rw[List.length_map,List.length_take];omega
theorem bad_ex {s:Sc} {v:Vw} {p o:Pt} (h:¬ Puts s v p o):∃ (m:Nat) (x:Br×Wt),(pairsW s.bars v.ms)[m]?=some x∧errW s p o x≠0∧∀ (k:Nat) (y:Br×Wt),k<m→(pairsW s.bars v.ms)[k]?=some y→errW s p o y=0:=by
 have hex:∃ (m:Nat),∃ x,(pairsW s.bars v.ms)[m]?=some x∧errW s p o x≠0:=by
  apply Classical.byContradiction
  intro hno
  refine h fun x hx=>err_good.1 (Classical.byContradiction fun he=>hno ?_)
  obtain⟨m,hm⟩:=List.mem_iff_getElem?.1 hx
  exact⟨m,x,hm,he⟩
 have hmin:∀ n:Nat,(∃ (m:Nat),m<n∧∃ x,(pairsW s.bars v.ms)[m]?=some x∧errW s p o x≠0)→∃ (m:Nat) (x:Br×Wt),(pairsW s.bars v.ms)[m]?=some x∧errW s p o x≠0∧∀ (k:Nat) (y:Br×Wt),k<m→(pairsW s.bars v.ms)[k]?=some y→errW s p o y=0:=by
  intro n
  induction n with
  | zero=>rintro⟨m,hm,_⟩;omega
  |
   succ n ih=>
   rintro⟨m,hm,x,h1,h2⟩
   by_cases hq:∃ (m':Nat),m'<n∧∃ x,(pairsW s.bars v.ms)[m']?=some x∧errW s p o x≠0
   · exact ih hq
   · exact⟨m,x,h1,h2,fun k y hk hy=>Classical.byContradiction fun he=>hq ⟨k,by omega,y,hy,he⟩⟩
 obtain⟨m,hm⟩:=hex
 exact hmin (m+1) ⟨m,by omega,hm⟩
theorem put_yes {S S2:Nat→Prop} {w:World} {a:ScA} {z:Sl} {s:Sc} {v:Vw} {ver:Int} {p o:Pt} (hN:GN w) (hs:ScR S w a s) (hl:rMss.rd S2 w [.slice z.1 v.ms.length z.2] v.ms) (hv:VwOk s v) (ho:Owner s p o) (hpi:p.id=v.part) (hver:within 1 1000000 ver=true) (hp:Puts s v p o) (hfew:s.notes.length+(allW v.ms).length≤20000):Gives Tryz.prog 8 #[scV a s,iv ver,vwV z v] w fun r w'=>∃ z9:ScA,r=.tuple #[scV z9 (withS s ver (putL s v p o)),iv 0,iv 0]∧ScR (fun b=>w.heap.size≤b) w' z9 (withS s ver (putL s v p o)):=by
 have lb:(Rp.slice rBr).rd (fun _=>True) w _ s.bars:=Rp.any hs.b
 have lp:(Rp.slice rPt).rd (fun _=>True) w _ s.parts:=Rp.any hs.p
 have ln:(Rp.slice rNt).rd (fun _=>True) w _ s.notes:=Rp.any hs.n
 have hs9:=hs.any
 have hM:Marks [] w w:=⟨List.nodup_nil,fun d hd=>by cases hd⟩
 obtain⟨z1,z2⟩:=z
 have hlv:(Rp.slice rMs).rd (fun _=>True) w [.slice z1 v.ms.length z2] v.ms:=Rp.any hl
 have hlv2:(Rp.slice rMs).rd (fun b=>b<w.heap.size) w [.slice z1 v.ms.length z2] v.ms:=Rp.mono _ hlv fun b hb hlt=>hlt
 have hple:=pairs_len hv.len
 have hver9:=within_iff.1 hver
 have hok:=hv.sc
 have hm1:∀ k x,k<(pairsW s.bars v.ms).length→(pairsW s.bars v.ms)[k]?=some x→errW s p o x=0:=fun k x _ hx=>err_good.2 (hp x (List.mem_of_getElem? hx))
 have hm2':false=true→∃ x,(pairsW s.bars v.ms)[(pairsW s.bars v.ms).length]?=some x∧errW s p o x≠0:=fun h=>by cases h
 have hm3:false=false→(pairsW s.bars v.ms).length=(pairsW s.bars v.ms).length:=fun _=>rfl
 generalize hmq:(pairsW s.bars v.ms).length=m at hm1 hm2' hm3
 have hmle:m≤(pairsW s.bars v.ms).length:=by omega
 have hm3:false=false→m=(pairsW s.bars v.ms).length:=fun _=>hmq.symm
 have hpn:=put_notes hv ho hp hfew
 have hpl:=put_len (p:=p) (o:=o) hv
 unfold scV vwV
 refine gives_of_marks2 [.agg (scw a s),wv ver,.agg [wv v.part,.val (.slice z1 v.ms.length z2)]] 68 [.cell 6 26,.cell 7 3,.cell 8 34] Tryz.func8 rfl rfl rfl (by simp) rfl rfl ?_
 refine W.pure dn fun K1 k1=>?_
 simp only[E,F,J,M,R,Tz,V,X,Y,reduceIte,G,H,sz];refine k1 _ ?_
 refine W.seqK fun K2 k2=>?_
 refine W.join 25 (.val (.bool false)) [1,3,5,6,7,8] (W.region ?_) ?_
 ·
  refine WO.go 3 (ds:=D32_) rfl ?_
  simp only[E,F,J,M,R,Tz,V,X,Y,reduceIte,G,H,sz]
  refine WO.cases 16 _ rfl (fun hg16=>?_) fun hg16=>?_
  ·
   simp at hg16;omega
  ·
   refine WO.go 4 (ds:=D32_) rfl ?_
   simp only[E,F,J,M,R,Tz,V,X,Y,reduceIte,G,H,sz]
   refine WO.cases 20 _ rfl (fun hg20=>?_) fun hg20=>?_
   ·
    simp at hg20;omega
   ·
    refine WO.go 2 (ds:=D32_) rfl ?_
    simp only[E,F,J,M,R,Tz,V,X,Y,reduceIte,G,H,sz]
    refine WO.call (.bool true) (ds:=D32_) rfl rfl rfl rfl co26 (fun ρ w1 hb=>vValid_spec (a:=a) (z:=(z1,z2)) (hN.now (hb.first (by simp[St.put]))) (ScR.now hs9 (hb.first (by simp[St.put]))) (Rp.now hlv (hb.first (by simp[St.put]))) hv) ?_
    refine WO.go 2 (ds:=D32_) rfl ?_
    simp only[E,F,J,M,R,Tz,V,X,Y,reduceIte,G,H,sz]
    refine WO.nil ?_
    refine⟨rfl,?_,⟨_,rfl⟩,by simp[Own.bnd,bndL,bnd,boxO],by simp⟩
    simp[getE,bnd,keepE]
    try omega
 ·
  simp only[E,F,J,M,R,Tz,V,X,Y,reduceIte,sxk,G,H,sz]
  refine W.cond rfl rfl (fun hc=>?_) fun hc=>?_
  ·
   simp at hc
  ·
   refine W.skip (k2 _ ?_)
   refine W.seqK fun K4 k4=>W.region ?_
   refine WO.go 3 dn ?_
   simp only[E,F,J,M,R,Tz,V,X,Y,reduceIte,G,H,sz]
   refine WO.call (.agg #[iv p.id,iv p.sec,iv p.src,iv p.oct,iv p.desks,iv p.sa,iv p.sb,iv p.low.1,iv p.low.2.1,iv p.low.2.2,iv p.high.1,iv p.high.2.1,iv p.high.2.2,iv s.ver,.slice a.b.1 s.bars.length a.b.2,.slice a.p.1 s.parts.length a.p.2,.slice a.n.1 s.notes.length a.n.2,iv o.id,iv o.sec,iv o.src,iv o.oct,iv o.desks,iv o.sa,iv o.sb,iv o.low.1,iv o.low.2.1,iv o.low.2.2,iv o.high.1,iv o.high.2.1,iv o.high.2.2]) dn rfl rfl rfl co27 (fun ρ w1 hb=>by rw[← hpi];exact newPlayer_spec (a:=a) (hN.now (hb.first (by simp[St.put]))) (ScR.now hs9 (hb.first (by simp[St.put]))) hok ho) ?_
   refine WO.go 2 dn ?_
   simp only[E,F,J,M,R,Tz,V,X,Y,reduceIte,G,H,sz]
   refine WO.nil ?_
   refine k4 _ ?_
   refine W.seqK fun K5 k5=>W.region ?_
   refine WO.go 1 dn ?_
   simp only[E,F,J,M,R,Tz,V,X,Y,reduceIte,G,H,sz]
   refine WO.callN (fun x:Nat×Option Addr×Nat=>.tuple #[.map (some x.1),.slice x.2.1 (othersL s o).length x.2.2]) (fun x=>[.map x.1 (vmE (kvOf Nt.id trueV (othersL s o))) (kvOf Nt.id trueV (othersL s o)).length,.slice 89 12 (.slice x.2.1 (othersL s o).length x.2.2) (othersL s o).length (rowV ntV (othersL s o))]) (fun _=>True) dn rfl rfl rfl co28 (by intro x o ho;simp at ho;rcases ho with rfl | rfl<;>rfl) (fun ρ w1 hb=>others_spec (a:=a) (ScR.now hs9 (hb.first (by simp[St.put]))) hv.sc p o) fun x _=>?_
   obtain⟨r9,q7,c7⟩:=x
   simp only[List.cons_append,List.nil_append]
   refine WO.go 6 dn ?_
   simp only[E,F,J,M,R,Tz,V,X,Y,reduceIte,G,H,sz]
   refine WO.nil ?_
   refine k5 _ ?_
   refine W.seqK fun K6 k6=>?_
   refine W.freeze [6] 10 (.val (.map (some r9))) rfl rfl (fun S sW vW=>vW=.map (some r9)∧S r9∧sW.heap[r9]?=some (.map (vmE (kvOf Nt.id trueV (othersL s o))) (kvOf Nt.id trueV (othersL s o)).length)) (fun ρ w1 hb=>⟨fun b=>b=r9,⟨rfl,rfl,own_map hb (k:=6) rfl⟩,fun k o' b hk hnk hnum hS=>?_⟩) fun SM sM vM ⟨hvM,hSM,hmp⟩=>?_
   · exact absurd (hb.apart k 6 o' _ b hk rfl hnum (by rw[hS];rfl)) (fun he=>hnk (by rw[he];simp))
   subst hvM
   simp only[Bool.false_eq_true,E,F,J,M,R,Tz,V,X,Y,reduceIte,sxd,sz]
   refine W.seqK fun K7 k7=>W.region ?_
   refine WO.go 3 dn ?_
   simp only[E,F,J,M,R,Tz,V,X,Y,reduceIte,G,H,sz]
   refine WO.callM (fun x:Nat×Nat×Nat=>.func (.func 67) #[] #[.pointer (some ⟨x.1,0,none⟩),.pointer (some ⟨x.2.1,0,none⟩),.pointer (some ⟨x.2.2,0,none⟩)]) (fun lo x s9=>(At s9 ⟨x.1,0,none⟩ [iv v.part,.slice z1 v.ms.length z2]∧At s9 ⟨x.2.1,0,none⟩ [iv p.id,iv p.sec,iv p.src,iv p.oct,iv p.desks,iv p.sa,iv p.sb,iv p.low.1,iv p.low.2.1,iv p.low.2.2,iv p.high.1,iv p.high.2.1,iv p.high.2.2,iv s.ver,.slice a.b.1 s.bars.length a.b.2,.slice a.p.1 s.parts.length a.p.2,.slice a.n.1 s.notes.length a.n.2,iv o.id,iv o.sec,iv o.src,iv o.oct,iv o.desks,iv o.sa,iv o.sb,iv o.low.1,iv o.low.2.1,iv o.low.2.2,iv o.high.1,iv o.high.2.1,iv o.high.2.2]∧At s9 ⟨x.2.2,0,none⟩ [.map (some r9)])∧(lo≤x.1∧lo≤x.2.1∧lo≤x.2.2)∧x.1<s9.heap.size∧x.2.1<s9.heap.size∧x.2.2<s9.heap.size) dn rfl rfl rfl co29 (fun ρ w1 hb=>all_spec w1 a s p o (z1,z2) v r9) fun x lo2 s2 hx=>?_
   obtain⟨y1,y2,y3⟩:=x
   simp only at hx
   simp only[E,F,J,M,R,Tz,V,X,Y,reduceIte,G,H,sz]
   refine WO.nil ?_
   refine k7 _ ?_
   refine W.block ?_
   refine W.pinA (by simp[smallO,boxO]) fun β=>?_
   simp only[pinEn,pinOw,pinOw_box,den,denL,Nat.zero_add,J]
   refine W.rangeZ (X:=List Nt×(Option Addr×Nat)×Int×Int) (Y:=Nat) (w0:=w) (s0:=w) m false (fun k:Nat=>[ntA (atW s v p o k).1,iv (atW s v p o k).2]) (fun k y _ _=>y=k) [1,3,6,7,8,11] (fun x=>[boxO 26 (β 0) (scl a s),boxO 29 (β 1) [iv v.part,.slice z1 v.ms.length z2],boxO 26 (β 2) [iv 0,.slice none 0 0,.slice none 0 0,.slice none 0 0],boxO 3 (β 3) [iv x.2.2.1],boxO 34 (β 4) [iv x.2.2.2],boxO 80 (β 5) [iv p.id,iv p.sec,iv p.src,iv p.oct,iv p.desks,iv p.sa,iv p.sb,iv p.low.1,iv p.low.2.1,iv p.low.2.2,iv p.high.1,iv p.high.2.1,iv p.high.2.2,iv s.ver,.slice a.b.1 s.bars.length a.b.2,.slice a.p.1 s.parts.length a.p.2,.slice a.n.1 s.notes.length a.n.2,iv o.id,iv o.sec,iv o.src,iv o.oct,iv o.desks,iv o.sa,iv o.sb,iv o.low.1,iv o.low.2.1,iv o.low.2.2,iv o.high.1,iv o.high.2.1,iv o.high.2.2],.dead,.slice 89 12 (.slice x.2.1.1 (othersL s o++x.1).length x.2.1.2) (othersL s o++x.1).length (rowV ntV (othersL s o++x.1)),boxO 24 (β 8) [.slice x.2.1.1 (othersL s o++x.1).length x.2.1.2]]) (fun _=>[]) (fun k (x:List Nt×(Option Addr×Nat)×Int×Int)=>x.1=newT s v p o k∧x.2.2.1=0∧x.2.2.2=0) (fun(x:List Nt×(Option Addr×Nat)×Int×Int)=>x.2.2.2=20∨x.2.2.2=5) ([],(q7,c7),0,0) [] (fun _=>False) (fun k x y=>[(12,.loc 9 0),(13,.val (iv (atW s v p o y).2)),(6,.val (.pointer (some ⟨(β 2),0,none⟩))),(7,.val (.pointer (some ⟨(β 3),0,none⟩))),(8,.val (.pointer (some ⟨(β 4),0,none⟩))),(11,.val (.pointer (some ⟨(β 8),0,none⟩)))]) (fun k x y=>[.cells 89 [.val (iv (atW s v p o y).1.id),.val (iv (atW s v p o y).1.part),.val (iv (atW s v p o y).1.bar),.val (iv (atW s v p o y).1.voice),.val (iv (atW s v p o y).1.ossia),.val (iv (atW s v p o y).1.start.1),.val (iv (atW s v p o y).1.start.2),.val (iv (atW s v p o y).1.len.1),.val (iv (atW s v p o y).1.len.2),.val (iv (atW s v p o y).1.pit.1),.val (iv (atW s v p o y).1.pit.2.1),.val (iv (atW s v p o y).1.pit.2.2)]]) [] rfl (by kernel_rfl) (by simp[keepE,getE,bnd]) (by simp only[List.append_nil]) ?_ (by intro t h;simp only[List.mem_cons,List.not_mem_nil,or_false] at h;rcases h with rfl | rfl<;>(show _<68;decide)) (by decide) (fun _=>rfl) (fun _ h=>h.elim) ⟨rfl,rfl,rfl⟩ rfl ?_ ?_ ?_ (fun h=>by cases h) (by simp) (by simp) hM ?_ (fun h=>by cases h)
   ·
    intro x o ho;simp only[List.append_nil,List.mem_cons,List.not_mem_nil,or_false] at ho
    rcases ho with rfl | rfl | rfl | rfl | rfl | rfl | rfl | rfl | rfl<;>rfl
   ·
    intro ρ w1 hb w2 hk hlt hap
    have hm2:((fun b=>lo2≤b),s2)∈[((fun b=>lo2≤b),s2),(SM,sM),((fun b=>b∈([]:List Nat)),w),((fun _=>True),w)]:=by simp
    have hmM:(SM,sM)∈[((fun b=>lo2≤b),s2),(SM,sM),((fun b=>b∈([]:List Nat)),w),((fun _=>True),w)]:=by simp
    have hm0:((fun _=>True),w)∈[((fun b=>lo2≤b),s2),(SM,sM),((fun b=>b∈([]:List Nat)),w),((fun _=>True),w)]:=by simp
    have hfr:∀ o',o'∈[boxO 26 (β 0) (scl a s),boxO 29 (β 1) [iv v.part,.slice z1 v.ms.length z2],boxO 26 (β 2) [iv 0,.slice none 0 0,.slice none 0 0,.slice none 0 0],boxO 3 (β 3) [iv (x1_ q7 c7).2.2.1],boxO 34 (β 4) [iv (x1_ q7 c7).2.2.2],boxO 80 (β 5) [iv p.id,iv p.sec,iv p.src,iv p.oct,iv p.desks,iv p.sa,iv p.sb,iv p.low.1,iv p.low.2.1,iv p.low.2.2,iv p.high.1,iv p.high.2.1,iv p.high.2.2,iv s.ver,.slice a.b.1 s.bars.length a.b.2,.slice a.p.1 s.parts.length a.p.2,.slice a.n.1 s.notes.length a.n.2,iv o.id,iv o.sec,iv o.src,iv o.oct,iv o.desks,iv o.sa,iv o.sb,iv o.low.1,iv o.low.2.1,iv o.low.2.2,iv o.high.1,iv o.high.2.1,iv o.high.2.2],.dead,.slice 89 12 (.slice (x1_ q7 c7).2.1.1 (othersL s o++(x1_ q7 c7).1).length (x1_ q7 c7).2.1.2) (othersL s o++(x1_ q7 c7).1).length (rowV ntV (othersL s o++(x1_ q7 c7).1)),boxO 24 (β 8) [.slice (x1_ q7 c7).2.1.1 (othersL s o++(x1_ q7 c7).1).length (x1_ q7 c7).2.1.2]]→freeO o'=true:=by
     intro o' ho';simp only[List.mem_cons,List.not_mem_nil,or_false] at ho'
     rcases ho' with rfl | rfl | rfl | rfl | rfl | rfl | rfl | rfl | rfl<;>rfl
    have hpre:∀ (j:Nat) (o':Go.SX.Own),([boxO 26 (β 0) (scl a s),boxO 29 (β 1) [iv v.part,.slice z1 v.ms.length z2],boxO 26 (β 2) [iv 0,.slice none 0 0,.slice none 0 0,.slice none 0 0],boxO 3 (β 3) [iv (x1_ q7 c7).2.2.1],boxO 34 (β 4) [iv (x1_ q7 c7).2.2.2],boxO 80 (β 5) [iv p.id,iv p.sec,iv p.src,iv p.oct,iv p.desks,iv p.sa,iv p.sb,iv p.low.1,iv p.low.2.1,iv p.low.2.2,iv p.high.1,iv p.high.2.1,iv p.high.2.2,iv s.ver,.slice a.b.1 s.bars.length a.b.2,.slice a.p.1 s.parts.length a.p.2,.slice a.n.1 s.notes.length a.n.2,iv o.id,iv o.sec,iv o.src,iv o.oct,iv o.desks,iv o.sa,iv o.sb,iv o.low.1,iv o.low.2.1,iv o.low.2.2,iv o.high.1,iv o.high.2.1,iv o.high.2.2],.dead,.slice 89 12 (.slice (x1_ q7 c7).2.1.1 (othersL s o++(x1_ q7 c7).1).length (x1_ q7 c7).2.1.2) (othersL s o++(x1_ q7 c7).1).length (rowV ntV (othersL s o++(x1_ q7 c7).1)),boxO 24 (β 8) [.slice (x1_ q7 c7).2.1.1 (othersL s o++(x1_ q7 c7).1).length (x1_ q7 c7).2.1.2]])[j]?=some o'→([boxO 26 (β 0) (scl a s),boxO 29 (β 1) [iv v.part,.slice z1 v.ms.length z2],boxO 26 (β 2) [iv 0,.slice none 0 0,.slice none 0 0,.slice none 0 0],boxO 3 (β 3) [iv (x1_ q7 c7).2.2.1],boxO 34 (β 4) [iv (x1_ q7 c7).2.2.2],boxO 80 (β 5) [iv p.id,iv p.sec,iv p.src,iv p.oct,iv p.desks,iv p.sa,iv p.sb,iv p.low.1,iv p.low.2.1,iv p.low.2.2,iv p.high.1,iv p.high.2.1,iv p.high.2.2,iv s.ver,.slice a.b.1 s.bars.length a.b.2,.slice a.p.1 s.parts.length a.p.2,.slice a.n.1 s.notes.length a.n.2,iv o.id,iv o.sec,iv o.src,iv o.oct,iv o.desks,iv o.sa,iv o.sb,iv o.low.1,iv o.low.2.1,iv o.low.2.2,iv o.high.1,iv o.high.2.1,iv o.high.2.2],.dead,.slice 89 12 (.slice (x1_ q7 c7).2.1.1 (othersL s o).length (x1_ q7 c7).2.1.2) (othersL s o).length (rowV ntV (othersL s o)),boxO 24 (β 8) [.slice (x1_ q7 c7).2.1.1 (othersL s o).length (x1_ q7 c7).2.1.2]])[j]?=some o':=fun j o' hj=>by simpa using hj
    exact all1_iter (S:=fun b=>b<w.heap.size) (z:=(z1,z2)) (GN.now (GN.now hN (hb.first hm0)) hk) (snap_at hb hm2 hk hx.1.1 hx.2.1.1 hx.2.2.1) (snap_lt hb hm2 hk hx.2.2.1) (snap_at hb hm2 hk hx.1.2.1 hx.2.1.2.1 hx.2.2.2.1) (snap_lt hb hm2 hk hx.2.2.2.1) (snap_at hb hm2 hk hx.1.2.2 hx.2.1.2.2 hx.2.2.2.2) (snap_lt hb hm2 hk hx.2.2.2.2)
     ((hk.block r9 trivial (Nat.lt_of_lt_of_le (Array.getElem?_eq_some_iff.1 hmp).1 (hb.at hmM).size)).trans (((hb.at hmM).block r9 hSM (Array.getElem?_eq_some_iff.1 hmp).1).trans hmp))
     ((ScR.mono hs9 fun b _ h=>h).keep ((hb.first hm0).mono fun _ _ _=>trivial) |>.keep (hk.mono fun _ _ _=>trivial)) (Rp.keep (Rp.keep hlv2 ((hb.first hm0).mono fun _ _ _=>trivial)) (hk.mono fun _ _ _=>trivial)) (fun b hb9 _=>snap_apart (S:=fun _=>True) hb hm0 hfr hpre trivial hb9) (snap_apart hb hm2 hfr hpre hx.2.1.1 hx.2.2.1) (snap_apart hb hm2 hfr hpre hx.2.1.2.1 hx.2.2.2.1) (snap_apart hb hm2 hfr hpre hx.2.1.2.2 hx.2.2.2.2) (snap_apart hb hmM hfr hpre hSM (Array.getElem?_eq_some_iff.1 hmp).1) (snap_apart (S:=fun _=>True) hb hm0 hfr hpre trivial hN.2) hv ho hm1 hm2' hm3
   ·
    intro ll k x y L S sw hV hSL
    simp only[zipE,ntA,List.cons_append,List.nil_append]
    have hKa8:=onN_i fun t=>Le t ⟨68,[(12,.loc 9 0),(13,.val (iv (atW s v p o y).2)),(6,.val (.pointer (some ⟨(β 2),0,none⟩))),(7,.val (.pointer (some ⟨(β 3),0,none⟩))),(8,.val (.pointer (some ⟨(β 4),0,none⟩))),(11,.val (.pointer (some ⟨(β 8),0,none⟩)))],[boxO 26 (β 0) (scl a s),boxO 29 (β 1) [iv v.part,.slice z1 v.ms.length z2],boxO 26 (β 2) [iv 0,.slice none 0 0,.slice none 0 0,.slice none 0 0],boxO 3 (β 3) [iv x.2.2.1],boxO 34 (β 4) [iv x.2.2.2],boxO 80 (β 5) [iv p.id,iv p.sec,iv p.src,iv p.oct,iv p.desks,iv p.sa,iv p.sb,iv p.low.1,iv p.low.2.1,iv p.low.2.2,iv p.high.1,iv p.high.2.1,iv p.high.2.2,iv s.ver,.slice a.b.1 s.bars.length a.b.2,.slice a.p.1 s.parts.length a.p.2,.slice a.n.1 s.notes.length a.n.2,iv o.id,iv o.sec,iv o.src,iv o.oct,iv o.desks,iv o.sa,iv o.sb,iv o.low.1,iv o.low.2.1,iv o.low.2.2,iv o.high.1,iv o.high.2.1,iv o.high.2.2],.dead,.slice 89 12 (.slice x.2.1.1 (othersL s o++x.1).length x.2.1.2) (othersL s o++x.1).length (rowV ntV (othersL s o++x.1)),boxO 24 (β 8) [.slice x.2.1.1 (othersL s o++x.1).length x.2.1.2]]++[.cells 89 [.val (iv (atW s v p o y).1.id),.val (iv (atW s v p o y).1.part),.val (iv (atW s v p o y).1.bar),.val (iv (atW s v p o y).1.voice),.val (iv (atW s v p o y).1.ossia),.val (iv (atW s v p o y).1.start.1),.val (iv (atW s v p o y).1.start.2),.val (iv (atW s v p o y).1.len.1),.val (iv (atW s v p o y).1.len.2),.val (iv (atW s v p o y).1.pit.1),.val (iv (atW s v p o y).1.pit.2.1),.val (iv (atW s v p o y).1.pit.2.2)]],(S,sw)::([]++[((fun b=>lo2≤b),s2),(SM,sM),((fun b=>b∈([]:List Nat)),w),((fun _=>True),w)]),[]⟩
    refine W.pure dn fun K9 k9=>?_
    simp only[E,F,J,M,R,Tz,V,X,Y,reduceIte,G,H,sz];refine k9 _ ?_
    refine W.region ?_
    refine WO.go 1 dn ?_
    simp only[E,F,J,M,R,Tz,V,X,Y,reduceIte,G,H,sz]
    refine WO.nil ?_
    refine hKa8 _ ?_
    exact⟨rfl,by simp[getE,bnd,keepE],⟨[],by simp⟩,by simp[Own.bnd,bndL,bnd,boxO],by simp⟩
   ·
    intro ll k x y L0 L S sw S2 s2' hk hIx hV hSL hL0 hsL hLs hLS hLw
    obtain⟨xs,⟨q5,c5⟩,ni,ne⟩:=x
    obtain⟨hI1,hI2,hI3⟩:=hIx
    simp only at hI1 hI2 hI3 hV
    subst hV
    subst hI2
    subst hI3
    have hxl:xs.length≤20000:=by
     rw[hI1];have:=newT_len s v p o y;have:=hple;have:=hv.few;omega
    have hol:(othersL s o).length≤20000:=by
     have h9:(othersL s o).length≤s.notes.length:=by unfold othersL;exact List.length_filter_le _ _
     have:=hv.sc.notes.len;omega
    have hlln:(othersL s o++xs).length≤40000:=by rw[List.length_append];omega
    obtain⟨⟨b,u⟩,hpg⟩:∃ x,(pairsW s.bars v.ms)[y]?=some x:=⟨_,List.getElem?_eq_getElem (show y<_ by omega)⟩
    have hat:=atW_get (p:=p) (o:=o) hpg
    have he0:=hm1 y _ hk hpg
    simp only[hat,he0]
    have hns:=newT_step (p:=p) (o:=o) hpg
    have hKr10:=onN_i fun t=>(∃ x':List Nt×(Option Addr×Nat)×Int×Int,(fun k (x:List Nt×(Option Addr×Nat)×Int×Int)=>x.1=newT s v p o k∧x.2.2.1=0∧x.2.2.2=0) (y+1) x'∧(∀ p,p∈([]:List ((Nat→Prop)×World))→∀ b,p.1 b→L0≤b)∧Le t ⟨68,[],[boxO 26 (β 0) (scl a s),boxO 29 (β 1) [iv v.part,.slice z1 v.ms.length z2],boxO 26 (β 2) [iv 0,.slice none 0 0,.slice none 0 0,.slice none 0 0],boxO 3 (β 3) [iv x'.2.2.1],boxO 34 (β 4) [iv x'.2.2.2],boxO 80 (β 5) [iv p.id,iv p.sec,iv p.src,iv p.oct,iv p.desks,iv p.sa,iv p.sb,iv p.low.1,iv p.low.2.1,iv p.low.2.2,iv p.high.1,iv p.high.2.1,iv p.high.2.2,iv s.ver,.slice a.b.1 s.bars.length a.b.2,.slice a.p.1 s.parts.length a.p.2,.slice a.n.1 s.notes.length a.n.2,iv o.id,iv o.sec,iv o.src,iv o.oct,iv o.desks,iv o.sa,iv o.sb,iv o.low.1,iv o.low.2.1,iv o.low.2.2,iv o.high.1,iv o.high.2.1,iv o.high.2.2],.dead,.slice 89 12 (.slice x'.2.1.1 (othersL s o++x'.1).length x'.2.1.2) (othersL s o++x'.1).length (rowV ntV (othersL s o++x'.1)),boxO 24 (β 8) [.slice x'.2.1.1 (othersL s o++x'.1).length x'.2.1.2]],(S,sw)::(S2,s2')::([]++[((fun b=>lo2≤b),s2),(SM,sM),((fun b=>b∈([]:List Nat)),w),((fun _=>True),w)]),[]⟩)
    refine W.block ?_
    refine W.seqK fun K11 k11=>?_
    refine W.pure dn fun K12 k12=>?_
    simp only[E,F,J,M,R,Tz,V,X,Y,reduceIte,G,H,sz];refine k12 _ ?_
    refine W.cond rfl rfl (fun hc=>?_) fun hc=>?_
    ·
     simp at hc
    ·
     refine W.skip (k11 _ ?_)
     refine W.region ?_
     refine WO.loadBox (k:=8) (i:=0) (sz:=1) rfl dn rfl rfl rfl rfl (by simp[Addr.add_mid]) (by simp) agg24 sz24 (.inr rfl) ?_
     simp only[ofCells,if_true,List.toList_toArray,sr]
     refine WO.go 2 dn ?_
     simp only[E,F,J,M,R,Tz,V,X,Y,reduceIte,G,H,sz]
     refine WO.append (k:=7) (m:=1) [iv (ownN p o b u).id,iv (ownN p o b u).part,iv (ownN p o b u).bar,iv (ownN p o b u).voice,iv (ownN p o b u).ossia,iv (ownN p o b u).start.1,iv (ownN p o b u).start.2,iv (ownN p o b u).len.1,iv (ownN p o b u).len.2,iv (ownN p o b u).pit.1,iv (ownN p o b u).pit.2.1,iv (ownN p o b u).pit.2.2] dn rfl rfl rfl rfl rfl rfl ek24 (news_own (k2:=10) rfl fun _=>rfl) rfl (by simp[Value.oneCell']) (by rw[maxLen_eq];omega) (by omega) fun p6 c6=>?_
     simp only[E,F,J,M,R,Tz,V,X,Y,reduceIte,G,H,sz]
     refine WO.storeBox (k:=8) (i:=0) rfl dn rfl rfl rfl rfl (by simp[Addr.add_mid]) (by simp) rfl rfl sz24 ?_
     simp only[E,F,J,M,R,Tz,V,X,Y,reduceIte,G,H,sz]
     refine WO.nil ?_
     refine hKr10 _ ?_
     refine⟨(xs++[ownN p o b u],(p6,c6),0,0),⟨?_,rfl,rfl⟩,(fun p hp=>by cases hp),⟨rfl,by simp,⟨_,by simp[row_sing,row_app,ntV,Nat.add_assoc];rfl⟩,by simp[Own.bnd,bndL,bnd,boxO],fun p hp=>by simpa using hp⟩⟩
     simp only
     rw[hns,← hI1]
   intro _ D2 s3 x hIx hM2
   obtain⟨xs,⟨q5,c5⟩,ni,ne⟩:=x
   obtain⟨hI1,hI2,hI3⟩:=hIx
   simp only at hI1 hI2 hI3
   subst hI2
   subst hI3
   rw[hm3 rfl,newT_all] at hI1
   subst hI1
   refine k6 _ ?_
   simp only[E,F,J,M,R,Tz,V,X,Y,reduceIte,sxk,G,H,sz]
   refine W.unpin β ⟨68,[(1,wv ver),(3,.loc 0 0),(6,.loc 2 0),(7,.loc 3 0),(8,.loc 4 0),(11,.loc 8 0)],[.cells 26 (scw a s),.cells 29 [wv v.part,.val (.slice z1 v.ms.length z2)],.cells 26 [wv 0,.val (.slice none 0 0),.val (.slice none 0 0),.val (.slice none 0 0)],.cells 3 [wv 0],.cells 34 [wv 0],.cells 80 [wv p.id,wv p.sec,wv p.src,wv p.oct,wv p.desks,wv p.sa,wv p.sb,wv p.low.1,wv p.low.2.1,wv p.low.2.2,wv p.high.1,wv p.high.2.1,wv p.high.2.2,wv s.ver,.val (.slice a.b.1 s.bars.length a.b.2),.val (.slice a.p.1 s.parts.length a.p.2),.val (.slice a.n.1 s.notes.length a.n.2),wv o.id,wv o.sec,wv o.src,wv o.oct,wv o.desks,wv o.sa,wv o.sb,wv o.low.1,wv o.low.2.1,wv o.low.2.2,wv o.high.1,wv o.high.2.1,wv o.high.2.2],.dead,.slice 89 12 (.slice q5 (othersL s o++newL p o s.bars v.ms).length c5) (othersL s o++newL p o s.bars v.ms).length (rowV ntV (othersL s o++newL p o s.bars v.ms)),.cells 24 [.val (.slice q5 (othersL s o++newL p o s.bars v.ms).length c5)]],((fun b=>b∈[D2]),s3)::([]++[((fun b=>lo2≤b),s2),(SM,sM),((fun b=>b∈([]:List Nat)),w),((fun _=>True),w)]),_⟩ rfl (by simp[getE,den,bnd]) ⟨.inr ⟨_,_,rfl,rfl,rfl⟩,.inr ⟨_,_,rfl,rfl,rfl⟩,.inr ⟨_,_,rfl,rfl,rfl⟩,.inr ⟨_,_,rfl,rfl,rfl⟩,.inr ⟨_,_,rfl,rfl,rfl⟩,.inr ⟨_,_,rfl,rfl,rfl⟩,.inl ⟨rfl,rfl⟩,.inl ⟨rfl,rfl⟩,.inr ⟨_,_,rfl,rfl,rfl⟩,trivial⟩ (by simp) ?_
   refine W.seqK fun K13 k13=>?_
   refine W.pure dn fun K14 k14=>?_
   simp only[E,F,J,M,R,Tz,V,X,Y,reduceIte,G,H,sz];refine k14 _ ?_
   refine W.cond rfl rfl (fun hc=>?_) fun hc=>?_
   ·
    (simp at hc;have:=hpl;unfold putL at this;simp only[List.length_append] at this;omega)
   ·
    refine W.skip (k13 _ ?_)
    refine W.seqK fun K15 k15=>W.region ?_
    refine WO.go 3 dn ?_
    simp only[E,F,J,M,R,Tz,V,X,Y,reduceIte,G,H,sz]
    refine WO.callM (fun z:ScA=>.tuple #[scV z (withS s ver (putL s v p o)),iv 0]) (fun lo z s9=>ScR (fun b=>lo≤b) s9 z (withS s ver (putL s v p o))∧w.heap.size≤lo) dn rfl rfl rfl co30 (fun ρ w1 hb=>(sWith_spec (a:=a) (hN.now (hb.first (by simp[St.put]))) (ScR.now hs9 (hb.first (by simp[St.put]))) (owr_read (S:=fun _=>True) (j:=7) (T:=89) (k:=12) (f:=ntV) (h:=fun _=>rfl) (xs:=putL s v p o) hb rfl (fun _ _=>trivial)) hok hver hpn.1 hpn.2).mono fun r w2 _ ⟨z,h1,h2⟩=>⟨z,h1,h2,(hb.first (by simp[St.put])).size⟩) fun z9 lo3 s4 hz=>?_
    obtain⟨hz,hlo3⟩:=hz
    unfold scV
    simp only
    refine WO.go 5 dn ?_
    simp only[E,F,J,M,R,Tz,V,X,Y,reduceIte,G,H,sz]
    refine WO.nil ?_
    refine k15 _ ?_
    refine W.seqK fun K16 k16=>?_
    refine W.pure dn fun K17 k17=>?_
    simp only[E,F,J,M,R,Tz,V,X,Y,reduceIte,G,H,sz];refine k17 _ ?_
    refine W.cond rfl rfl (fun hc=>?_) fun hc=>?_
    ·
     simp at hc
    ·
     refine W.skip (k16 _ ?_)
     refine W.pure dn fun K18 k18=>?_
     simp only[E,F,J,M,R,Tz,V,X,Y,reduceIte,G,H,sz];refine k18 _ ?_
     refine W.ret ?_
     refine⟨by simp,[D2],s3,⟨rfl,by simp,hM2⟩,RunR.ex ?_⟩
     simp only[E,F,J,M,R,Tz,V,X,Y,reduceIte,sxr,G,H,sz]
     intro ρ w9 w1 hb9 hk9 hb
     refine⟨z9,rfl,?_⟩
     have hz2:ScR (fun b=>lo3≤b) w9 z9 (withS s ver (putL s v p o)):=hz.keep (hb9.at (S:=fun b=>lo3≤b) (s:=s4) (by simp))
     have hz3:=hz2.no (D:=fun b=>b∈[D2]) (fun b hb8=>by
      obtain⟨_,q2,q3⟩:=hM2.2 b hb8
      exact⟨_,((hb9.at (S:=fun b=>b∈[D2]) (s:=s3) (by simp)).block b hb8 q2).trans q3⟩)
     exact(hz3.keep (hk9.mono fun b hb8 _=>hb8.2)).mono fun b hb8 _=>Nat.le_trans hlo3 hb8.1
theorem put_no {S S2:Nat→Prop} {w:World} {a:ScA} {z:Sl} {s:Sc} {v:Vw} {ver:Int} {p o:Pt} (hN:GN w) (hs:ScR S w a s) (hl:rMss.rd S2 w [.slice z.1 v.ms.length z.2] v.ms) (hv:VwOk s v) (ho:Owner s p o) (hpi:p.id=v.part) (hver:within 1 1000000 ver=true) (hp:¬ Puts s v p o):Gives Tryz.prog 8 #[scV a s,iv ver,vwV z v] w fun r w'=>∃ ni e:Int,r=.tuple #[.agg #[iv 0,.slice none 0 0,.slice none 0 0,.slice none 0 0],iv ni,iv e]∧(e=20∨e=5):=by
 have lb:(Rp.slice rBr).rd (fun _=>True) w _ s.bars:=Rp.any hs.b
 have lp:(Rp.slice rPt).rd (fun _=>True) w _ s.parts:=Rp.any hs.p
 have ln:(Rp.slice rNt).rd (fun _=>True) w _ s.notes:=Rp.any hs.n
 have hs9:=hs.any
 have hM:Marks [] w w:=⟨List.nodup_nil,fun d hd=>by cases hd⟩
 obtain⟨z1,z2⟩:=z
 have hlv:(Rp.slice rMs).rd (fun _=>True) w [.slice z1 v.ms.length z2] v.ms:=Rp.any hl
 have hlv2:(Rp.slice rMs).rd (fun b=>b<w.heap.size) w [.slice z1 v.ms.length z2] v.ms:=Rp.mono _ hlv fun b hb hlt=>hlt
 have hple:=pairs_len hv.len
 have hver9:=within_iff.1 hver
 have hok:=hv.sc
 obtain⟨m,x9,hx9,hbad,hm1⟩:=bad_ex hp
 have hm2':true=true→∃ x,(pairsW s.bars v.ms)[m]?=some x∧errW s p o x≠0:=fun _=>⟨x9,hx9,hbad⟩
 have hm3:true=false→m=(pairsW s.bars v.ms).length:=fun h=>by cases h
 have hmle:m≤(pairsW s.bars v.ms).length:=Nat.le_of_lt (List.getElem?_eq_some_iff.1 hx9).1
 unfold scV vwV
 refine gives_of_marks2 [.agg (scw a s),wv ver,.agg [wv v.part,.val (.slice z1 v.ms.length z2)]] 68 [.cell 6 26,.cell 7 3,.cell 8 34] Tryz.func8 rfl rfl rfl (by simp) rfl rfl ?_
 refine W.pure dn fun K1 k1=>?_
 simp only[E,F,J,M,R,Tz,V,X,Y,reduceIte,G,H,sz];refine k1 _ ?_
 refine W.seqK fun K2 k2=>?_
 refine W.join 25 (.val (.bool false)) [1,3,5,6,7,8] (W.region ?_) ?_
 ·
  refine WO.go 3 (ds:=D32_) rfl ?_
  simp only[E,F,J,M,R,Tz,V,X,Y,reduceIte,G,H,sz]
  refine WO.cases 16 _ rfl (fun hg16=>?_) fun hg16=>?_
  ·
   simp at hg16;omega
  ·
   refine WO.go 4 (ds:=D32_) rfl ?_
   simp only[E,F,J,M,R,Tz,V,X,Y,reduceIte,G,H,sz]
   refine WO.cases 20 _ rfl (fun hg20=>?_) fun hg20=>?_
   ·
    simp at hg20;omega
   ·
    refine WO.go 2 (ds:=D32_) rfl ?_
    simp only[E,F,J,M,R,Tz,V,X,Y,reduceIte,G,H,sz]
    refine WO.call (.bool true) (ds:=D32_) rfl rfl rfl rfl co26 (fun ρ w1 hb=>vValid_spec (a:=a) (z:=(z1,z2)) (hN.now (hb.first (by simp[St.put]))) (ScR.now hs9 (hb.first (by simp[St.put]))) (Rp.now hlv (hb.first (by simp[St.put]))) hv) ?_
    refine WO.go 2 (ds:=D32_) rfl ?_
    simp only[E,F,J,M,R,Tz,V,X,Y,reduceIte,G,H,sz]
    refine WO.nil ?_
    refine⟨rfl,?_,⟨_,rfl⟩,by simp[Own.bnd,bndL,bnd,boxO],by simp⟩
    simp[getE,bnd,keepE]
    try omega
 ·
  simp only[E,F,J,M,R,Tz,V,X,Y,reduceIte,sxk,G,H,sz]
  refine W.cond rfl rfl (fun hc=>?_) fun hc=>?_
  ·
   simp at hc
  ·
   refine W.skip (k2 _ ?_)
   refine W.seqK fun K4 k4=>W.region ?_
   refine WO.go 3 dn ?_
   simp only[E,F,J,M,R,Tz,V,X,Y,reduceIte,G,H,sz]
   refine WO.call (.agg #[iv p.id,iv p.sec,iv p.src,iv p.oct,iv p.desks,iv p.sa,iv p.sb,iv p.low.1,iv p.low.2.1,iv p.low.2.2,iv p.high.1,iv p.high.2.1,iv p.high.2.2,iv s.ver,.slice a.b.1 s.bars.length a.b.2,.slice a.p.1 s.parts.length a.p.2,.slice a.n.1 s.notes.length a.n.2,iv o.id,iv o.sec,iv o.src,iv o.oct,iv o.desks,iv o.sa,iv o.sb,iv o.low.1,iv o.low.2.1,iv o.low.2.2,iv o.high.1,iv o.high.2.1,iv o.high.2.2]) dn rfl rfl rfl co27 (fun ρ w1 hb=>by rw[← hpi];exact newPlayer_spec (a:=a) (hN.now (hb.first (by simp[St.put]))) (ScR.now hs9 (hb.first (by simp[St.put]))) hok ho) ?_
   refine WO.go 2 dn ?_
   simp only[E,F,J,M,R,Tz,V,X,Y,reduceIte,G,H,sz]
   refine WO.nil ?_
   refine k4 _ ?_
   refine W.seqK fun K5 k5=>W.region ?_
   refine WO.go 1 dn ?_
   simp only[E,F,J,M,R,Tz,V,X,Y,reduceIte,G,H,sz]
   refine WO.callN (fun x:Nat×Option Addr×Nat=>.tuple #[.map (some x.1),.slice x.2.1 (othersL s o).length x.2.2]) (fun x=>[.map x.1 (vmE (kvOf Nt.id trueV (othersL s o))) (kvOf Nt.id trueV (othersL s o)).length,.slice 89 12 (.slice x.2.1 (othersL s o).length x.2.2) (othersL s o).length (rowV ntV (othersL s o))]) (fun _=>True) dn rfl rfl rfl co28 (by intro x o ho;simp at ho;rcases ho with rfl | rfl<;>rfl) (fun ρ w1 hb=>others_spec (a:=a) (ScR.now hs9 (hb.first (by simp[St.put]))) hv.sc p o) fun x _=>?_
   obtain⟨r9,q7,c7⟩:=x
   simp only[List.cons_append,List.nil_append]
   refine WO.go 6 dn ?_
   simp only[E,F,J,M,R,Tz,V,X,Y,reduceIte,G,H,sz]
   refine WO.nil ?_
   refine k5 _ ?_
   refine W.seqK fun K6 k6=>?_
   refine W.freeze [6] 10 (.val (.map (some r9))) rfl rfl (fun S sW vW=>vW=.map (some r9)∧S r9∧sW.heap[r9]?=some (.map (vmE (kvOf Nt.id trueV (othersL s o))) (kvOf Nt.id trueV (othersL s o)).length)) (fun ρ w1 hb=>⟨fun b=>b=r9,⟨rfl,rfl,own_map hb (k:=6) rfl⟩,fun k o' b hk hnk hnum hS=>?_⟩) fun SM sM vM ⟨hvM,hSM,hmp⟩=>?_
   · exact absurd (hb.apart k 6 o' _ b hk rfl hnum (by rw[hS];rfl)) (fun he=>hnk (by rw[he];simp))
   subst hvM
   simp only[Bool.false_eq_true,E,F,J,M,R,Tz,V,X,Y,reduceIte,sxd,sz]
   refine W.seqK fun K7 k7=>W.region ?_
   refine WO.go 3 dn ?_
   simp only[E,F,J,M,R,Tz,V,X,Y,reduceIte,G,H,sz]
   refine WO.callM (fun x:Nat×Nat×Nat=>.func (.func 67) #[] #[.pointer (some ⟨x.1,0,none⟩),.pointer (some ⟨x.2.1,0,none⟩),.pointer (some ⟨x.2.2,0,none⟩)]) (fun lo x s9=>(At s9 ⟨x.1,0,none⟩ [iv v.part,.slice z1 v.ms.length z2]∧At s9 ⟨x.2.1,0,none⟩ [iv p.id,iv p.sec,iv p.src,iv p.oct,iv p.desks,iv p.sa,iv p.sb,iv p.low.1,iv p.low.2.1,iv p.low.2.2,iv p.high.1,iv p.high.2.1,iv p.high.2.2,iv s.ver,.slice a.b.1 s.bars.length a.b.2,.slice a.p.1 s.parts.length a.p.2,.slice a.n.1 s.notes.length a.n.2,iv o.id,iv o.sec,iv o.src,iv o.oct,iv o.desks,iv o.sa,iv o.sb,iv o.low.1,iv o.low.2.1,iv o.low.2.2,iv o.high.1,iv o.high.2.1,iv o.high.2.2]∧At s9 ⟨x.2.2,0,none⟩ [.map (some r9)])∧(lo≤x.1∧lo≤x.2.1∧lo≤x.2.2)∧x.1<s9.heap.size∧x.2.1<s9.heap.size∧x.2.2<s9.heap.size) dn rfl rfl rfl co29 (fun ρ w1 hb=>all_spec w1 a s p o (z1,z2) v r9) fun x lo2 s2 hx=>?_
   obtain⟨y1,y2,y3⟩:=x
   simp only at hx
   simp only[E,F,J,M,R,Tz,V,X,Y,reduceIte,G,H,sz]
   refine WO.nil ?_
   refine k7 _ ?_
   refine W.block ?_
   refine W.pinA (by simp[smallO,boxO]) fun β=>?_
   simp only[pinEn,pinOw,pinOw_box,den,denL,Nat.zero_add,J]
   refine W.rangeZ (X:=List Nt×(Option Addr×Nat)×Int×Int) (Y:=Nat) (w0:=w) (s0:=w) m true (fun k:Nat=>[ntA (atW s v p o k).1,iv (atW s v p o k).2]) (fun k y _ _=>y=k) [1,3,6,7,8,11] (fun x=>[boxO 26 (β 0) (scl a s),boxO 29 (β 1) [iv v.part,.slice z1 v.ms.length z2],boxO 26 (β 2) [iv 0,.slice none 0 0,.slice none 0 0,.slice none 0 0],boxO 3 (β 3) [iv x.2.2.1],boxO 34 (β 4) [iv x.2.2.2],boxO 80 (β 5) [iv p.id,iv p.sec,iv p.src,iv p.oct,iv p.desks,iv p.sa,iv p.sb,iv p.low.1,iv p.low.2.1,iv p.low.2.2,iv p.high.1,iv p.high.2.1,iv p.high.2.2,iv s.ver,.slice a.b.1 s.bars.length a.b.2,.slice a.p.1 s.parts.length a.p.2,.slice a.n.1 s.notes.length a.n.2,iv o.id,iv o.sec,iv o.src,iv o.oct,iv o.desks,iv o.sa,iv o.sb,iv o.low.1,iv o.low.2.1,iv o.low.2.2,iv o.high.1,iv o.high.2.1,iv o.high.2.2],.dead,.slice 89 12 (.slice x.2.1.1 (othersL s o++x.1).length x.2.1.2) (othersL s o++x.1).length (rowV ntV (othersL s o++x.1)),boxO 24 (β 8) [.slice x.2.1.1 (othersL s o++x.1).length x.2.1.2]]) (fun _=>[]) (fun k (x:List Nt×(Option Addr×Nat)×Int×Int)=>x.1=newT s v p o k∧x.2.2.1=0∧x.2.2.2=0) (fun(x:List Nt×(Option Addr×Nat)×Int×Int)=>x.2.2.2=20∨x.2.2.2=5) ([],(q7,c7),0,0) [] (fun _=>False) (fun k x y=>[(12,.loc 9 0),(13,.val (iv (atW s v p o y).2)),(6,.val (.pointer (some ⟨(β 2),0,none⟩))),(7,.val (.pointer (some ⟨(β 3),0,none⟩))),(8,.val (.pointer (some ⟨(β 4),0,none⟩))),(11,.val (.pointer (some ⟨(β 8),0,none⟩)))]) (fun k x y=>[.cells 89 [.val (iv (atW s v p o y).1.id),.val (iv (atW s v p o y).1.part),.val (iv (atW s v p o y).1.bar),.val (iv (atW s v p o y).1.voice),.val (iv (atW s v p o y).1.ossia),.val (iv (atW s v p o y).1.start.1),.val (iv (atW s v p o y).1.start.2),.val (iv (atW s v p o y).1.len.1),.val (iv (atW s v p o y).1.len.2),.val (iv (atW s v p o y).1.pit.1),.val (iv (atW s v p o y).1.pit.2.1),.val (iv (atW s v p o y).1.pit.2.2)]]) [] rfl (by kernel_rfl) (by simp[keepE,getE,bnd]) (by simp only[List.append_nil]) ?_ (by intro t h;simp only[List.mem_cons,List.not_mem_nil,or_false] at h;rcases h with rfl | rfl<;>(show _<68;decide)) (by decide) (fun _=>rfl) (fun _ h=>h.elim) ⟨rfl,rfl,rfl⟩ rfl ?_ ?_ ?_ ?_ (by simp) (by simp) hM (fun h=>by cases h) ?_
   ·
    intro x o ho;simp only[List.append_nil,List.mem_cons,List.not_mem_nil,or_false] at ho
    rcases ho with rfl | rfl | rfl | rfl | rfl | rfl | rfl | rfl | rfl<;>rfl
   ·
    intro ρ w1 hb w2 hk hlt hap
    have hm2:((fun b=>lo2≤b),s2)∈[((fun b=>lo2≤b),s2),(SM,sM),((fun b=>b∈([]:List Nat)),w),((fun _=>True),w)]:=by simp
    have hmM:(SM,sM)∈[((fun b=>lo2≤b),s2),(SM,sM),((fun b=>b∈([]:List Nat)),w),((fun _=>True),w)]:=by simp
    have hm0:((fun _=>True),w)∈[((fun b=>lo2≤b),s2),(SM,sM),((fun b=>b∈([]:List Nat)),w),((fun _=>True),w)]:=by simp
    have hfr:∀ o',o'∈[boxO 26 (β 0) (scl a s),boxO 29 (β 1) [iv v.part,.slice z1 v.ms.length z2],boxO 26 (β 2) [iv 0,.slice none 0 0,.slice none 0 0,.slice none 0 0],boxO 3 (β 3) [iv (x1_ q7 c7).2.2.1],boxO 34 (β 4) [iv (x1_ q7 c7).2.2.2],boxO 80 (β 5) [iv p.id,iv p.sec,iv p.src,iv p.oct,iv p.desks,iv p.sa,iv p.sb,iv p.low.1,iv p.low.2.1,iv p.low.2.2,iv p.high.1,iv p.high.2.1,iv p.high.2.2,iv s.ver,.slice a.b.1 s.bars.length a.b.2,.slice a.p.1 s.parts.length a.p.2,.slice a.n.1 s.notes.length a.n.2,iv o.id,iv o.sec,iv o.src,iv o.oct,iv o.desks,iv o.sa,iv o.sb,iv o.low.1,iv o.low.2.1,iv o.low.2.2,iv o.high.1,iv o.high.2.1,iv o.high.2.2],.dead,.slice 89 12 (.slice (x1_ q7 c7).2.1.1 (othersL s o++(x1_ q7 c7).1).length (x1_ q7 c7).2.1.2) (othersL s o++(x1_ q7 c7).1).length (rowV ntV (othersL s o++(x1_ q7 c7).1)),boxO 24 (β 8) [.slice (x1_ q7 c7).2.1.1 (othersL s o++(x1_ q7 c7).1).length (x1_ q7 c7).2.1.2]]→freeO o'=true:=by
     intro o' ho';simp only[List.mem_cons,List.not_mem_nil,or_false] at ho'
     rcases ho' with rfl | rfl | rfl | rfl | rfl | rfl | rfl | rfl | rfl<;>rfl
    have hpre:∀ (j:Nat) (o':Go.SX.Own),([boxO 26 (β 0) (scl a s),boxO 29 (β 1) [iv v.part,.slice z1 v.ms.length z2],boxO 26 (β 2) [iv 0,.slice none 0 0,.slice none 0 0,.slice none 0 0],boxO 3 (β 3) [iv (x1_ q7 c7).2.2.1],boxO 34 (β 4) [iv (x1_ q7 c7).2.2.2],boxO 80 (β 5) [iv p.id,iv p.sec,iv p.src,iv p.oct,iv p.desks,iv p.sa,iv p.sb,iv p.low.1,iv p.low.2.1,iv p.low.2.2,iv p.high.1,iv p.high.2.1,iv p.high.2.2,iv s.ver,.slice a.b.1 s.bars.length a.b.2,.slice a.p.1 s.parts.length a.p.2,.slice a.n.1 s.notes.length a.n.2,iv o.id,iv o.sec,iv o.src,iv o.oct,iv o.desks,iv o.sa,iv o.sb,iv o.low.1,iv o.low.2.1,iv o.low.2.2,iv o.high.1,iv o.high.2.1,iv o.high.2.2],.dead,.slice 89 12 (.slice (x1_ q7 c7).2.1.1 (othersL s o++(x1_ q7 c7).1).length (x1_ q7 c7).2.1.2) (othersL s o++(x1_ q7 c7).1).length (rowV ntV (othersL s o++(x1_ q7 c7).1)),boxO 24 (β 8) [.slice (x1_ q7 c7).2.1.1 (othersL s o++(x1_ q7 c7).1).length (x1_ q7 c7).2.1.2]])[j]?=some o'→([boxO 26 (β 0) (scl a s),boxO 29 (β 1) [iv v.part,.slice z1 v.ms.length z2],boxO 26 (β 2) [iv 0,.slice none 0 0,.slice none 0 0,.slice none 0 0],boxO 3 (β 3) [iv (x1_ q7 c7).2.2.1],boxO 34 (β 4) [iv (x1_ q7 c7).2.2.2],boxO 80 (β 5) [iv p.id,iv p.sec,iv p.src,iv p.oct,iv p.desks,iv p.sa,iv p.sb,iv p.low.1,iv p.low.2.1,iv p.low.2.2,iv p.high.1,iv p.high.2.1,iv p.high.2.2,iv s.ver,.slice a.b.1 s.bars.length a.b.2,.slice a.p.1 s.parts.length a.p.2,.slice a.n.1 s.notes.length a.n.2,iv o.id,iv o.sec,iv o.src,iv o.oct,iv o.desks,iv o.sa,iv o.sb,iv o.low.1,iv o.low.2.1,iv o.low.2.2,iv o.high.1,iv o.high.2.1,iv o.high.2.2],.dead,.slice 89 12 (.slice (x1_ q7 c7).2.1.1 (othersL s o).length (x1_ q7 c7).2.1.2) (othersL s o).length (rowV ntV (othersL s o)),boxO 24 (β 8) [.slice (x1_ q7 c7).2.1.1 (othersL s o).length (x1_ q7 c7).2.1.2]])[j]?=some o':=fun j o' hj=>by simpa using hj
    exact all1_iter (S:=fun b=>b<w.heap.size) (z:=(z1,z2)) (GN.now (GN.now hN (hb.first hm0)) hk) (snap_at hb hm2 hk hx.1.1 hx.2.1.1 hx.2.2.1) (snap_lt hb hm2 hk hx.2.2.1) (snap_at hb hm2 hk hx.1.2.1 hx.2.1.2.1 hx.2.2.2.1) (snap_lt hb hm2 hk hx.2.2.2.1) (snap_at hb hm2 hk hx.1.2.2 hx.2.1.2.2 hx.2.2.2.2) (snap_lt hb hm2 hk hx.2.2.2.2)
     ((hk.block r9 trivial (Nat.lt_of_lt_of_le (Array.getElem?_eq_some_iff.1 hmp).1 (hb.at hmM).size)).trans (((hb.at hmM).block r9 hSM (Array.getElem?_eq_some_iff.1 hmp).1).trans hmp))
     ((ScR.mono hs9 fun b _ h=>h).keep ((hb.first hm0).mono fun _ _ _=>trivial) |>.keep (hk.mono fun _ _ _=>trivial)) (Rp.keep (Rp.keep hlv2 ((hb.first hm0).mono fun _ _ _=>trivial)) (hk.mono fun _ _ _=>trivial)) (fun b hb9 _=>snap_apart (S:=fun _=>True) hb hm0 hfr hpre trivial hb9) (snap_apart hb hm2 hfr hpre hx.2.1.1 hx.2.2.1) (snap_apart hb hm2 hfr hpre hx.2.1.2.1 hx.2.2.2.1) (snap_apart hb hm2 hfr hpre hx.2.1.2.2 hx.2.2.2.2) (snap_apart hb hmM hfr hpre hSM (Array.getElem?_eq_some_iff.1 hmp).1) (snap_apart (S:=fun _=>True) hb hm0 hfr hpre trivial hN.2) hv ho hm1 hm2' hm3
   ·
    intro ll k x y L S sw hV hSL
    simp only[zipE,ntA,List.cons_append,List.nil_append]
    have hKa8:=onN_i fun t=>Le t ⟨68,[(12,.loc 9 0),(13,.val (iv (atW s v p o y).2)),(6,.val (.pointer (some ⟨(β 2),0,none⟩))),(7,.val (.pointer (some ⟨(β 3),0,none⟩))),(8,.val (.pointer (some ⟨(β 4),0,none⟩))),(11,.val (.pointer (some ⟨(β 8),0,none⟩)))],[boxO 26 (β 0) (scl a s),boxO 29 (β 1) [iv v.part,.slice z1 v.ms.length z2],boxO 26 (β 2) [iv 0,.slice none 0 0,.slice none 0 0,.slice none 0 0],boxO 3 (β 3) [iv x.2.2.1],boxO 34 (β 4) [iv x.2.2.2],boxO 80 (β 5) [iv p.id,iv p.sec,iv p.src,iv p.oct,iv p.desks,iv p.sa,iv p.sb,iv p.low.1,iv p.low.2.1,iv p.low.2.2,iv p.high.1,iv p.high.2.1,iv p.high.2.2,iv s.ver,.slice a.b.1 s.bars.length a.b.2,.slice a.p.1 s.parts.length a.p.2,.slice a.n.1 s.notes.length a.n.2,iv o.id,iv o.sec,iv o.src,iv o.oct,iv o.desks,iv o.sa,iv o.sb,iv o.low.1,iv o.low.2.1,iv o.low.2.2,iv o.high.1,iv o.high.2.1,iv o.high.2.2],.dead,.slice 89 12 (.slice x.2.1.1 (othersL s o++x.1).length x.2.1.2) (othersL s o++x.1).length (rowV ntV (othersL s o++x.1)),boxO 24 (β 8) [.slice x.2.1.1 (othersL s o++x.1).length x.2.1.2]]++[.cells 89 [.val (iv (atW s v p o y).1.id),.val (iv (atW s v p o y).1.part),.val (iv (atW s v p o y).1.bar),.val (iv (atW s v p o y).1.voice),.val (iv (atW s v p o y).1.ossia),.val (iv (atW s v p o y).1.start.1),.val (iv (atW s v p o y).1.start.2),.val (iv (atW s v p o y).1.len.1),.val (iv (atW s v p o y).1.len.2),.val (iv (atW s v p o y).1.pit.1),.val (iv (atW s v p o y).1.pit.2.1),.val (iv (atW s v p o y).1.pit.2.2)]],(S,sw)::([]++[((fun b=>lo2≤b),s2),(SM,sM),((fun b=>b∈([]:List Nat)),w),((fun _=>True),w)]),[]⟩
    refine W.pure dn fun K9 k9=>?_
    simp only[E,F,J,M,R,Tz,V,X,Y,reduceIte,G,H,sz];refine k9 _ ?_
    refine W.region ?_
    refine WO.go 1 dn ?_
    simp only[E,F,J,M,R,Tz,V,X,Y,reduceIte,G,H,sz]
    refine WO.nil ?_
    refine hKa8 _ ?_
    exact⟨rfl,by simp[getE,bnd,keepE],⟨[],by simp⟩,by simp[Own.bnd,bndL,bnd,boxO],by simp⟩
   ·
    intro ll k x y L0 L S sw S2 s2' hk hIx hV hSL hL0 hsL hLs hLS hLw
    obtain⟨xs,⟨q5,c5⟩,ni,ne⟩:=x
    obtain⟨hI1,hI2,hI3⟩:=hIx
    simp only at hI1 hI2 hI3 hV
    subst hV
    subst hI2
    subst hI3
    have hxl:xs.length≤20000:=by
     rw[hI1];have:=newT_len s v p o y;have:=hple;have:=hv.few;omega
    have hol:(othersL s o).length≤20000:=by
     have h9:(othersL s o).length≤s.notes.length:=by unfold othersL;exact List.length_filter_le _ _
     have:=hv.sc.notes.len;omega
    have hlln:(othersL s o++xs).length≤40000:=by rw[List.length_append];omega
    obtain⟨⟨b,u⟩,hpg⟩:∃ x,(pairsW s.bars v.ms)[y]?=some x:=⟨_,List.getElem?_eq_getElem (show y<_ by omega)⟩
    have hat:=atW_get (p:=p) (o:=o) hpg
    have he0:=hm1 y _ hk hpg
    simp only[hat,he0]
    have hns:=newT_step (p:=p) (o:=o) hpg
    have hKr10:=onN_i fun t=>(∃ x':List Nt×(Option Addr×Nat)×Int×Int,(fun k (x:List Nt×(Option Addr×Nat)×Int×Int)=>x.1=newT s v p o k∧x.2.2.1=0∧x.2.2.2=0) (y+1) x'∧(∀ p,p∈([]:List ((Nat→Prop)×World))→∀ b,p.1 b→L0≤b)∧Le t ⟨68,[],[boxO 26 (β 0) (scl a s),boxO 29 (β 1) [iv v.part,.slice z1 v.ms.length z2],boxO 26 (β 2) [iv 0,.slice none 0 0,.slice none 0 0,.slice none 0 0],boxO 3 (β 3) [iv x'.2.2.1],boxO 34 (β 4) [iv x'.2.2.2],boxO 80 (β 5) [iv p.id,iv p.sec,iv p.src,iv p.oct,iv p.desks,iv p.sa,iv p.sb,iv p.low.1,iv p.low.2.1,iv p.low.2.2,iv p.high.1,iv p.high.2.1,iv p.high.2.2,iv s.ver,.slice a.b.1 s.bars.length a.b.2,.slice a.p.1 s.parts.length a.p.2,.slice a.n.1 s.notes.length a.n.2,iv o.id,iv o.sec,iv o.src,iv o.oct,iv o.desks,iv o.sa,iv o.sb,iv o.low.1,iv o.low.2.1,iv o.low.2.2,iv o.high.1,iv o.high.2.1,iv o.high.2.2],.dead,.slice 89 12 (.slice x'.2.1.1 (othersL s o++x'.1).length x'.2.1.2) (othersL s o++x'.1).length (rowV ntV (othersL s o++x'.1)),boxO 24 (β 8) [.slice x'.2.1.1 (othersL s o++x'.1).length x'.2.1.2]],(S,sw)::(S2,s2')::([]++[((fun b=>lo2≤b),s2),(SM,sM),((fun b=>b∈([]:List Nat)),w),((fun _=>True),w)]),[]⟩)
    refine W.block ?_
    refine W.seqK fun K11 k11=>?_
    refine W.pure dn fun K12 k12=>?_
    simp only[E,F,J,M,R,Tz,V,X,Y,reduceIte,G,H,sz];refine k12 _ ?_
    refine W.cond rfl rfl (fun hc=>?_) fun hc=>?_
    ·
     simp at hc
    ·
     refine W.skip (k11 _ ?_)
     refine W.region ?_
     refine WO.loadBox (k:=8) (i:=0) (sz:=1) rfl dn rfl rfl rfl rfl (by simp[Addr.add_mid]) (by simp) agg24 sz24 (.inr rfl) ?_
     simp only[ofCells,if_true,List.toList_toArray,sr]
     refine WO.go 2 dn ?_
     simp only[E,F,J,M,R,Tz,V,X,Y,reduceIte,G,H,sz]
     refine WO.append (k:=7) (m:=1) [iv (ownN p o b u).id,iv (ownN p o b u).part,iv (ownN p o b u).bar,iv (ownN p o b u).voice,iv (ownN p o b u).ossia,iv (ownN p o b u).start.1,iv (ownN p o b u).start.2,iv (ownN p o b u).len.1,iv (ownN p o b u).len.2,iv (ownN p o b u).pit.1,iv (ownN p o b u).pit.2.1,iv (ownN p o b u).pit.2.2] dn rfl rfl rfl rfl rfl rfl ek24 (news_own (k2:=10) rfl fun _=>rfl) rfl (by simp[Value.oneCell']) (by rw[maxLen_eq];omega) (by omega) fun p6 c6=>?_
     simp only[E,F,J,M,R,Tz,V,X,Y,reduceIte,G,H,sz]
     refine WO.storeBox (k:=8) (i:=0) rfl dn rfl rfl rfl rfl (by simp[Addr.add_mid]) (by simp) rfl rfl sz24 ?_
     simp only[E,F,J,M,R,Tz,V,X,Y,reduceIte,G,H,sz]
     refine WO.nil ?_
     refine hKr10 _ ?_
     refine⟨(xs++[ownN p o b u],(p6,c6),0,0),⟨?_,rfl,rfl⟩,(fun p hp=>by cases hp),⟨rfl,by simp,⟨_,by simp[row_sing,row_app,ntV,Nat.add_assoc];rfl⟩,by simp[Own.bnd,bndL,bnd,boxO],fun p hp=>by simpa using hp⟩⟩
     simp only
     rw[hns,← hI1]
   ·
    intro _ ll x y L0 L S sw S2 s2' hIx hV hSL hL0 hsL hLs hLS hLw
    obtain⟨xs,⟨q5,c5⟩,ni,ne⟩:=x
    obtain⟨hI1,hI2,hI3⟩:=hIx
    simp only at hI1 hI2 hI3 hV
    subst hV
    subst hI2
    subst hI3
    have hxl:xs.length≤20000:=by
     rw[hI1];have:=newT_len s v p o y;have:=hple;have:=hv.few;omega
    have hol:(othersL s o).length≤20000:=by
     have h9:(othersL s o).length≤s.notes.length:=by unfold othersL;exact List.length_filter_le _ _
     have:=hv.sc.notes.len;omega
    have hlln:(othersL s o++xs).length≤40000:=by rw[List.length_append];omega
    obtain⟨x9,hpg,he9⟩:=hm2' rfl
    obtain⟨b,u⟩:=x9
    have hat:=atW_get (p:=p) (o:=o) hpg
    have he2:=err_two he9
    obtain⟨e9,hE⟩:∃ e9,errW s p o (b,u)=e9:=⟨_,rfl⟩
    rw[hE] at he9 he2 hat
    simp only[hat]
    have hKr13:=onR_i fun t=>(∃ x':List Nt×(Option Addr×Nat)×Int×Int,(fun(x:List Nt×(Option Addr×Nat)×Int×Int)=>x.2.2.2=20∨x.2.2.2=5) x'∧(∀ p,p∈([]:List ((Nat→Prop)×World))→∀ b,p.1 b→L0≤b)∧Le t ⟨68,[],[boxO 26 (β 0) (scl a s),boxO 29 (β 1) [iv v.part,.slice z1 v.ms.length z2],boxO 26 (β 2) [iv 0,.slice none 0 0,.slice none 0 0,.slice none 0 0],boxO 3 (β 3) [iv x'.2.2.1],boxO 34 (β 4) [iv x'.2.2.2],boxO 80 (β 5) [iv p.id,iv p.sec,iv p.src,iv p.oct,iv p.desks,iv p.sa,iv p.sb,iv p.low.1,iv p.low.2.1,iv p.low.2.2,iv p.high.1,iv p.high.2.1,iv p.high.2.2,iv s.ver,.slice a.b.1 s.bars.length a.b.2,.slice a.p.1 s.parts.length a.p.2,.slice a.n.1 s.notes.length a.n.2,iv o.id,iv o.sec,iv o.src,iv o.oct,iv o.desks,iv o.sa,iv o.sb,iv o.low.1,iv o.low.2.1,iv o.low.2.2,iv o.high.1,iv o.high.2.1,iv o.high.2.2],.dead,.slice 89 12 (.slice x'.2.1.1 (othersL s o++x'.1).length x'.2.1.2) (othersL s o++x'.1).length (rowV ntV (othersL s o++x'.1)),boxO 24 (β 8) [.slice x'.2.1.1 (othersL s o++x'.1).length x'.2.1.2]],(S,sw)::(S2,s2')::([]++[((fun b=>lo2≤b),s2),(SM,sM),((fun b=>b∈([]:List Nat)),w),((fun _=>True),w)]),[]⟩)
    refine W.block ?_
    refine W.seqK fun K14 k14=>?_
    refine W.pure dn fun K15 k15=>?_
    simp only[E,F,J,M,R,Tz,V,X,Y,reduceIte,G,H,sz];refine k15 _ ?_
    refine W.cond rfl rfl (fun hc=>?_) fun hc=>?_
    rotate_left
    ·
     (simp at hc;exact(he9 hc).elim)
    ·
     refine W.pin (k:=9) [iv (ownN p o b u).id,iv (ownN p o b u).part,iv (ownN p o b u).bar,iv (ownN p o b u).voice,iv (ownN p o b u).ossia,iv (ownN p o b u).start.1,iv (ownN p o b u).start.2,iv (ownN p o b u).len.1,iv (ownN p o b u).len.2,iv (ownN p o b u).pit.1,iv (ownN p o b u).pit.2.1,iv (ownN p o b u).pit.2.2] rfl (fun _=>rfl) (by rw[maxLen_eq];simp) fun b9=>?_
     simp only[pinE,pinS,pin1,den,denL,setN,Nat.zero_add,J,X,reduceIte,Nat.succ_ne_self,Nat.one_ne_zero]
     refine W.seqK fun K16 k16=>?_
     refine W.regionFR [0,1,2,3] [4,5,6]  ([.dead,.dead,.dead,.dead,.dead,.dead,.dead,.dead,.dead,boxO 89 b9 [iv (ownN p o b u).id,iv (ownN p o b u).part,iv (ownN p o b u).bar,iv (ownN p o b u).voice,iv (ownN p o b u).ossia,iv (ownN p o b u).start.1,iv (ownN p o b u).start.2,iv (ownN p o b u).len.1,iv (ownN p o b u).len.2,iv (ownN p o b u).pit.1,iv (ownN p o b u).pit.2.1,iv (ownN p o b u).pit.2.2]]) mixed (by kernel_rfl) rfl (by simp[keptL,boxO]) rfl (fun _ _ h=>h) ?_
     simp only[E,F,J,M,R,Tz,V,X,Y,reduceIte,sxt,List.toList_toArray,RunP,G,H,sz]
     refine WF.go rfl rfl rfl ?_
     simp only[E,F,J,M,R,Tz,V,X,Y,reduceIte,sxt,List.toList_toArray,RunP,G,H,sz]
     refine WF.go rfl rfl rfl ?_
     simp only[E,F,J,M,R,Tz,V,X,Y,reduceIte,sxt,List.toList_toArray,RunP,G,H,sz]
     refine WF.q rfl rfl (QR.load [iv (ownN p o b u).id] false rfl rfl agg3 sz3 (.inr rfl) (fun ρ w1 hb=>(box_at (k:=9) hb rfl).part 0 1)) ?_
     simp only[ofCells,sr]
     simp only[E,F,J,M,R,Tz,V,X,Y,reduceIte,sxt,List.toList_toArray,RunP,G,H,sz]
     refine WF.go rfl rfl rfl ?_
     simp only[E,F,J,M,R,Tz,V,X,Y,reduceIte,sxt,List.toList_toArray,RunP,G,H,sz]
     refine WF.nil ?_
     simp only[E,F,J,M,R,Tz,V,X,Y,reduceIte,sxt,List.toList_toArray,RunP,G,H,sz]
     refine WC.one ?_
     refine WO.storeRow (T:=26) (k:=2) (b:=β 2) (sz:=1) (n:=4) (c:=4) (xs:=[iv 0,.slice none 0 0,.slice none 0 0,.slice none 0 0]) (u:=.agg #[iv 0,.slice none 0 0,.slice none 0 0,.slice none 0 0]) 0 [iv 0,.slice none 0 0,.slice none 0 0,.slice none 0 0] rfl dn rfl rfl rfl rfl rfl (by simp) (by simp) ⟨_,rfl,fun ρ=>rfl⟩ rfl (by simp[Value.oneCell']) sz26 ?_
     simp only[E,F,J,M,R,Tz,V,X,Y,reduceIte,List.append_assoc,List.cons_append,List.nil_append,G,H,sz]
     with_reducible refine WC.next (by simp[keptL,boxO]) (by simp) ?_
     refine WC.one ?_
     refine WO.storeBox (k:=3) (i:=0) rfl dn rfl rfl rfl rfl (by simp[Addr.add_mid]) (by simp) rfl rfl sz3 ?_
     simp only[E,F,J,M,R,Tz,V,X,Y,reduceIte,List.append_assoc,List.cons_append,List.nil_append,G,H,sz]
     with_reducible refine WC.next (by simp[keptL,boxO]) (by simp) ?_
     refine WC.one ?_
     refine WO.storeBox (k:=4) (i:=0) rfl dn rfl rfl rfl rfl (by simp[Addr.add_mid]) (by simp) rfl rfl sz34 ?_
     simp only[E,F,J,M,R,Tz,V,X,Y,reduceIte,List.append_assoc,List.cons_append,List.nil_append,G,H,sz]
     with_reducible refine WC.next (by simp[keptL,boxO]) (by simp) ?_
     with_reducible refine WC.nil ?_
     refine k16 _ ?_
     refine W.ret ?_
     refine hKr13 _ ?_
     exact⟨(xs,(q5,c5),(ownN p o b u).id,e9),he2,(fun p hp=>by cases hp),⟨rfl,by simp,⟨_,by simp[boxO];rfl⟩,by simp[Own.bnd,bndL,bnd,boxO],fun p hp=>by simpa using hp⟩⟩
   intro _ D2 s3 x hIx hM2
   obtain⟨xs,⟨q5,c5⟩,ni,ne⟩:=x
   simp only[E,F,J,M,R,Tz,V,X,Y,reduceIte,sxk,G,H,sz]
   refine W.unpin β ⟨68,[(1,wv ver),(3,.loc 0 0),(6,.loc 2 0),(7,.loc 3 0),(8,.loc 4 0),(11,.loc 8 0)],[.cells 26 (scw a s),.cells 29 [wv v.part,.val (.slice z1 v.ms.length z2)],.cells 26 [wv 0,.val (.slice none 0 0),.val (.slice none 0 0),.val (.slice none 0 0)],.cells 3 [wv ni],.cells 34 [wv ne],.cells 80 [wv p.id,wv p.sec,wv p.src,wv p.oct,wv p.desks,wv p.sa,wv p.sb,wv p.low.1,wv p.low.2.1,wv p.low.2.2,wv p.high.1,wv p.high.2.1,wv p.high.2.2,wv s.ver,.val (.slice a.b.1 s.bars.length a.b.2),.val (.slice a.p.1 s.parts.length a.p.2),.val (.slice a.n.1 s.notes.length a.n.2),wv o.id,wv o.sec,wv o.src,wv o.oct,wv o.desks,wv o.sa,wv o.sb,wv o.low.1,wv o.low.2.1,wv o.low.2.2,wv o.high.1,wv o.high.2.1,wv o.high.2.2],.dead,.slice 89 12 (.slice q5 (othersL s o++xs).length c5) (othersL s o++xs).length (rowV ntV (othersL s o++xs)),.cells 24 [.val (.slice q5 (othersL s o++xs).length c5)]],((fun b=>b∈[D2]),s3)::([]++[((fun b=>lo2≤b),s2),(SM,sM),((fun b=>b∈([]:List Nat)),w),((fun _=>True),w)]),_⟩ rfl (by simp[getE,den,bnd]) ⟨.inr ⟨_,_,rfl,rfl,rfl⟩,.inr ⟨_,_,rfl,rfl,rfl⟩,.inr ⟨_,_,rfl,rfl,rfl⟩,.inr ⟨_,_,rfl,rfl,rfl⟩,.inr ⟨_,_,rfl,rfl,rfl⟩,.inr ⟨_,_,rfl,rfl,rfl⟩,.inl ⟨rfl,rfl⟩,.inl ⟨rfl,rfl⟩,.inr ⟨_,_,rfl,rfl,rfl⟩,trivial⟩ (by simp) ?_
   simp only at hIx
   refine W.ret ?_
   refine⟨by simp,[D2],s3,⟨rfl,by simp,hM2⟩,RunR.ex ?_⟩
   simp only[E,F,J,M,R,Tz,V,X,Y,reduceIte,sxr,G,H,sz]
   intro ρ w9 w1 hb9 hk9 hb
   exact⟨ni,ne,rfl,hIx⟩
theorem note_get {l:List Nt} (hnd:(l.map Nt.id).Nodup) (i:Int):vmGet (kvOf Nt.id ntA l) i (ntA (zeroN 0)) (ntA ((noteAt l i).getD (zeroN 0))) (noteAt l i).isSome:=by
 cases h:noteAt l i with
 |
  some n=>
  obtain⟨h1,h2⟩:=(noteAt_some hnd).1 h
  have h9:=kv_yes (f:=Nt.id) (g:=ntA) (z:=ntA (zeroN 0)) hnd h1
  rw[h2] at h9
  exact h9
 |
  none=>
  refine kv_no fun hm=>?_
  obtain⟨n,hn,he⟩:=List.mem_map.1 hm
  exact noteAt_none.1 h n hn he
noncomputable def kE1 (a b:List Nt) (i:Nat):List (Int×Nt):=((idS a).take i).filterMap (dropF b)
noncomputable def kE2 (a b:List Nt) (i:Nat):List (Int×Nt):=(idS a).filterMap (dropF b)++((idS b).take i).filterMap (putF a b)
theorem kE1_yes {a b:List Nt} {i:Nat} {y:Int} (h:(idS a)[i]?=some y) (hn:noteAt b y=none):kE1 a b (i+1)=kE1 a b i++[(2,zeroN y)]:=by
 unfold kE1;rw[List.take_add_one,h,List.filterMap_append];simp[dropF,hn]
theorem kE1_no {a b:List Nt} {i:Nat} {y:Int} (h:(idS a)[i]?=some y) (hn:¬ noteAt b y=none):kE1 a b (i+1)=kE1 a b i:=by
 unfold kE1;rw[List.take_add_one,h,List.filterMap_append]
 have:(noteAt b y).isNone=false:=by cases hq:noteAt b y with | none=>exact absurd hq hn | some n=>rfl
 simp[dropF,this]
theorem kE1_all {a b:List Nt} {i:Nat} (h:(idS a).length≤i):kE1 a b i=kE2 a b 0:=by
 unfold kE1 kE2;rw[List.take_of_length_le h];simp
theorem kE2_yes {a b:List Nt} {i:Nat} {y:Int} {n:Nt} (h:(idS b)[i]?=some y) (hn:noteAt b y=some n) (hd:¬ noteAt a y=some n):kE2 a b (i+1)=kE2 a b i++[(1,n)]:=by
 unfold kE2;rw[List.take_add_one,h,List.filterMap_append];simp[putF,hn,hd]
theorem kE2_no {a b:List Nt} {i:Nat} {y:Int} {n:Nt} (h:(idS b)[i]?=some y) (hn:noteAt b y=some n) (hd:noteAt a y=some n):kE2 a b (i+1)=kE2 a b i:=by
 unfold kE2;rw[List.take_add_one,h,List.filterMap_append];simp[putF,hn,hd]
theorem kE2_all {a b:List Nt} {i:Nat} (h:(idS b).length≤i):edsOf (kE2 a b i)=diffE a b:=by
 unfold kE2 diffE kindsE;rw[List.take_of_length_le h]
theorem idS_len (l:List Nt):(idS l).length=l.length:=by unfold idS;rw[List.length_mergeSort,List.length_map]
theorem kE1_len (a b:List Nt) (i:Nat):(kE1 a b i).length≤a.length:=by
 unfold kE1
 have h1:=List.length_filterMap_le (dropF b) ((idS a).take i)
 rw[List.length_take,idS_len] at h1;omega
theorem kE2_len (a b:List Nt) (i:Nat):(kE2 a b i).length≤a.length+b.length:=by
 unfold kE2
 have h1:=List.length_filterMap_le (dropF b) (idS a)
 have h2:=List.length_filterMap_le (putF a b) ((idS b).take i)
 rw[idS_len] at h1
 rw[List.length_take,idS_len] at h2
 rw[List.length_append];omega
theorem idS_at {l:List Nt} (hnd:(l.map Nt.id).Nodup) {i:Nat} {y:Int} (h:(idS l)[i]?=some y):∃ n,noteAt l y=some n:=by
 obtain⟨n,h1,h2⟩:=idS_mem.1 (List.mem_of_getElem? h)
 exact⟨n,(noteAt_some hnd).2 ⟨h1,h2⟩⟩
theorem kv_bound {l:List Nt} {bars:List Br} (h:∀ n,n∈l→NoteOk bars n):∀ p,p∈kvOf Nt.id ntA l→-9223372036854775808≤p.1∧p.1≤9223372036854775807:=fun p hp=>by
 obtain⟨n,hn,rfl⟩:=List.mem_map.1 hp
 have:=within_iff.1 (h n hn).id
 simp only;omega
theorem owi_rd {w:World} {lo c:Nat} {p:Option Addr} {l:List Int} (h:∀ ρ' k,(OWI p c l).holds ρ' k w) (hb:∀ ρ' k b,(OWI p c l).num ρ' k=some b→lo≤b):(Rp.slice (Rp.int .i64)).rd (fun b=>lo≤b) w [.slice p l.length c] l:=by
 have h0:=h (fun _=>0) 0
 have hb0:=hb (fun _=>0) 0
 unfold OWI at h0 hb0
 simp only[Own.holds] at h0
 rcases h0.2 with⟨hv,hn0⟩ | ⟨g,cap,cur,hv,hbg,hcell,hnc,hcm,hcs,htake⟩
 ·
  obtain rfl:=List.length_eq_zero_iff.1 hn0
  simp only[Value.slice.injEq] at hv
  exact Rp.slice_nil (by omega)
 ·
  simp only[Value.slice.injEq] at hv
  obtain⟨rfl,_,rfl⟩:=hv
  rw[maxLen_eq] at hcm
  refine Rp.slice_mk (l.map (.int .i64)) rfl hnc (by omega) (hb0 g rfl) (Array.getElem?_eq_some_iff.1 hcell).1 (fun j v hv=>?_) fun i y hy=>?_
  ·
   rw[Addr.add_mid]
   rw[← htake,List.getElem?_take] at hv
   split at hv
   · simpa [World.cell?,hcell] using hv
   · cases hv
  ·
   show((l.map (Value.int .i64)).drop (i*1)).take 1=[.int .i64 y]
   exact take_one _ i _ (by rw[List.getElem?_map,hy];rfl)
theorem fSortedN_spec (hoff:¬ Drw.on) {w:World} {bm r:Nat} {l:List Nt} {bars:List Br} (hbx:At w ⟨bm,0,none⟩ [.map (some r)]) (hbm:bm<w.heap.size) (hm:w.heap[r]?=some (.map (vmE (kvOf Nt.id ntA l)) (kvOf Nt.id ntA l).length)) (hok:NotesOk bars l) :
  Gives Tryz.prog 32 #[.func (.func 77) #[] #[.pointer (some ⟨bm,0,none⟩)]] w fun v w'=>∃ x:Option Addr×Nat,v=.slice x.1 (idS l).length x.2∧(∀ ρ' k,(OWI x.1 x.2 (idS l)).holds ρ' k w')∧∀ ρ' k b,(OWI x.1 x.2 (idS l)).num ρ' k=some b→w.heap.size≤b:=by
 have h9:=fSorted_spec hoff hbx hbm hm (by rw[kv_keys];exact hok.nd) (by rw[kv_len];exact hok.len) (kv_bound hok.all)
 rw[kv_keys] at h9
 exact h9
theorem byID_spec {S:Nat→Prop} {w:World} {v:Value} {l:List Nt} (hl:rNts.rd S w [v] l) (hnd:(l.map Nt.id).Nodup) (hlen:l.length≤20000):Gives Tryz.prog 31 #[v] w fun u w'=>∃ r:Nat,u=.map (some r)∧(∀ ρ' j,(Go.SX.Own.map r (vmE (kvOf Nt.id ntA (l))) (kvOf Nt.id ntA (l)).length).holds ρ' j w')∧∀ ρ' j b,(Go.SX.Own.map r (vmE (kvOf Nt.id ntA (l))) (kvOf Nt.id ntA (l)).length).num ρ' j=some b→w.heap.size≤b:=by
 obtain⟨p,c,rfl,hc1,hc2⟩:=Rp.slice_val hl
 have hl:(Rp.slice rNt).rd (fun _=>True) w _ l:=Rp.any hl
 refine gives_of [.val (.slice p l.length c)] 19 [.tmp 2] Tryz.func31 rfl rfl rfl (by simp) rfl rfl ?_
 refine W.pure dn fun K1 k1=>?_
 simp only[E,F,J,M,R,Tz,V,X,Y,reduceIte,G,H,sz];refine k1 _ ?_
 refine W.seqK fun K2 k2=>W.region ?_
 refine WO.makeV dn rfl rfl rfl fun r=>?_
 simp only[St.pushO]
 refine WO.go 1 dn ?_
 simp only[E,F,J,M,R,Tz,V,X,Y,reduceIte,G,H,sz]
 refine WO.nil ?_
 refine k2 _ ?_
 refine W.seqK fun K3 k3=>?_
 refine W.pure dn fun K4 k4=>?_
 simp only[E,F,J,M,R,Tz,V,X,Y,reduceIte,G,H,sz];refine k4 _ ?_
 refine W.block ?_
 refine W.loopO (X:=Nat) [3,7,8] (fun x=>[(9,wv (x:Int))]) (fun x=>[.map r (vmE (kvOf Nt.id ntA (l.take x))) (kvOf Nt.id ntA (l.take x)).length]) (fun x=>[((fun _=>True),w)]) (fun x=>x≤l.length) (fun x=>l.length - x) 0 ?_ ?_ ?_
 · exact⟨rfl,by simp[getE,bnd,keepE],⟨[],by simp[kvOf]⟩,by simp[Own.bnd,bndL,bnd,boxO],by simp⟩
 ·
  exact Nat.zero_le _
 ·
  rintro i hi
  simp only[E,F,J,M,R,Tz,V,X,Y,reduceIte,sxk,G,H,sz]
  refine W.pure dn fun K5 k5=>?_
  simp only[E,F,J,M,R,Tz,V,X,Y,reduceIte,G,H,sz];refine k5 _ ?_
  refine W.seqK fun K6 k6=>?_
  refine W.cond rfl rfl (fun hc=>?_) fun hc=>?_
  ·
   have hlt:i<l.length:=by simpa using hc
   obtain⟨y,hy⟩:=len_lt (rfl:l.length=_) hlt
   have hnew:=kv_new (g:=ntA) hnd hy
   refine W.skip (k6 _ ?_)
   refine W.seqK fun K7 k7=>?_
   refine W.block ?_
   refine W.seqK fun K8 k8=>W.region ?_
   refine WO.elem (y:=y) hl (by simp[St.put]) dn rfl rfl (by simp[St.put]) (fun _=>rfl) rfl rfl rfl rfl rfl el24 agg89 sz89 (.inl rfl) (by omega) (hy) fun p ces hces=>?_
   have hces:ces=ntV y:=hces
   subst hces
   simp only[ntV,ofCells,if_true,List.toList_toArray,sr]
   refine WO.go 2 dn ?_
   simp only[E,F,J,M,R,Tz,V,X,Y,reduceIte,G,H,sz]
   refine WO.nil ?_
   refine k8 _ ?_
   refine W.region ?_
   refine WO.go 4 dn ?_
   simp only[E,F,J,M,R,Tz,V,X,Y,reduceIte,G,H,sz]
   refine WO.addV (k:=0) (ks:=(kvOf Nt.id ntA (l.take i))) (ntA y) dn rfl rfl rfl rfl rfl rfl ⟨_,rfl,fun _=>rfl⟩ (by kernel_rfl) hnew ?_
   rw[← show(kvOf Nt.id ntA (l.take (i+1)))=(kvOf Nt.id ntA (l.take i))++[(y.id,ntA y)] from kv_take (g:=ntA) hy]
   simp only[E,F,J,M,R,Tz,V,X,Y,reduceIte,G,H,sz]
   refine WO.nil ?_
   refine k7 _ ?_
   refine W.region ?_
   refine WO.go 2 dn ?_
   simp only[E,F,J,M,R,Tz,V,X,Y,reduceIte,G,H,sz]
   refine WO.nil ?_
   refine⟨i+1,hlt,by omega,rfl,by simp[getE,bnd,keepE,wrap_succ (show i+1≤9223372036854775807 by omega)],⟨_,rfl⟩,by simp[Own.bnd,bndL,bnd],by simp⟩
  ·
   have hge:l.length≤i:=by simpa using hc
   rw[List.take_of_length_le hge]
   refine W.exit (k3 _ ?_)
   refine W.pure dn fun K9 k9=>?_
   simp only[E,F,J,M,R,Tz,V,X,Y,reduceIte,G,H,sz];refine k9 _ ?_
   refine W.ret ⟨by simp,_,rfl,fun ρ w1 hb=>?_⟩
   exact⟨r,rfl,fun ρ' k=>freeO_holds rfl (hb.own 0 _ rfl ρ (Agree.refl _ _)),fun ρ' k b h=>own_new (k:=0) (o:=_) hb (by simp) rfl h⟩
abbrev D68_:List (Option Nat):=[some 76,some 77,some 78,some 79,some 80,some 81,some 82,some 83,some 84]
theorem changes_spec (hoff:¬ Drw.on) {S S2:Nat→Prop} {w:World} {a:ScA} {z:Sl} {s t:Sc} {v:Vw} {p o:Pt} (hN:GN w) (hs:ScR S w a s) (hl:rMss.rd S2 w [.slice z.1 v.ms.length z.2] v.ms) (hv:VwOk s v) (ho:Owner s p o) (hpi:p.id=v.part) (hp:Puts s v p o) (hfew:s.notes.length+(allW v.ms).length≤20000) (ht:t=withS s 1 (putL s v p o)):Gives Tryz.prog 9 #[scV a s,vwV z v] w fun r w'=>∃ x:Option Addr×Nat,r=.tuple #[.slice x.1 (diffE s.notes t.notes).length x.2,iv 0]∧rEds.rd (fun b=>w.heap.size≤b) w' [.slice x.1 (diffE s.notes t.notes).length x.2] (diffE s.notes t.notes):=by
 have lb:(Rp.slice rBr).rd (fun _=>True) w _ s.bars:=Rp.any hs.b
 have lp:(Rp.slice rPt).rd (fun _=>True) w _ s.parts:=Rp.any hs.p
 have ln:(Rp.slice rNt).rd (fun _=>True) w _ s.notes:=Rp.any hs.n
 have hs9:=hs.any
 obtain⟨z1,z2⟩:=z
 have hlv:(Rp.slice rMs).rd (fun _=>True) w [.slice z1 v.ms.length z2] v.ms:=Rp.any hl
 have hsn:=hv.sc.notes
 have htk:=put_ok (ver:=1) hv ho hp hfew (by decide)
 rw[← ht] at htk
 have htn:=htk.notes
 have hsl:=hsn.len
 have htl:=htn.len
 subst ht
 generalize htq:withS s 1 (putL s v p o)=t at htn htl htk
 unfold scV vwV
 refine gives_of [.agg (scw a s),.agg [wv v.part,.val (.slice z1 v.ms.length z2)]] 97 [.tmp 4,.tmp 5] Tryz.func9 rfl rfl rfl (by simp) rfl rfl ?_
 refine W.pure dn fun K1 k1=>?_
 simp only[E,F,J,M,R,Tz,V,X,Y,reduceIte,G,H,sz];refine k1 _ ?_
 refine W.seqK fun K2 k2=>W.region ?_
 refine WO.go 2 dn ?_
 simp only[E,F,J,M,R,Tz,V,X,Y,reduceIte,G,H,sz]
 refine WO.callM
         (fun z9:ScA=>.tuple #[scV z9 t,iv 0,iv 0]) (fun lo z9 sW=>ScR (fun b=>lo≤b) sW z9 t∧w.heap.size≤lo) dn rfl rfl rfl co8 (fun ρ w1 hb=>by
         have h9:=put_yes (a:=a) (z:=(z1,z2)) (v:=v) (p:=p) (o:=o) (hN.now (hb.first (by simp[St.put]))) (ScR.now hs9 (hb.first (by simp[St.put]))) (Rp.now hlv (hb.first (by simp[St.put]))) hv ho hpi (show within 1 1000000 1=true by decide) hp hfew
         rw[htq] at h9
         exact h9.mono fun r w2 _ ⟨z,h1,h2⟩=>⟨z,h1,h2,(hb.first (by simp[St.put])).size⟩) fun d lo1 s1 hd=>?_
 obtain⟨hd,hlo1⟩:=hd
 unfold scV
 simp only
 refine WO.go 8 dn ?_
 simp only[E,F,J,M,R,Tz,V,X,Y,reduceIte,G,H,sz]
 refine WO.nil ?_
 refine k2 _ ?_
 refine W.seqK fun K3 k3=>?_
 refine W.pure dn fun K4 k4=>?_
 simp only[E,F,J,M,R,Tz,V,X,Y,reduceIte,G,H,sz];refine k4 _ ?_
 refine W.cond rfl rfl (fun hc=>?_) fun hc=>?_
 ·
  simp at hc
 ·
  refine W.skip (k3 _ ?_)
  refine W.pin (k:=0) (scl a s) rfl (fun _=>rfl) (by rw[maxLen_eq];simp) fun b0=>?_
  simp only[pinE,pinS,pin1,den,denL,setN,Nat.zero_add,J,X,reduceIte,Nat.succ_ne_self,Nat.one_ne_zero]
  refine W.pin (k:=2) (scl d t) rfl (fun _=>rfl) (by rw[maxLen_eq];simp) fun b2=>?_
  simp only[pinE,pinS,pin1,den,denL,setN,Nat.zero_add,J,X,reduceIte,Nat.succ_ne_self,Nat.one_ne_zero]
  refine W.seqK fun K5 k5=>?_
  refine W.regionF [0,1,3,4] [2,5,6,7]  ([boxO 26 b0 (scl a s),.dead,boxO 26 b2 (scl d t)]) mixed (by kernel_rfl) rfl (by simp[keptL,boxO]) rfl (fun _ _ h=>h) ?_
  simp only[E,F,J,M,R,Tz,V,X,Y,reduceIte,sxt,List.toList_toArray,RunP,G,H,sz]
  refine WF.go rfl rfl rfl ?_
  simp only[E,F,J,M,R,Tz,V,X,Y,reduceIte,sxt,List.toList_toArray,RunP,G,H,sz]
  refine WF.q rfl rfl (QR.load [.slice a.n.1 s.notes.length a.n.2] false rfl rfl agg24 sz24 (.inr rfl) (fun ρ w1 hb=>(box_at (k:=0) hb rfl).part 3 1)) ?_
  simp only[ofCells,sr]
  simp only[E,F,J,M,R,Tz,V,X,Y,reduceIte,sxt,List.toList_toArray,RunP,G,H,sz]
  refine WF.go rfl rfl rfl ?_
  simp only[E,F,J,M,R,Tz,V,X,Y,reduceIte,sxt,List.toList_toArray,RunP,G,H,sz]
  refine WF.q rfl rfl (QR.load [.slice d.n.1 t.notes.length d.n.2] false rfl rfl agg24 sz24 (.inr rfl) (fun ρ w1 hb=>(box_at (k:=2) hb rfl).part 3 1)) ?_
  simp only[ofCells,sr]
  simp only[E,F,J,M,R,Tz,V,X,Y,reduceIte,sxt,List.toList_toArray,RunP,G,H,sz]
  refine WF.nil ?_
  simp only[E,F,J,M,R,Tz,V,X,Y,reduceIte,sxt,List.toList_toArray,RunP,G,H,sz]
  refine WC.one ?_
  refine WO.callO (fun r:Nat=>.map (some r)) (fun r=>.map r (vmE (kvOf Nt.id ntA (s.notes))) (kvOf Nt.id ntA (s.notes)).length) dn rfl rfl rfl co31 (fun _ _ _ h=>by cases h) (fun ρ w1 hb=>byID_spec (Rp.now ln (hb.first (by simp[St.put]))) hsn.nd hsn.len) fun rA=>?_
  simp only[St.pushO]
  simp only[E,F,J,M,R,Tz,V,X,Y,reduceIte,List.append_assoc,List.cons_append,List.nil_append,G,H,sz]
  with_reducible refine WC.next (by simp[keptL,boxO]) (by simp) ?_
  refine WC.one ?_
  refine WO.callO (fun r:Nat=>.map (some r)) (fun r=>.map r (vmE (kvOf Nt.id ntA (t.notes))) (kvOf Nt.id ntA (t.notes)).length) dn rfl rfl rfl co31 (fun _ _ _ h=>by cases h) (fun ρ w1 hb=>byID_spec (Rp.keep hd.n (hb.at (S:=fun b=>lo1≤b) (s:=s1) (by simp[St.put]))) htn.nd htn.len) fun rB=>?_
  simp only[St.pushO]
  simp only[E,F,J,M,R,Tz,V,X,Y,reduceIte,List.append_assoc,List.cons_append,List.nil_append,G,H,sz]
  with_reducible refine WC.next (by simp[keptL,boxO]) (by simp) ?_
  refine WC.one ?_
  refine WO.go 1 dn ?_
  simp only[E,F,J,M,R,Tz,V,X,Y,reduceIte,List.append_assoc,List.cons_append,List.nil_append,G,H,sz]
  with_reducible refine WC.next (by simp[keptL,boxO]) (by simp) ?_
  refine WC.one ?_
  refine WO.go 1 dn ?_
  simp only[E,F,J,M,R,Tz,V,X,Y,reduceIte,List.append_assoc,List.cons_append,List.nil_append,G,H,sz]
  with_reducible refine WC.next (by simp[keptL,boxO]) (by simp) ?_
  with_reducible refine WC.nil ?_
  refine k5 _ ?_
  refine W.ownNil 101 15 ?_
  simp only[Bool.false_eq_true,E,F,J,M,R,Tz,V,X,Y,reduceIte,St.pushO,List.cons_append,List.nil_append,sz]
  refine W.pure dn fun K6 k6=>?_
  simp only[E,F,J,M,R,Tz,V,X,Y,reduceIte,G,H,sz];refine k6 _ ?_
  refine W.seqK fun K7 k7=>?_
  refine W.seqK fun K8 k8=>W.region ?_
  refine WO.go 1 dn ?_
  simp only[E,F,J,M,R,Tz,V,X,Y,reduceIte,G,H,sz]
  refine WO.callM (fun b:Nat=>.func (.func 77) #[] #[.pointer (some ⟨b,0,none⟩)]) (fun lo b sW=>At sW ⟨b,0,none⟩ [.map (some rA)]∧lo≤b∧b<sW.heap.size) dn rfl rfl rfl co33 (fun ρ w1 hb=>fKeys_spec) fun bK loK sK hK=>?_
  simp only[E,F,J,M,R,Tz,V,X,Y,reduceIte,G,H,sz]
  refine WO.callM (fun x:Option Addr×Nat=>.slice x.1 (idS s.notes).length x.2) (fun lo x sW=>(Rp.slice (Rp.int .i64)).rd (fun b=>lo≤b) sW [.slice x.1 (idS s.notes).length x.2] (idS s.notes)) dn rfl rfl rfl co32 (fun ρ w1 hb=>(fSortedN_spec hoff (hK.1.frame ((hb.at (S:=fun b=>loK≤b) (s:=sK) (by simp[St.put])).block _ hK.2.1 hK.2.2)) (Nat.lt_of_lt_of_le hK.2.2 (hb.at (S:=fun b=>loK≤b) (s:=sK) (by simp[St.put])).size) (own_map hb (k:=3) rfl) hsn).mono fun r w2 _ ⟨x,h1,h2,h3⟩=>⟨x,h1,owi_rd h2 h3⟩) fun x loI sI hI=>?_
  obtain⟨qK,cK⟩:=x
  simp only at hI
  refine WO.go 2 dn ?_
  simp only[E,F,J,M,R,Tz,V,X,Y,reduceIte,G,H,sz]
  refine WO.nil ?_
  refine k8 _ ?_
  refine W.block ?_
  refine W.loopO (X:=Nat×Option Addr×Nat) [9,10,38,39] (fun x=>[(11,.val (.slice x.2.1 (edsOf (kE1 s.notes t.notes x.1)).length x.2.2)),(40,wv (x.1:Int))]) (fun x=>[boxO 26 b0 (scl a s),.cells 29 [wv v.part,.val (.slice z1 v.ms.length z2)],boxO 26 b2 (scl d t),.map rA (vmE (kvOf Nt.id ntA (s.notes))) (kvOf Nt.id ntA (s.notes)).length,.map rB (vmE (kvOf Nt.id ntA (t.notes))) (kvOf Nt.id ntA (t.notes)).length,.slice 101 15 (.slice x.2.1 (edsOf (kE1 s.notes t.notes x.1)).length x.2.2) (edsOf (kE1 s.notes t.notes x.1)).length (rowV edV (edsOf (kE1 s.notes t.notes x.1)))]) (fun x=>[((fun b=>loI≤b),sI),((fun b=>loK≤b),sK),((fun b=>lo1≤b),s1),((fun _=>True),w)]) (fun x=>x.1≤(idS s.notes).length) (fun x=>(idS s.notes).length - x.1) (0,none,0) ?_ ?_ ?_
  · exact⟨rfl,by simp[getE,bnd,keepE,kE1,edsOf],⟨[],by simp[kE1,edsOf,rowV]⟩,by simp[Own.bnd,bndL,bnd,boxO],by simp⟩
  ·
   exact Nat.zero_le _
  ·
   rintro⟨i,q5,c5⟩ hi
   simp only at hi
   simp only[E,F,J,M,R,Tz,V,X,Y,reduceIte,sxk,G,H,sz]
   refine W.pure dn fun K9 k9=>?_
   simp only[E,F,J,M,R,Tz,V,X,Y,reduceIte,G,H,sz];refine k9 _ ?_
   refine W.seqK fun K10 k10=>?_
   refine W.cond rfl rfl (fun hc=>?_) fun hc=>?_
   ·
    have hlt:i<(idS s.notes).length:=by simpa using hc
    obtain⟨y,hy⟩:=len_lt (rfl:(idS s.notes).length=_) hlt
    have hi1:=idS_len s.notes
    have hi2:=idS_len t.notes
    have hel:=edsOf_len (kE1 s.notes t.notes i)
    have hkl:=kE1_len s.notes t.notes i
    have hwl:IntKind.i64.wrap (((edsOf (kE1 s.notes t.notes i)).length:Int)+1)=((kE1 s.notes t.notes i).length+1:Int):=by rw[wrap_id (by omega) (by omega)];omega
    refine W.skip (k10 _ ?_)
    refine W.seqK fun K11 k11=>?_
    refine W.block ?_
    refine W.seqK fun K12 k12=>W.region ?_
    refine WO.elem (y:=y) hI (by simp[St.put]) dn rfl rfl (by simp[St.put]) (fun _=>rfl) rfl rfl rfl rfl rfl el94 agg3 sz3 (.inr rfl) (by omega) (hy) fun p ces hces=>?_
    have hces:ces=[iv y]:=hces
    subst hces
    simp only[ofCells,sr]
    refine WO.go 1 dn ?_
    simp only[E,F,J,M,R,Tz,V,X,Y,reduceIte,G,H,sz]
    refine WO.nil ?_
    refine k12 _ ?_
    refine W.seqK fun K13 k13=>W.region ?_
    refine WO.go 2 dn ?_
    simp only[E,F,J,M,R,Tz,V,X,Y,reduceIte,G,H,sz]
    refine WO.q dn rfl rfl (QR.lookup (r:=rB) (ks:=(kvOf Nt.id ntA (t.notes))) (ntA (zeroN 0)) (ntq ((noteAt t.notes y).getD (zeroN 0))) (noteAt t.notes y).isSome true rfl rfl rfl (fun ρ w1 hb=>own_map hb (k:=4) rfl) (by kernel_rfl) (note_get htn.nd y)) ?_
    simp only[Bool.false_eq_true,if_false,if_true]
    refine WO.go 6 dn ?_
    simp only[E,F,J,M,R,Tz,V,X,Y,reduceIte,G,H,sz]
    refine WO.nil ?_
    refine k13 _ ?_
    refine W.pure dn fun K14 k14=>?_
    simp only[E,F,J,M,R,Tz,V,X,Y,reduceIte,G,H,sz];refine k14 _ ?_
    refine W.cond rfl rfl (fun hc=>?_) fun hc=>?_
    ·
     have hno:noteAt t.notes y=none:=by simpa using hc
     have hks:=kE1_yes hy hno
     refine W.region ?_
     refine WO.go 8 dn ?_
     simp only[E,F,J,M,R,Tz,V,X,Y,reduceIte,G,H,hwl,sz]
     refine WO.append (k:=5) (m:=1) [iv 2,iv ((kE1 s.notes t.notes i).length+1:Int),iv 1,iv y,iv 0,iv 0,iv 0,iv 0,iv 0,iv 0,iv 0,iv 0,iv 0,iv 0,iv 0] dn rfl rfl rfl rfl rfl rfl ek37 (news_own (k2:=7) rfl fun _=>rfl) rfl (by simp[Value.oneCell']) (by rw[maxLen_eq];omega) (by omega) fun p6 c6=>?_
     refine WO.go 1 dn ?_
     simp only[E,F,J,M,R,Tz,V,X,Y,reduceIte,G,H,hwl,sz]
     refine WO.nil ?_
     refine k11 _ ?_
     refine W.region ?_
     refine WO.go 2 dn ?_
     simp only[E,F,J,M,R,Tz,V,X,Y,reduceIte,G,H,hwl,sz]
     refine WO.nil ?_
     refine⟨(i+1,p6,c6),hlt,by simp only;omega,rfl,by simp[getE,bnd,keepE,hks,edsOf_snoc,wrap_succ (show i+1≤9223372036854775807 by omega)],⟨_,by simp[hks,edsOf_snoc,row_sing,row_app,edV,ntV,zeroN];rfl⟩,by simp[Own.bnd,bndL,bnd,boxO],by simp⟩
    ·
     have hno:¬ noteAt t.notes y=none:=by intro h9;rw[h9] at hc;simp at hc
     have hks:=kE1_no hy hno
     refine W.skip (k11 _ ?_)
     refine W.region ?_
     refine WO.go 2 dn ?_
     simp only[E,F,J,M,R,Tz,V,X,Y,reduceIte,G,H,sz]
     refine WO.nil ?_
     refine⟨(i+1,q5,c5),hlt,by simp only;omega,rfl,by simp[getE,bnd,keepE,hks,wrap_succ (show i+1≤9223372036854775807 by omega)],⟨_,by simp only[hks];rfl⟩,by simp[Own.bnd,bndL,bnd,boxO],by simp⟩
   ·
    have hge:(idS s.notes).length≤i:=by simpa using hc
    rw[kE1_all hge]
    obtain⟨loA,hloA⟩:∃ loA,loA=loK:=⟨_,rfl⟩
    obtain⟨sA,hsA⟩:∃ sA,sA=sK:=⟨_,rfl⟩
    obtain⟨loB,hloB⟩:∃ loB,loB=loI:=⟨_,rfl⟩
    obtain⟨sB,hsB⟩:∃ sB,sB=sI:=⟨_,rfl⟩
    rw[← hloA,← hsA,← hloB,← hsB]
    refine W.exit (k7 _ ?_)
    refine W.seqK fun K15 k15=>?_
    refine W.seqK fun K16 k16=>W.region ?_
    refine WO.go 1 dn ?_
    simp only[E,F,J,M,R,Tz,V,X,Y,reduceIte,G,H,sz]
    refine WO.callM (fun b:Nat=>.func (.func 77) #[] #[.pointer (some ⟨b,0,none⟩)]) (fun lo b sW=>At sW ⟨b,0,none⟩ [.map (some rB)]∧lo≤b∧b<sW.heap.size) dn rfl rfl rfl co33 (fun ρ w1 hb=>fKeys_spec) fun bK loK sK hK=>?_
    simp only[E,F,J,M,R,Tz,V,X,Y,reduceIte,G,H,sz]
    refine WO.callM (fun x:Option Addr×Nat=>.slice x.1 (idS t.notes).length x.2) (fun lo x sW=>(Rp.slice (Rp.int .i64)).rd (fun b=>lo≤b) sW [.slice x.1 (idS t.notes).length x.2] (idS t.notes)) dn rfl rfl rfl co32 (fun ρ w1 hb=>(fSortedN_spec hoff (hK.1.frame ((hb.at (S:=fun b=>loK≤b) (s:=sK) (by simp[St.put])).block _ hK.2.1 hK.2.2)) (Nat.lt_of_lt_of_le hK.2.2 (hb.at (S:=fun b=>loK≤b) (s:=sK) (by simp[St.put])).size) (own_map hb (k:=4) rfl) htn).mono fun r w2 _ ⟨x,h1,h2,h3⟩=>⟨x,h1,owi_rd h2 h3⟩) fun x loI sI hI=>?_
    obtain⟨qK,cK⟩:=x
    simp only at hI
    refine WO.go 2 dn ?_
    simp only[E,F,J,M,R,Tz,V,X,Y,reduceIte,G,H,sz]
    refine WO.nil ?_
    refine k16 _ ?_
    refine W.block ?_
    refine W.loopO (X:=Nat×Option Addr×Nat) [9,10,64,65] (fun x=>[(11,.val (.slice x.2.1 (edsOf (kE2 s.notes t.notes x.1)).length x.2.2)),(66,wv (x.1:Int))]) (fun x=>[boxO 26 b0 (scl a s),.cells 29 [wv v.part,.val (.slice z1 v.ms.length z2)],boxO 26 b2 (scl d t),.map rA (vmE (kvOf Nt.id ntA (s.notes))) (kvOf Nt.id ntA (s.notes)).length,.map rB (vmE (kvOf Nt.id ntA (t.notes))) (kvOf Nt.id ntA (t.notes)).length,.slice 101 15 (.slice x.2.1 (edsOf (kE2 s.notes t.notes x.1)).length x.2.2) (edsOf (kE2 s.notes t.notes x.1)).length (rowV edV (edsOf (kE2 s.notes t.notes x.1)))]) (fun x=>[((fun b=>loI≤b),sI),((fun b=>loK≤b),sK),((fun b=>loB≤b),sB),((fun b=>loA≤b),sA),((fun b=>lo1≤b),s1),((fun _=>True),w)]) (fun x=>x.1≤(idS t.notes).length) (fun x=>(idS t.notes).length - x.1) (0,q5,c5) ?_ ?_ ?_
    · exact⟨rfl,by simp[getE,bnd,keepE],⟨[],by simp⟩,by simp[Own.bnd,bndL,bnd,boxO],by simp⟩
    ·
     exact Nat.zero_le _
    ·
     rintro⟨i,q5,c5⟩ hi
     simp only at hi
     simp only[E,F,J,M,R,Tz,V,X,Y,reduceIte,sxk,G,H,sz]
     refine W.pure dn fun K17 k17=>?_
     simp only[E,F,J,M,R,Tz,V,X,Y,reduceIte,G,H,sz];refine k17 _ ?_
     refine W.seqK fun K18 k18=>?_
     refine W.cond rfl rfl (fun hc=>?_) fun hc=>?_
     ·
      have hlt:i<(idS t.notes).length:=by simpa using hc
      obtain⟨y,hy⟩:=len_lt (rfl:(idS t.notes).length=_) hlt
      obtain⟨nb,hnb⟩:=idS_at htn.nd hy
      have hi1:=idS_len s.notes
      have hi2:=idS_len t.notes
      have hel:=edsOf_len (kE2 s.notes t.notes i)
      have hkl:=kE2_len s.notes t.notes i
      have hwl:IntKind.i64.wrap (((edsOf (kE2 s.notes t.notes i)).length:Int)+1)=((kE2 s.notes t.notes i).length+1:Int):=by rw[wrap_id (by omega) (by omega)];omega
      refine W.skip (k18 _ ?_)
      refine W.seqK fun K19 k19=>?_
      refine W.block ?_
      refine W.seqK fun K20 k20=>W.region ?_
      refine WO.elem (y:=y) hI (by simp[St.put]) dn rfl rfl (by simp[St.put]) (fun _=>rfl) rfl rfl rfl rfl rfl el94 agg3 sz3 (.inr rfl) (by omega) (hy) fun p ces hces=>?_
      have hces:ces=[iv y]:=hces
      subst hces
      simp only[ofCells,sr]
      refine WO.go 1 dn ?_
      simp only[E,F,J,M,R,Tz,V,X,Y,reduceIte,G,H,sz]
      refine WO.nil ?_
      refine k20 _ ?_
      refine W.seqK fun K21 k21=>W.region ?_
      refine WO.go 2 dn ?_
      simp only[E,F,J,M,R,Tz,V,X,Y,reduceIte,G,H,sz]
      refine WO.q dn rfl rfl (QR.lookup (r:=rA) (ks:=(kvOf Nt.id ntA (s.notes))) (ntA (zeroN 0)) (ntq ((noteAt s.notes y).getD (zeroN 0))) (noteAt s.notes y).isSome true rfl rfl rfl (fun ρ w1 hb=>own_map hb (k:=3) rfl) (by kernel_rfl) (note_get hsn.nd y)) ?_
      simp only[Bool.false_eq_true,if_false,if_true]
      refine WO.go 6 dn ?_
      simp only[E,F,J,M,R,Tz,V,X,Y,reduceIte,G,H,sz]
      refine WO.nil ?_
      refine k21 _ ?_
      refine W.join 84 (.val (.bool (decide (¬ noteAt s.notes y=some nb)))) [9,10,11,17,64,65,66] (W.region ?_) ?_
      ·
       refine WO.go 3 (ds:=D68_) rfl ?_
       simp only[E,F,J,M,R,Tz,V,X,Y,reduceIte,G,H,sz]
       refine WO.cases 78 _ rfl (fun hg78=>?_) fun hg78=>?_
       ·
        have hna:noteAt s.notes y=none:=by simpa using hg78
        have hnt:decide (¬ noteAt s.notes y=some nb)=true:=by rw[hna];simp
        refine WO.go 6 (ds:=D68_) rfl ?_
        simp only[E,F,J,M,R,Tz,V,X,Y,reduceIte,G,H,sz]
        refine WO.nil ?_
        refine⟨rfl,?_,⟨_,rfl⟩,by simp[Own.bnd,bndL,bnd,boxO],by simp⟩
        rw[hnt]
        first
        | (simp[getE,bnd,keepE];done)
        | (rw[← nt_beq];simp[getE,bnd,keepE,hna,hnb])
       ·
        obtain⟨na,hna⟩:∃ na,noteAt s.notes y=some na:=by
                                      cases hq:noteAt s.notes y with
                                      | none=>rw[hq] at hg78;simp at hg78
                                      | some na=>exact⟨na,rfl⟩
        have hnt:decide (¬ noteAt s.notes y=some nb)=!decide (na=nb):=by rw[hna];simp
        refine WO.go 3 (ds:=D68_) rfl ?_
        simp only[E,F,J,M,R,Tz,V,X,Y,reduceIte,G,H,sz]
        refine WO.q (ds:=D68_) rfl rfl rfl (QR.lookup (r:=rB) (ks:=(kvOf Nt.id ntA (t.notes))) (ntA (zeroN 0)) (ntq ((noteAt t.notes y).getD (zeroN 0))) (noteAt t.notes y).isSome false rfl rfl rfl (fun ρ w1 hb=>own_map hb (k:=4) rfl) (by kernel_rfl) (note_get htn.nd y)) ?_
        simp only[Bool.false_eq_true,if_false,if_true]
        simp only[E,F,J,M,R,Tz,V,X,Y,reduceIte,G,H,sz]
        refine WO.aggCmpN [((noteAt s.notes y).getD (zeroN 0)).id,((noteAt s.notes y).getD (zeroN 0)).part,((noteAt s.notes y).getD (zeroN 0)).bar,((noteAt s.notes y).getD (zeroN 0)).voice,((noteAt s.notes y).getD (zeroN 0)).ossia,((noteAt s.notes y).getD (zeroN 0)).start.1,((noteAt s.notes y).getD (zeroN 0)).start.2,((noteAt s.notes y).getD (zeroN 0)).len.1,((noteAt s.notes y).getD (zeroN 0)).len.2,((noteAt s.notes y).getD (zeroN 0)).pit.1,((noteAt s.notes y).getD (zeroN 0)).pit.2.1,((noteAt s.notes y).getD (zeroN 0)).pit.2.2] [((noteAt t.notes y).getD (zeroN 0)).id,((noteAt t.notes y).getD (zeroN 0)).part,((noteAt t.notes y).getD (zeroN 0)).bar,((noteAt t.notes y).getD (zeroN 0)).voice,((noteAt t.notes y).getD (zeroN 0)).ossia,((noteAt t.notes y).getD (zeroN 0)).start.1,((noteAt t.notes y).getD (zeroN 0)).start.2,((noteAt t.notes y).getD (zeroN 0)).len.1,((noteAt t.notes y).getD (zeroN 0)).len.2,((noteAt t.notes y).getD (zeroN 0)).pit.1,((noteAt t.notes y).getD (zeroN 0)).pit.2.1,((noteAt t.notes y).getD (zeroN 0)).pit.2.2] (ds:=D68_) rfl rfl rfl rfl ⟨_,rfl,fun _=>rfl⟩ ⟨_,rfl,fun _=>rfl⟩ itn89 rfl rfl rfl ?_
        refine WO.go 1 (ds:=D68_) rfl ?_
        simp only[E,F,J,M,R,Tz,V,X,Y,reduceIte,G,H,sz]
        refine WO.nil ?_
        refine⟨rfl,?_,⟨_,rfl⟩,by simp[Own.bnd,bndL,bnd,boxO],by simp⟩
        rw[hnt]
        first
        | (simp[getE,bnd,keepE];done)
        | (rw[← nt_beq];simp[getE,bnd,keepE,hna,hnb])
      ·
       simp only[E,F,J,M,R,Tz,V,X,Y,reduceIte,sxk,G,H,sz]
       refine W.cond rfl rfl (fun hc=>?_) fun hc=>?_
       ·
        have hdf:¬ noteAt s.notes y=some nb:=by simpa using hc
        have hks:=kE2_yes hy hnb hdf
        refine W.region ?_
        refine WO.go 6 dn ?_
        simp only[E,F,J,M,R,Tz,V,X,Y,reduceIte,G,H,hwl,sz]
        refine WO.q dn rfl rfl (QR.lookup (r:=rB) (ks:=(kvOf Nt.id ntA (t.notes))) (ntA (zeroN 0)) (ntq ((noteAt t.notes y).getD (zeroN 0))) (noteAt t.notes y).isSome false rfl rfl rfl (fun ρ w1 hb=>own_map hb (k:=4) rfl) (by kernel_rfl) (note_get htn.nd y)) ?_
        simp only[Bool.false_eq_true,if_false,if_true]
        simp only[hnb,Option.getD_some]
        refine WO.go 2 dn ?_
        simp only[E,F,J,M,R,Tz,V,X,Y,reduceIte,G,H,hwl,sz]
        refine WO.append (k:=5) (m:=1) [iv 1,iv ((kE2 s.notes t.notes i).length+1:Int),iv 1,iv nb.id,iv nb.part,iv nb.bar,iv nb.voice,iv nb.ossia,iv nb.start.1,iv nb.start.2,iv nb.len.1,iv nb.len.2,iv nb.pit.1,iv nb.pit.2.1,iv nb.pit.2.2] dn rfl rfl rfl rfl rfl rfl ek37 (news_own (k2:=7) rfl fun _=>rfl) rfl (by simp[Value.oneCell']) (by rw[maxLen_eq];omega) (by omega) fun p6 c6=>?_
        refine WO.go 1 dn ?_
        simp only[E,F,J,M,R,Tz,V,X,Y,reduceIte,G,H,hwl,sz]
        refine WO.nil ?_
        refine k19 _ ?_
        refine W.region ?_
        refine WO.go 2 dn ?_
        simp only[E,F,J,M,R,Tz,V,X,Y,reduceIte,G,H,hwl,sz]
        refine WO.nil ?_
        refine⟨(i+1,p6,c6),hlt,by simp only;omega,rfl,by simp[getE,bnd,keepE,hks,edsOf_snoc,wrap_succ (show i+1≤9223372036854775807 by omega)],⟨_,by simp[hks,edsOf_snoc,row_sing,row_app,edV,ntV];rfl⟩,by simp[Own.bnd,bndL,bnd,boxO],by simp⟩
       ·
        have hdf:noteAt s.notes y=some nb:=by simpa using hc
        have hks:=kE2_no hy hnb hdf
        refine W.skip (k19 _ ?_)
        refine W.region ?_
        refine WO.go 2 dn ?_
        simp only[E,F,J,M,R,Tz,V,X,Y,reduceIte,G,H,sz]
        refine WO.nil ?_
        refine⟨(i+1,q5,c5),hlt,by simp only;omega,rfl,by simp[getE,bnd,keepE,hks,wrap_succ (show i+1≤9223372036854775807 by omega)],⟨_,by simp only[hks];rfl⟩,by simp[Own.bnd,bndL,bnd,boxO],by simp⟩
     ·
      have hge:(idS t.notes).length≤i:=by simpa using hc
      rw[kE2_all hge]
      refine W.exit (k15 _ ?_)
      refine W.pure dn fun K23 k23=>?_
      simp only[E,F,J,M,R,Tz,V,X,Y,reduceIte,G,H,sz];refine k23 _ ?_
      refine W.ret ⟨by simp,_,rfl,fun ρ w1 hb=>?_⟩
      exact⟨(q5,c5),rfl,owr_read (j:=5) (T:=101) (k:=15) (f:=edV) (h:=fun _=>rfl) hb rfl (fun b9 h9=>own_new (k:=5) hb (by simp) rfl h9)⟩
end Go.Proofs.YtolmeekbjonbcaaGreatDoor
namespace Go.Proofs.YtolmeekbjonbcaaGreatDoor
open Go Go.SX Go.RowKit
variable [Drw]
section
variable {P:Program} {ops:Array Oper} {Q:Exit→St→Prop} {o:Oper} {rest:List Oper} {σ:St} {ds:List (Option Nat)}
theorem WO.appendIn {x y:Operand} {t e:TypeId} {k b n c i m c2 off sz by':Nat} {zs xs:List Value} {q:Addr} (hk:nth σ.own k=some (.slice e sz (.slice (some ⟨b,0,none⟩) n c) n xs)) (hds:dsOk ds ops.toList=true) (hg:gd ds σ o.guard=some true) (hd:dOk σ o.dst=true)
  (hop:o.op=.call ⟨.builtin .append,#[x,y],#[t,t]⟩) (hx:ev σ x=some (.val (.slice (some ⟨b,0,none⟩) i c))) (hy:ev σ y=some (.val (.slice (some q) m c2))) (hq:m=0∨q=(⟨b,off,none⟩:Addr)) (he:elemK P t=some (e,sz,by',zs))
  (him:i+m≤n) (hoff:off+m*sz≤n*sz) (h1:∀ u,u∈xs→u.oneCell'=true)
  (h:∀ ys:List Value,ys.length=n*sz→ys.take ((i+m)*sz)=xs.take (i*sz)++(xs.drop off).take (m*sz)→WO P ops Q rest ((setOwn σ k (.slice e sz (.slice (some ⟨b,0,none⟩) n c) n ys)).put o.dst (.val (.slice (some ⟨b,0,none⟩) (i+m) c)))):WO P ops Q (o::rest) σ:=
 WO.one hds hg fun ρ a w hs=>by
  have hk0:=hk
  rw[nth_eq] at hk
  obtain⟨hu,z,zv,hi,hz,hsz,hby,hzs,hpos,hzl⟩:=elemK_spec he
  have hown:=hs.base.own k _ hk ρ (Agree.refl _ _)
  simp only[Own.holds] at hown
  obtain⟨hxl,hown⟩:=hown
  rcases hown with⟨hv,hn0⟩ | ⟨g,cap,cur,hv,hbg,hcell,hnc,hcm,hcs,htake⟩
  · cases hv
  ·
   simp only[Value.slice.injEq,Option.some.injEq,Addr.mk.injEq] at hv
   obtain⟨⟨rfl,_⟩,_,rfl⟩:=hv
   subst hsz
   obtain⟨news,hnw⟩:∃ news,(xs.drop off).take (m*z.size)=news:=⟨_,rfl⟩
   have hoz:off≤xs.length:=by rw[hxl];omega
   have hnl:news.length=m*z.size:=by rw[← hnw,List.length_take,List.length_drop,hxl];omega
   have hat:At w q news:=by
    rcases hq with h0 | rfl
    ·
     subst h0
     rw[show news=[] from List.eq_nil_of_length_eq_zero (by simpa using hnl)]
     exact fun j v hj=>by simp at hj
    · exact row_at hs.base hk0 hnw
   have hle:n*z.size≤cur.size:=by rw[hcs];exact Nat.mul_le_mul_right _ hnc
   have him':i*z.size+m*z.size≤n*z.size:=by rw[← Nat.add_mul];exact Nat.mul_le_mul_right _ him
   have hrun:=run_append_room (P:=P) w t o.type e z hu hi b i c cur hcell q m c2 news hnl hat (fun u hu'=>h1 u (List.mem_of_mem_drop (List.mem_of_mem_take (hnw ▸ hu')))) (by omega) (by omega)
   have hgr:Grown w (w.setRow b (cur.toList.take (i*z.size)++news++cur.toList.drop (i*z.size+news.length)).toArray) (some b):=⟨rfl,rfl,rfl,by simp[World.setRow],fun j hj hne=>setRow_other w b j _ fun he=>hne (by rw[he]),DLe.refl _⟩
   have hcl:cur.toList.length=cur.size:=Array.length_toList
   obtain⟨ys,hys⟩:∃ ys,(cur.toList.take (i*z.size)++news++cur.toList.drop (i*z.size+news.length)).take (n*z.size)=ys:=⟨_,rfl⟩
   have htot:(cur.toList.take (i*z.size)++news++cur.toList.drop (i*z.size+news.length)).length=cur.size:=by simp;omega
   have hyl:ys.length=n*z.size:=by rw[← hys,List.length_take,htot];omega
   refine⟨ρ,(setOwn σ k (.slice e z.size (.slice (some ⟨b,0,none⟩) n c) n ys)).put o.dst (.val (.slice (some ⟨b,0,none⟩) (i+m) c)),.slice (some ⟨b,0,none⟩) (i+m) c,_,.inl ?_,Sat.put (hs.turn (o':=.slice e z.size (.slice (some ⟨b,0,none⟩) n c) n ys) hk (fun _ _ h=>by cases h) hgr ?_ (fun b' hb=>.inl hb)) _ _ _ ?_ (fun _ _=>rfl),h _ hyl ?_⟩
   ·
    unfold execOp
    rw[hop]
    simp only[Sem.run_bind,resolve,List.map_toArray,List.map_cons,List.map_nil,Sem.run_pure,Result.andThen_ok,invoke,builtin]
    rw[hs.ev hx ρ (Agree.refl _ _),hs.ev hy ρ (Agree.refl _ _)]
    simp only[den]
    refine Eq.trans (congrArg (fun r:Result Value=>r.andThen fun a w'=>Result.ok (Next.value a) w') hrun) rfl
   ·
    refine⟨hyl,.inr ⟨b,c,_,rfl,hbg,setRow_heap w b cur _ e _ hcell,hnc,hcm,?_,hys⟩⟩
    rw[List.size_toArray,htot];exact hcs
   · intro j hj;exact dOk_lt (σ:=setOwn σ k _) (by rw[dOk_setOwn];exact hd) j hj
   ·
    have e1:cur.toList.take (i*z.size)=xs.take (i*z.size):=by rw[← htake,List.take_take,Nat.min_eq_left (by omega)]
    rw[← hys,List.take_take,Nat.add_mul,Nat.min_eq_left him',e1,hnw,List.take_append_of_le_length (by simp;omega),List.take_of_length_le (by simp;omega)]
theorem WO.cutRow {T:TypeId} {k sz n c:Nat} {q:Option Addr} {xs:List Value} (m:Nat) (zs:List Value) (hk:nth σ.own k=some (.slice T sz (.slice q n c) n xs)) (hm:m≤n) (hz:xs.take (m*sz)=zs)
  (h:WO P ops Q rest (setOwn σ k (.slice T sz (.slice q m c) m zs))):WO P ops Q rest σ:=fun ρ a w hs=>by
 rw[nth_eq] at hk
 refine h ρ a w (hs.turn hk (fun _ _ h=>by cases h) (⟨rfl,rfl,rfl,Nat.le_refl _,fun _ _ _=>rfl,DLe.refl _⟩:Grown w w ((Value.slice q n c).ownBlock)) ?_ (fun b' hb=>.inl (by cases q<;>simpa [Own.num,Value.ownBlock] using hb)))
 have hown:=hs.base.own k _ hk ρ (Agree.refl _ _)
 simp only[Own.holds] at hown ⊢
 obtain⟨hxl,hown⟩:=hown
 have hms:m*sz≤n*sz:=Nat.mul_le_mul_right _ hm
 refine⟨by rw[← hz,List.length_take,hxl];omega,?_⟩
 rcases hown with⟨hv,hn0⟩ | ⟨g,cap,cur,hv,hbg,hcell,hnc,hcm,hcs,htake⟩
 ·
  simp only[Value.slice.injEq] at hv
  obtain⟨rfl,_,rfl⟩:=hv
  have h0:m=0:=by omega
  subst h0
  exact .inl ⟨rfl,rfl⟩
 ·
  simp only[Value.slice.injEq] at hv
  obtain⟨rfl,_,rfl⟩:=hv
  refine .inr ⟨g,c,cur,rfl,hbg,hcell,by omega,hcm,hcs,?_⟩
  rw[← hz,← htake,List.take_take,Nat.min_eq_left hms]
theorem QR.slc4 {t e:TypeId} {sz n c:Nat} {p:Option Addr} {x y z u:Operand} {k0 k1 k2:IntKind} {l h m:Int} (hop:o.op=.slice t x (some u) (some y) (some z)) (hx:ev σ x=some (.val (.slice p n c))) (hl:ev σ u=some (.val (.int k0 l))) (hy:ev σ y=some (.val (.int k1 h))) (hz:ev σ z=some (.val (.int k2 m))) (he:elemSz P t=some (e,sz))
  (h0:0≤l) (h1:l≤h) (h2:h≤m) (h3:m≤c):QR P o σ (.val (slcV sz p m.toNat l.toNat h.toNat)):=fun ρ a w hs=>by
 refine⟨_,?_,fun _ _=>rfl⟩
 unfold elemSz at he
 split at he
 ·
  rename_i e' hu
  cases hsz:szOf P e' with
  | none=>rw[hsz] at he;cases he
  |
   some s9=>
   rw[hsz] at he
   simp only[Option.map_some,Option.some.injEq,Prod.mk.injEq] at he
   obtain⟨rfl,rfl⟩:=he
   have hse:P.elem t=e':=by unfold Program.elem;rw[hu]
   rw[← hse] at hu
   have hsz':=run_szOf (w:=w) hsz
   unfold execOp
   rw[hop]
   simp only[Sem.run_bind,Option.map_some,hs.ev hx ρ (Agree.refl _ _),hs.ev hl ρ (Agree.refl _ _),hs.ev hy ρ (Agree.refl _ _),hs.ev hz ρ (Agree.refl _ _),den]
   rw[run_sliceAt_slice (h:=hu),run_slice_lhm (ht:=hu) (h0:=h0) (h1:=h1) (h2:=h2) (h3:=h3),hse,hsz']
   simp[sliced,slcV,Result.andThen]
 · cases he
theorem slc_from {sz b c l h:Nat} (hl:l<c):slcV sz (some ⟨b,0,none⟩) c l h=.slice (some ⟨b,l*sz,none⟩) (h - l) (c - l):=by
 unfold slcV
 rw[if_neg (by omega)]
 simp[Addr.add_mid]
theorem slc_to {sz b c h:Nat} (hl:0<c):slcV sz (some ⟨b,0,none⟩) c 0 h=.slice (some ⟨b,0,none⟩) h c:=by
 unfold slcV
 rw[if_neg (by omega)]
 simp[Addr.add_mid]
theorem slc_rest {sz b c l n:Nat} (hl:l≤n) (hn:n≤c):∃ (q:Addr) (c2:Nat),slcV sz (some ⟨b,0,none⟩) c l n=.slice (some q) (n - l) c2∧(n - l=0∨q=(⟨b,l*sz,none⟩:Addr)):=by
 by_cases h:c=l
 · exact⟨⟨b,0,none⟩,c - l,by unfold slcV;rw[if_pos h],.inl (by omega)⟩
 · exact⟨⟨b,l*sz,none⟩,c - l,slc_from (by omega),.inr rfl⟩
end
end Go.Proofs.YtolmeekbjonbcaaGreatDoor
namespace Go.Proofs.YtolmeekbjonbcaaGreatDoor
open Go Go.SX Go.RowKit
variable [Drw]
open Int renaming reduceEq → E, reduceLT → F, reduceBEq → G, reduceBNe → H, reduceNeg → Z1, reduceGT → Z2, reduceLE → Z3, reduceGE → Z4, reduceMul → Z5, reduceMod → Z6, reduceAdd → Z7, reduceTMod → Z8, reduceTDiv → Z9
open Nat renaming reduceAdd → J, reduceSub → M, reduceMul → R, reduceLT → Tz, reduceLeDiff → V, reduceEqDiff → X
open List renaming reduceReplicate → Y
abbrev D69_:List (Option Nat):=[some 5,some 6,some 7,some 8,some 9,some 10,some 11,some 4]
theorem isIn_spec (w:World) (n m:Int):Gives Tryz.prog 35 #[iv n,iv m] w fun r _=>r=.bool (within 1 m n):=by
 refine gives_of [wv n,wv m] 12 [.tmp 4] Tryz.func35 rfl rfl rfl (by simp) rfl rfl ?_
 refine W.pure dn fun K1 k1=>?_
 simp only[E,F,J,M,R,Tz,V,X,Y,reduceIte,G,H,sz];refine k1 _ ?_
 refine W.join 4 (.val (.bool (within 1 m n))) [] (W.region ?_) ?_
 ·
  refine WO.go 3 (ds:=D69_) rfl ?_
  simp only[E,F,J,M,R,Tz,V,X,Y,reduceIte,G,H,sz]
  refine WO.cases 7 _ rfl (fun hg7=>?_) fun hg7=>?_
  ·
   refine WO.go 5 (ds:=D69_) rfl ?_
   simp only[E,F,J,M,R,Tz,V,X,Y,reduceIte,G,H,sz]
   refine WO.nil ?_
   refine⟨rfl,?_,⟨_,rfl⟩,by simp[Own.bnd,bndL,bnd,boxO],by simp⟩
   unfold within
   try rw[hg7]
   simp[getE,bnd,keepE]
  ·
   refine WO.go 5 (ds:=D69_) rfl ?_
   simp only[E,F,J,M,R,Tz,V,X,Y,reduceIte,G,H,sz]
   refine WO.nil ?_
   refine⟨rfl,?_,⟨_,rfl⟩,by simp[Own.bnd,bndL,bnd,boxO],by simp⟩
   unfold within
   try rw[hg7]
   simp[getE,bnd,keepE]
 ·
  simp only[E,F,J,M,R,Tz,V,X,Y,reduceIte,sxk,G,H,sz]
  refine W.ret ⟨by simp,_,rfl,fun ρ w1 hb=>?_⟩
  rfl
theorem idOf_spec (w:World) (n:Nt):Gives Tryz.prog 83 #[(ntq n)] w fun r _=>r=iv n.id:=by
 refine gives_of [.agg (ntw n)] 5 [.tmp 2] Tryz.func83 rfl rfl rfl (by simp) rfl rfl ?_
 refine W.pure dn fun K1 k1=>?_
 simp only[E,F,J,M,R,Tz,V,X,Y,reduceIte,G,H,sz];refine k1 _ ?_
 refine W.pure dn fun K2 k2=>?_
 simp only[E,F,J,M,R,Tz,V,X,Y,reduceIte,G,H,sz];refine k2 _ ?_
 refine W.ret ⟨by simp,_,rfl,fun ρ w1 hb=>?_⟩
 rfl
theorem eclo_spec {w:World} {a b:Addr} {id:Int} (ha:At w a [.func (.func 83) #[] #[]]) (hb0:At w b [iv id]) (haz:a.block<w.heap.size) (hbz:b.block<w.heap.size) (n:Nt):Gives Tryz.prog 140 #[(ntq n),.pointer (some a),.pointer (some b)] w fun r _=>r=.bool (n.id == id):=by
 refine gives_of [.agg (ntw n),.val (.pointer (some a)),.val (.pointer (some b))] 10 [.tmp 4] Tryz.func140 rfl rfl rfl (by simp) rfl rfl ?_
 refine W.pure dn fun K1 k1=>?_
 simp only[E,F,J,M,R,Tz,V,X,Y,reduceIte,G,H,sz];refine k1 _ ?_
 refine W.seqK fun K2 k2=>?_
 refine W.regionQ mixed (by kernel_rfl) ?_
 refine WQ.q dn rfl rfl (QR.load [.func (.func 83) #[] #[]] false rfl rfl agg162 sz162 (.inr rfl) (fun ρ w1 hb=>ha.now (S:=fun _=>True) hb (by simp[St.put]) trivial haz)) ?_
 simp only[ofCells,sr]
 refine WQ.go 1 dn ?_
 simp only[E,F,J,M,R,Tz,V,X,Y,reduceIte,sxq,G,H,sz]
 refine WQ.call (iv n.id) dn rfl rfl rfl co83 (fun ρ w1 hb=>idOf_spec w1 n) ?_
 simp only[E,F,J,M,R,Tz,V,X,Y,reduceIte,G,H,sz]
 refine WQ.q dn rfl rfl (QR.load [iv id] false rfl rfl agg3 sz3 (.inr rfl) (fun ρ w1 hb=>hb0.now (S:=fun _=>True) hb (by simp[St.put]) trivial hbz)) ?_
 simp only[ofCells,sr]
 refine WQ.go 2 dn ?_
 simp only[E,F,J,M,R,Tz,V,X,Y,reduceIte,sxq,G,H,sz]
 refine WQ.nil ?_
 refine k2 _ ?_
 refine W.ret ⟨by simp,_,rfl,fun ρ w1 hb=>?_⟩
 rfl
theorem efind_spec {S:Nat→Prop} {w:World} {v:Value} {l:List Nt} (id:Int) (hl:rNts.rd S w [v] l):Gives Tryz.prog 82 #[v,.func (.func 83) #[] #[],iv id] w fun r _=>r=iv (fIx (fun n:Nt=>n.id == id) l):=by
 obtain⟨p,c,rfl,hc1,hc2⟩:=Rp.slice_val hl
 have hl:(Rp.slice rNt).rd (fun _=>True) w _ l:=Rp.any hl
 refine gives_of [.val (.slice p l.length c),.val (.func (.func 83) #[] #[]),wv id] 10 [.tmp 6] Tryz.func82 rfl rfl rfl (by simp) rfl rfl ?_
 refine W.pure dn fun K1 k1=>?_
 simp only[E,F,J,M,R,Tz,V,X,Y,reduceIte,G,H,sz];refine k1 _ ?_
 refine W.seqK fun K2 k2=>W.region ?_
 refine WO.go 2 dn ?_
 simp only[E,F,J,M,R,Tz,V,X,Y,reduceIte,G,H,sz]
 refine WO.call (iv (fIx (fun n:Nt=>n.id == id) l)) dn
                              rfl rfl rfl co139 (fun ρ w1 hb=>by
                              obtain⟨g1,g2⟩:=own_cells (k:=1) hb rfl 0
                              obtain⟨g3,g4⟩:=own_cells (k:=0) hb rfl 0
                              exact indexNt_spec (Rp.now hl (hb.first (by simp[St.put]))) (fun n:Nt=>n.id == id) 140 #[.pointer (some ⟨ρ 0,0,none⟩),.pointer (some ⟨ρ 1,0,none⟩)] co140 fun w2 hk x hx=>eclo_spec (g3.frame (hk.block _ trivial g4)) (g1.frame (hk.block _ trivial g2)) (Nat.lt_of_lt_of_le g4 hk.size) (Nat.lt_of_lt_of_le g2 hk.size) x) ?_
 refine WO.go 1 dn ?_
 simp only[E,F,J,M,R,Tz,V,X,Y,reduceIte,G,H,sz]
 refine WO.nil ?_
 refine k2 _ ?_
 refine W.ret ⟨by simp,_,rfl,fun ρ w1 hb=>?_⟩
 rfl
abbrev D71_:List (Option Nat):=[some 20,some 21,some 22,some 23,some 24,some 25,some 26,some 27,some 28,some 29,some 30,some 31,some 32,some 33,some 34,some 35,some 36,some 2]
abbrev D70_:List (Option Nat):=[some 3,some 4,some 5,some 6,some 7,some 8,some 9,some 10,some 11,some 12,some 13,some 14,some 15,some 16,some 17,some 18,some 19]
theorem isEdit_spec (w:World) (x:Ed) (h:isEdF x=true):Gives Tryz.prog 81 #[.agg #[iv x.kind,iv x.clock,iv x.who,iv x.note.id,iv x.note.part,iv x.note.bar,iv x.note.voice,iv x.note.ossia,iv x.note.start.1,iv x.note.start.2,iv x.note.len.1,iv x.note.len.2,iv x.note.pit.1,iv x.note.pit.2.1,iv x.note.pit.2.2]] w fun r _=>r=.bool true:=by
 unfold isEdF at h
 simp only[Bool.and_eq_true,Bool.or_eq_true,decide_eq_true_eq] at h
 obtain⟨h1,h2,h3,h4⟩:=h
 refine gives_of [.agg [wv x.kind,wv x.clock,wv x.who,wv x.note.id,wv x.note.part,wv x.note.bar,wv x.note.voice,wv x.note.ossia,wv x.note.start.1,wv x.note.start.2,wv x.note.len.1,wv x.note.len.2,wv x.note.pit.1,wv x.note.pit.2.1,wv x.note.pit.2.2]] 37 [.tmp 2] Tryz.func81 rfl rfl rfl (by simp) rfl rfl ?_
 refine W.pure dn fun K1 k1=>?_
 simp only[E,F,J,M,R,Tz,V,X,Y,reduceIte,G,H,sz];refine k1 _ ?_
 refine W.seqK fun K2 k2=>?_
 refine W.join 19 (.val (.bool false)) [1] (W.region ?_) ?_
 ·
  refine WO.go 2 (ds:=D70_) rfl ?_
  simp only[E,F,J,M,R,Tz,V,X,Y,reduceIte,G,H,sz]
  refine WO.call (.bool true) (ds:=D70_) rfl rfl rfl rfl co35 (fun ρ w1 hb=>by have h9:=isIn_spec w1 x.clock 1000000000;rw[h1] at h9;exact h9) ?_
  refine WO.go 4 (ds:=D70_) rfl ?_
  simp only[E,F,J,M,R,Tz,V,X,Y,reduceIte,G,H,sz]
  refine WO.call (.bool true) (ds:=D70_) rfl rfl rfl rfl co35 (fun ρ w1 hb=>by have h9:=isIn_spec w1 x.who 1000000;rw[h2] at h9;exact h9) ?_
  refine WO.go 6 (ds:=D70_) rfl ?_
  simp only[E,F,J,M,R,Tz,V,X,Y,reduceIte,G,H,sz]
  refine WO.call (.bool true) (ds:=D70_) rfl rfl rfl rfl co35 (fun ρ w1 hb=>by have h9:=isIn_spec w1 x.note.id 1000000;rw[h3] at h9;exact h9) ?_
  refine WO.go 2 (ds:=D70_) rfl ?_
  simp only[E,F,J,M,R,Tz,V,X,Y,reduceIte,G,H,sz]
  refine WO.nil ?_
  refine⟨rfl,?_,⟨_,rfl⟩,by simp[Own.bnd,bndL,bnd,boxO],by simp⟩
  simp[getE,bnd,keepE]
 ·
  simp only[E,F,J,M,R,Tz,V,X,Y,reduceIte,sxk,G,H,sz]
  refine W.cond rfl rfl (fun hc=>?_) fun hc=>?_
  ·
   simp at hc
  ·
   refine W.skip (k2 _ ?_)
   refine W.join 2 (.val (.bool true)) [] (W.region ?_) ?_
   ·
    refine WO.go 4 (ds:=D71_) rfl ?_
    simp only[E,F,J,M,R,Tz,V,X,Y,reduceIte,G,H,sz]
    refine WO.cases 23 _ rfl (fun hg23=>?_) fun hg23=>?_
    ·
     have hk1:x.kind=1:=by simpa using hg23
     refine WO.go 14 (ds:=D71_) rfl ?_
     simp only[E,F,J,M,R,Tz,V,X,Y,reduceIte,G,H,sz]
     refine WO.nil ?_
     refine⟨rfl,?_,⟨_,rfl⟩,by simp[Own.bnd,bndL,bnd,boxO],by simp⟩
     first
     | (simp[getE,bnd,keepE];done)
     | (have h6:=nt_beq x.note (zeroN x.note.id);rw[decide_eq_true h5] at h6;simp[zeroN] at h6;simp[getE,bnd,keepE,h6])
    ·
     have hk2:¬ x.kind=1:=by simpa using hg23
     rcases h4 with h4 | ⟨h4,h5⟩
     · exact absurd h4 hk2
     refine WO.go 4 (ds:=D71_) rfl ?_
     simp only[E,F,J,M,R,Tz,V,X,Y,reduceIte,G,H,sz]
     refine WO.cases 27 _ rfl (fun hg27=>?_) fun hg27=>?_
     ·
      refine WO.go 6 (ds:=D71_) rfl ?_
      simp only[E,F,J,M,R,Tz,V,X,Y,reduceIte,G,H,sz]
      refine WO.aggCmpN [x.note.id,x.note.part,x.note.bar,x.note.voice,x.note.ossia,x.note.start.1,x.note.start.2,x.note.len.1,x.note.len.2,x.note.pit.1,x.note.pit.2.1,x.note.pit.2.2] [x.note.id,0,0,0,0,0,0,0,0,0,0,0] (ds:=D71_) rfl rfl rfl rfl ⟨_,rfl,fun _=>rfl⟩ ⟨_,rfl,fun _=>rfl⟩ itn89 rfl rfl rfl ?_
      refine WO.go 3 (ds:=D71_) rfl ?_
      simp only[E,F,J,M,R,Tz,V,X,Y,reduceIte,G,H,sz]
      refine WO.nil ?_
      refine⟨rfl,?_,⟨_,rfl⟩,by simp[Own.bnd,bndL,bnd,boxO],by simp⟩
      first
      | (simp[getE,bnd,keepE];done)
      | (have h6:=nt_beq x.note (zeroN x.note.id);rw[decide_eq_true h5] at h6;simp[zeroN] at h6;simp[getE,bnd,keepE,h6])
     ·
      simp at hg27;omega
   ·
    simp only[E,F,J,M,R,Tz,V,X,Y,reduceIte,sxk,G,H,sz]
    refine W.ret ⟨by simp,_,rfl,fun ρ w1 hb=>?_⟩
    rfl
theorem erase_rows (l:List Nt) (i:Nat):(rowV ntV l).take (i*12)++((rowV ntV l).drop ((i+1)*12)).take ((l.length - (i+1))*12)=rowV ntV (l.eraseIdx i):=by
 rw[row_take (f:=ntV) (k:=12) (fun _=>rfl),row_drop (f:=ntV) (k:=12) (fun _=>rfl),row_take (f:=ntV) (k:=12) (fun _=>rfl),← row_app,List.eraseIdx_eq_take_drop_succ,List.take_of_length_le (l:=l.drop (i+1)) (by rw[List.length_drop];exact Nat.le_refl _)]
theorem nt_one (l:List Nt):∀ u,u∈rowV ntV l→u.oneCell'=true:=row_one (fun x u hu=>by simp only[ntV,List.mem_cons,List.not_mem_nil,or_false] at hu;rcases hu with rfl | rfl | rfl | rfl | rfl | rfl | rfl | rfl | rfl | rfl | rfl | rfl<;>rfl) l
theorem erase_filter {l:List Nt} (hnd:(l.map Nt.id).Nodup) {i:Nat} {y:Nt} (h:l[i]?=some y):l.eraseIdx i=l.filter fun n=>n.id != y.id:=by
 induction l generalizing i with
 | nil=>simp at h
 |
  cons a l ih=>
  rw[List.map_cons,List.nodup_cons] at hnd
  cases i with
  |
   zero=>
   simp only[List.getElem?_cons_zero,Option.some.injEq] at h
   subst h
   rw[List.eraseIdx_zero,List.tail_cons,List.filter_cons_of_neg (by simp)]
   exact(List.filter_eq_self.2 fun n hn=>by
    simp only[bne_iff_ne,ne_eq]
    exact fun he=>hnd.1 (he ▸ List.mem_map_of_mem hn)).symm
  |
   succ j=>
   simp only[List.getElem?_cons_succ] at h
   rw[List.eraseIdx_cons_succ,List.filter_cons_of_pos,ih hnd.2 h]
   simp only[bne_iff_ne,ne_eq]
   exact fun he=>hnd.1 (he ▸ List.mem_map_of_mem (List.mem_of_getElem? h))
theorem ix_note {l:List Nt} (id:Int):(fIx (fun n:Nt=>n.id == id) l=-1∧∀ n,n∈l→n.id≠id)∨∃ (i:Nat) (y:Nt),fIx (fun n:Nt=>n.id == id) l=(i:Int)∧l[i]?=some y∧y.id=id:=by
 unfold fIx
 cases h:l.findIdx? (fun n:Nt=>n.id == id) with
 | none=>rw[List.findIdx?_eq_none_iff] at h;exact .inl ⟨rfl,fun n hn=>by simpa using h n hn⟩
 |
  some i=>
  rw[List.findIdx?_eq_some_iff_getElem] at h
  obtain⟨hi,h1,_⟩:=h
  exact .inr ⟨i,l[i],rfl,List.getElem?_eq_getElem hi,by simpa using h1⟩
theorem delete_spec {w:World} {l:List Nt} {c i:Nat} {q:Option Addr} {y:Nt} (hy:l[i]?=some y) (hln:l.length≤20000) (hlie:Lie [OWR 89 ntV 12 q c l] w):GivesB Tryz.prog 85 #[.slice q l.length c,iv (i:Int),iv ((i:Int)+1)] w (ofOwn [OWR 89 ntV 12 q c l]) fun r w'=>
  r=.slice q (l.eraseIdx i).length c∧TurnL [OWR 89 ntV 12 q c l] [OWR 89 ntV 12 q c (l.eraseIdx i)] w w':=by
 have hil:=(List.getElem?_eq_some_iff.1 hy).1
 have hel:(l.eraseIdx i).length=l.length - 1:=by rw[List.length_eraseIdx];simp[hil]
 refine givesL_of [OWR 89 ntV 12 q c l] [.val (.slice q l.length c),wv (i:Int),wv ((i:Int)+1)] 33 [.tmp 6] Tryz.func85 rfl rfl rfl (by simp) rfl rfl rfl hlie ?_
 unfold OWR
 refine W.pure dn fun K1 k1=>?_
 simp only[E,F,J,M,R,Tz,V,X,Y,reduceIte,G,H,sz];refine k1 _ ?_
 refine W.ownCap (k:=0) rfl (by omega) fun b2 hb2 hnc hcm=>?_
 rw[maxLen_eq] at hcm
 subst hb2
 refine W.seqK fun K2 k2=>W.region ?_
 refine WO.go 5 dn ?_
 simp only[E,F,J,M,R,Tz,V,X,Y,reduceIte,G,H,sz]
 refine WO.q dn rfl rfl (QR.slc4 rfl rfl rfl rfl rfl el24 (by omega) (by omega) (by omega) (by omega)) ?_
 simp only[E,F,J,M,R,Tz,V,X,Y,reduceIte,G,H,sz]
 refine WO.nil ?_
 refine k2 _ ?_
 refine W.seqK fun K3 k3=>?_
 refine W.pure dn fun K4 k4=>?_
 simp only[E,F,J,M,R,Tz,V,X,Y,reduceIte,G,H,sz];refine k4 _ ?_
 refine W.cond rfl rfl (fun hc=>?_) fun hc=>?_
 ·
  (simp at hc;omega)
 ·
  refine W.skip (k3 _ ?_)
  refine W.pure dn fun K5 k5=>?_
  simp only[E,F,J,M,R,Tz,V,X,Y,reduceIte,G,H,sz];refine k5 _ ?_
  refine W.seqK fun K6 k6=>?_
  refine W.regionT' 6 [] [0,1,2,3,4,5] mixed (by kernel_rfl) ?_
  simp only[E,F,J,M,R,Tz,V,X,Y,reduceIte,sxt,List.toList_toArray,G,H,sz]
  refine WQ.go 2 dn ?_
  simp only[E,F,J,M,R,Tz,V,X,Y,reduceIte,sxq,G,H,sz]
  refine WQ.slc dn rfl rfl rfl rfl el24 rfl rfl (by simp[loS]) (by simp[loS,hiS]) (by simp[hiS];omega) ?_
  rw[show(loS none).toNat=0 from rfl,show(hiS l.length (some (IntKind.i64,(i:Int)))).toNat=i from by simp[hiS],slc_to (by omega)]
  refine WQ.go 2 dn ?_
  simp only[E,F,J,M,R,Tz,V,X,Y,reduceIte,sxq,G,H,sz]
  refine WQ.slc dn rfl rfl rfl rfl el24 rfl rfl (by simp[loS]<;>omega) (by simp[loS,hiS]<;>omega) (by simp[hiS];omega) ?_
  rw[show(loS (some (IntKind.i64,((i:Int)+1)))).toNat=i+1 from by simp[loS]<;>omega,show(hiS l.length none).toNat=l.length from by simp[hiS]]
  obtain⟨q9,c9,hq9,hq8⟩:=slc_rest (sz:=12) (b:=b2) (c:=c) (l:=i+1) (n:=l.length) (by omega) hnc
  rw[hq9]
  simp only[E,F,J,M,R,Tz,V,X,Y,reduceIte,G,H,sz]
  refine WQ.nil ?_
  refine WO.appendIn (k:=0) (b:=b2) (i:=i) (m:=l.length - (i+1)) (off:=(i+1)*12) (xs:=rowV ntV l) rfl dn rfl rfl rfl rfl rfl hq8 ek24 (by omega) (by omega) (nt_one l) fun ys hy1 hy2=>?_
  rw[erase_rows] at hy2
  rw[show i+(l.length - (i+1))=l.length - 1 by omega] at hy2 ⊢
  refine WO.go 1 dn ?_
  simp only[E,F,J,M,R,Tz,V,X,Y,reduceIte,G,H,sz]
  refine WO.nil ?_
  refine k6 _ ?_
  refine W.seqK fun K7 k7=>W.region ?_
  refine WO.go 4 dn ?_
  simp only[E,F,J,M,R,Tz,V,X,Y,reduceIte,G,H,sz]
  refine WO.slc dn rfl rfl rfl rfl el24 rfl rfl (by simp[loS]) (by simp[loS,hiS]) (by simp[hiS];omega) ?_
  rw[show(loS (some (IntKind.i64,((l.length - 1:Nat):Int)))).toNat=l.length - 1 from by simp[loS],show(hiS (l.length - 1) (some (IntKind.i64,(l.length:Int)))).toNat=l.length from by simp[hiS],slc_from (l:=l.length - 1) (by omega)]
  simp only[E,F,J,M,R,Tz,V,X,Y,reduceIte,G,H,sz]
  refine WO.clearRow (k:=0) (b:=b2) (m:=l.length - (l.length - 1)) (off:=(l.length - 1)*12) rfl dn rfl rfl rfl rfl rfl ek24 rfl (by omega) (by omega) fun zs hz1 hz2=>?_
  refine WO.cutRow (k:=0) (l.eraseIdx i).length (rowV ntV (l.eraseIdx i)) rfl (by omega) (by rw[hel,hz2];exact hy2) ?_
  simp only[E,F,J,M,R,Tz,V,X,Y,reduceIte,G,H,sz]
  refine WO.nil ?_
  refine k7 _ ?_
  refine W.pure dn fun K8 k8=>?_
  simp only[E,F,J,M,R,Tz,V,X,Y,reduceIte,G,H,sz];refine k8 _ ?_
  refine W.ret ?_
  refine⟨by simp,?_⟩
  simp only[E,F,J,M,R,Tz,V,X,Y,reduceIte,sxr,G,H,sz]
  intro ρ w1 hb
  exact⟨by simp only[den];rw[hel],turnL_of (own':=[OWR 89 ntV 12 (some ⟨b2,0,none⟩) c (l.eraseIdx i)]) hb (by simp[OWR]) rfl rfl⟩
theorem change_spec {S:Nat→Prop} {w:World} {a:ScA} {s:Sc} {x:Ed} (hN:GN w) (hs:ScR S w a s) (hok:ScOk s) (hx:EdOk s.bars s.parts s.notes x) (hlen:s.notes.length<20000):Gives Tryz.prog 38 #[scV a s,.agg #[iv x.kind,iv x.clock,iv x.who,iv x.note.id,iv x.note.part,iv x.note.bar,iv x.note.voice,iv x.note.ossia,iv x.note.start.1,iv x.note.start.2,iv x.note.len.1,iv x.note.len.2,iv x.note.pit.1,iv x.note.pit.2.1,iv x.note.pit.2.2]] w fun r w'=>∃ z:ScA,r=.tuple #[scV z (withS s s.ver (appL s.notes x)),iv 0]∧ScR (fun b=>w.heap.size≤b) w' z (withS s s.ver (appL s.notes x)):=by
 have lb:(Rp.slice rBr).rd (fun _=>True) w _ s.bars:=Rp.any hs.b
 have lp:(Rp.slice rPt).rd (fun _=>True) w _ s.parts:=Rp.any hs.p
 have ln:(Rp.slice rNt).rd (fun _=>True) w _ s.notes:=Rp.any hs.n
 have hs9:=hs.any
 unfold scV
 have hpn:=app_notes hok.notes (fun n hn=>hok.own n hn) hlen hx
 refine gives_of [.agg (scw a s),.agg [wv x.kind,wv x.clock,wv x.who,wv x.note.id,wv x.note.part,wv x.note.bar,wv x.note.voice,wv x.note.ossia,wv x.note.start.1,wv x.note.start.2,wv x.note.len.1,wv x.note.len.2,wv x.note.pit.1,wv x.note.pit.2.1,wv x.note.pit.2.2]] 54 [.cell 4 26,.tmp 5] Tryz.func38 rfl rfl rfl (by simp) rfl rfl ?_
 refine W.pure dn fun K1 k1=>?_
 simp only[E,F,J,M,R,Tz,V,X,Y,reduceIte,G,H,sz];refine k1 _ ?_
 refine W.seqK fun K2 k2=>?_
 refine W.seqK fun K3 k3=>W.region ?_
 refine WO.go 1 dn ?_
 simp only[E,F,J,M,R,Tz,V,X,Y,reduceIte,G,H,sz]
 refine WO.call (.bool true) dn rfl rfl rfl co81 (fun ρ w1 hb=>isEdit_spec w1 x hx.is) ?_
 refine WO.go 1 dn ?_
 simp only[E,F,J,M,R,Tz,V,X,Y,reduceIte,G,H,sz]
 refine WO.nil ?_
 refine k3 _ ?_
 refine W.cond rfl rfl (fun hc=>?_) fun hc=>?_
 ·
  simp at hc
 ·
  refine W.skip (k2 _ ?_)
  refine W.seqK fun K4 k4=>W.region ?_
  refine WO.go 5 dn ?_
  simp only[E,F,J,M,R,Tz,V,X,Y,reduceIte,G,H,sz]
  refine WO.call (iv (fIx (fun n:Nt=>n.id == x.note.id) s.notes)) dn rfl rfl rfl co82 (fun ρ w1 hb=>efind_spec x.note.id (Rp.now ln (hb.first (by simp[St.put])))) ?_
  refine WO.go 1 dn ?_
  simp only[E,F,J,M,R,Tz,V,X,Y,reduceIte,G,H,sz]
  refine WO.nil ?_
  refine k4 _ ?_
  refine W.seqK fun K5 k5=>W.region ?_
  refine WO.go 2 dn ?_
  simp only[E,F,J,M,R,Tz,V,X,Y,reduceIte,G,H,sz]
  refine WO.callO (fun x:Option Addr×Nat=>.slice x.1 s.notes.length x.2) (fun x=>.slice 89 12 (.slice x.1 (s.notes).length x.2) (s.notes).length (rowV ntV (s.notes))) dn rfl rfl rfl co84 (fun _ _ _ h=>by cases h) (fun ρ w1 hb=>nclone_spec (Rp.now ln (hb.first (by simp[St.put]))) (by have:=hok.notes.len;omega)) fun x9=>?_
  obtain⟨q5,c5⟩:=x9
  simp only[St.pushO,List.cons_append,List.nil_append]
  refine WO.go 1 dn ?_
  simp only[E,F,J,M,R,Tz,V,X,Y,reduceIte,G,H,sz]
  refine WO.nil ?_
  refine k5 _ ?_
  refine W.seqK fun K6 k6=>?_
  refine W.pure dn fun K7 k7=>?_
  simp only[E,F,J,M,R,Tz,V,X,Y,reduceIte,G,H,sz];refine k7 _ ?_
  refine W.cond rfl rfl (fun hc=>?_) fun hc=>?_
  ·
   obtain⟨i,y,hix,hy,hyid⟩:∃ (i:Nat) (y:Nt),fIx (fun n:Nt=>n.id == x.note.id) s.notes=(i:Int)∧s.notes[i]?=some y∧y.id=x.note.id:=by
    rcases ix_note (l:=s.notes) x.note.id with⟨h1,_⟩ | h1
    · rw[h1] at hc;simp at hc
    · exact h1
   have hil:=(List.getElem?_eq_some_iff.1 hy).1
   have hwi:IntKind.i64.wrap ((i:Int)+1)=(i:Int)+1:=wrap_id (by omega) (by omega)
   have hef:s.notes.eraseIdx i=s.notes.filter fun n=>n.id != x.note.id:=by rw[← hyid];exact erase_filter hok.notes.nd hy
   have hfl:(s.notes.filter fun n=>n.id != x.note.id).length≤s.notes.length:=List.length_filter_le _ _
   refine W.region ?_
   refine WO.go 4 dn ?_
   simp only[E,F,J,M,R,Tz,V,X,Y,reduceIte,G,H,hix,hwi,sz]
   refine WO.callL (own:=[OWR 89 ntV 12 q5 c5 s.notes]) [3] (fun _:Unit=>.slice q5 (s.notes.eraseIdx i).length c5) (fun _=>[.slice 89 12 (.slice q5 ((s.notes.eraseIdx i)).length c5) ((s.notes.eraseIdx i)).length (rowV ntV ((s.notes.eraseIdx i)))]) (fun _ _ _=>True) dn rfl rfl rfl co85 ⟨rfl,trivial⟩ (by decide) rfl (fun _=>rfl) (fun _=>rfl) (fun ρ w1 hb hlie1=>?_) fun _ lo s8 _=>?_
   ·
    have h9:=delete_spec (c:=c5) (q:=q5) hy (by omega) hlie1
    exact Calls.mono h9 fun e w2 ⟨v,he,hk,h1,h3⟩=>⟨v,he,hk,(),h1,trivial,h3⟩
   rw[hef]
   simp only[setOL,setN,M]
   refine WO.go 1 dn ?_
   simp only[E,F,J,M,R,Tz,V,X,Y,reduceIte,G,H,hix,hwi,sz]
   refine WO.nil ?_
   refine k6 _ ?_
   refine W.seqK fun K8 k8=>?_
   refine W.pure dn fun K9 k9=>?_
   simp only[E,F,J,M,R,Tz,V,X,Y,reduceIte,G,H,hix,hwi,sz];refine k9 _ ?_
   refine W.cond rfl rfl (fun hc=>?_) fun hc=>?_
   ·
    have hkd:x.kind=1:=by simpa using hc
    have hap:appL s.notes x=(s.notes.filter fun n=>n.id != x.note.id)++[x.note]:=by unfold appL;rw[if_pos hkd]
    refine W.region ?_
    refine WO.go 4 dn ?_
    simp only[E,F,J,M,R,Tz,V,X,Y,reduceIte,G,H,hix,hwi,sz]
    refine WO.append (k:=3) (m:=1) [iv x.note.id,iv x.note.part,iv x.note.bar,iv x.note.voice,iv x.note.ossia,iv x.note.start.1,iv x.note.start.2,iv x.note.len.1,iv x.note.len.2,iv x.note.pit.1,iv x.note.pit.2.1,iv x.note.pit.2.2] dn rfl rfl rfl rfl rfl rfl ek24 (news_own (k2:=4) rfl fun _=>rfl) rfl (by simp[Value.oneCell']) (by rw[maxLen_eq];omega) (by omega) fun p6 c6=>?_
    rw[show(s.notes.filter fun n=>n.id != x.note.id).length+1=(appL s.notes x).length from by rw[hap,List.length_append];rfl,show rowV ntV (s.notes.filter fun n=>n.id != x.note.id)++[iv x.note.id,iv x.note.part,iv x.note.bar,iv x.note.voice,iv x.note.ossia,iv x.note.start.1,iv x.note.start.2,iv x.note.len.1,iv x.note.len.2,iv x.note.pit.1,iv x.note.pit.2.1,iv x.note.pit.2.2]=rowV ntV (appL s.notes x) from by rw[hap,row_snoc];rfl]
    refine WO.go 1 dn ?_
    simp only[E,F,J,M,R,Tz,V,X,Y,reduceIte,G,H,hix,hwi,sz]
    refine WO.nil ?_
    refine k8 _ ?_
    refine W.seqK fun K10 k10=>W.region ?_
    refine WO.go 4 dn ?_
    simp only[E,F,J,M,R,Tz,V,X,Y,reduceIte,G,H,hix,hwi,sz]
    refine WO.callM (fun z:ScA=>.tuple #[scV z (withS s s.ver (appL s.notes x)),iv 0]) (fun lo z s9=>ScR (fun b=>lo≤b) s9 z (withS s s.ver (appL s.notes x))∧w.heap.size≤lo) dn rfl rfl rfl co30 (fun ρ w1 hb=>(sWith_spec (a:=a) (hN.now (hb.first (by simp[St.put]))) (ScR.now hs9 (hb.first (by simp[St.put]))) (owr_read (S:=fun _=>True) (j:=3) (T:=89) (k:=12) (f:=ntV) (h:=fun _=>rfl) (xs:=appL s.notes x) hb rfl (fun _ _=>trivial)) hok hok.ver hpn.1 hpn.2).mono fun r w2 _ ⟨z,h1,h2⟩=>⟨z,h1,h2,(hb.first (by simp[St.put])).size⟩) fun z9 lo3 s4 hz=>?_
    unfold scV
    simp only
    refine WO.go 6 dn ?_
    simp only[E,F,J,M,R,Tz,V,X,Y,reduceIte,G,H,hix,hwi,sz]
    refine WO.nil ?_
    refine k10 _ ?_
    refine W.seqK fun K11 k11=>?_
    refine W.pure dn fun K12 k12=>?_
    simp only[E,F,J,M,R,Tz,V,X,Y,reduceIte,G,H,hix,hwi,sz];refine k12 _ ?_
    refine W.cond rfl rfl (fun hc=>?_) fun hc=>?_
    ·
     simp at hc
    ·
     refine W.skip (k11 _ ?_)
     refine W.pure dn fun K13 k13=>?_
     simp only[E,F,J,M,R,Tz,V,X,Y,reduceIte,G,H,hix,hwi,sz];refine k13 _ ?_
     refine W.ret ?_
     refine⟨by simp,RunR.ex ?_⟩
     simp only[E,F,J,M,R,Tz,V,X,Y,reduceIte,sxr,G,H,hix,hwi,sz]
     intro ρ w1 hb
     exact⟨z9,rfl,ScR.mono (hz.1.keep (hb.at (S:=fun b=>lo3≤b) (s:=s4) (by simp))) fun b h _=>Nat.le_trans hz.2 h⟩
   ·
    have hkd:¬ x.kind=1:=by simpa using hc
    have hap:(s.notes.filter fun n=>n.id != x.note.id)=appL s.notes x:=by unfold appL;rw[if_neg hkd,List.append_nil]
    rw[hap]
    refine W.pure dn fun K14 k14=>?_
    simp only[E,F,J,M,R,Tz,V,X,Y,reduceIte,G,H,hix,hwi,sz];refine k14 _ ?_
    refine W.cond rfl rfl (fun hc=>?_) fun hc=>?_
    ·
     (simp[hix] at hc;omega)
    ·
     refine W.skip (k8 _ ?_)
     refine W.seqK fun K15 k15=>W.region ?_
     refine WO.go 4 dn ?_
     simp only[E,F,J,M,R,Tz,V,X,Y,reduceIte,G,H,hix,hwi,sz]
     refine WO.callM (fun z:ScA=>.tuple #[scV z (withS s s.ver (appL s.notes x)),iv 0]) (fun lo z s9=>ScR (fun b=>lo≤b) s9 z (withS s s.ver (appL s.notes x))∧w.heap.size≤lo) dn rfl rfl rfl co30 (fun ρ w1 hb=>(sWith_spec (a:=a) (hN.now (hb.first (by simp[St.put]))) (ScR.now hs9 (hb.first (by simp[St.put]))) (owr_read (S:=fun _=>True) (j:=3) (T:=89) (k:=12) (f:=ntV) (h:=fun _=>rfl) (xs:=appL s.notes x) hb rfl (fun _ _=>trivial)) hok hok.ver hpn.1 hpn.2).mono fun r w2 _ ⟨z,h1,h2⟩=>⟨z,h1,h2,(hb.first (by simp[St.put])).size⟩) fun z9 lo3 s4 hz=>?_
     unfold scV
     simp only
     refine WO.go 6 dn ?_
     simp only[E,F,J,M,R,Tz,V,X,Y,reduceIte,G,H,hix,hwi,sz]
     refine WO.nil ?_
     refine k15 _ ?_
     refine W.seqK fun K16 k16=>?_
     refine W.pure dn fun K17 k17=>?_
     simp only[E,F,J,M,R,Tz,V,X,Y,reduceIte,G,H,hix,hwi,sz];refine k17 _ ?_
     refine W.cond rfl rfl (fun hc=>?_) fun hc=>?_
     ·
      simp at hc
     ·
      refine W.skip (k16 _ ?_)
      refine W.pure dn fun K18 k18=>?_
      simp only[E,F,J,M,R,Tz,V,X,Y,reduceIte,G,H,hix,hwi,sz];refine k18 _ ?_
      refine W.ret ?_
      refine⟨by simp,RunR.ex ?_⟩
      simp only[E,F,J,M,R,Tz,V,X,Y,reduceIte,sxr,G,H,hix,hwi,sz]
      intro ρ w1 hb
      exact⟨z9,rfl,ScR.mono (hz.1.keep (hb.at (S:=fun b=>lo3≤b) (s:=s4) (by simp))) fun b h _=>Nat.le_trans hz.2 h⟩
  ·
   have hno:∀ n,n∈s.notes→n.id≠x.note.id:=by
    rcases ix_note (l:=s.notes) x.note.id with⟨_,h1⟩ | ⟨i,y,h1,_⟩
    · exact h1
    · rw[h1] at hc;simp at hc
   refine W.skip (k6 _ ?_)
   refine W.seqK fun K19 k19=>?_
   refine W.pure dn fun K20 k20=>?_
   simp only[E,F,J,M,R,Tz,V,X,Y,reduceIte,G,H,sz];refine k20 _ ?_
   refine W.cond rfl rfl (fun hc=>?_) fun hc=>?_
   rotate_left
   ·
    (
     have hkd:¬ x.kind=1:=by simpa using hc
     obtain⟨n,h1,h2⟩:=hx.drop hkd
     exact absurd h2 (hno n h1))
   ·
    refine W.region ?_
    refine WO.go 4 dn ?_
    simp only[E,F,J,M,R,Tz,V,X,Y,reduceIte,G,H,sz]
    have hkd:x.kind=1:=by simpa using hc
    have hap:appL s.notes x=s.notes++[x.note]:=by unfold appL;rw[if_pos hkd,List.filter_eq_self.2 fun n hn=>by simpa using hno n hn]
    refine WO.append (k:=3) (m:=1) [iv x.note.id,iv x.note.part,iv x.note.bar,iv x.note.voice,iv x.note.ossia,iv x.note.start.1,iv x.note.start.2,iv x.note.len.1,iv x.note.len.2,iv x.note.pit.1,iv x.note.pit.2.1,iv x.note.pit.2.2] dn rfl rfl rfl rfl rfl rfl ek24 (news_own (k2:=4) rfl fun _=>rfl) rfl (by simp[Value.oneCell']) (by rw[maxLen_eq];omega) (by omega) fun p6 c6=>?_
    rw[show(s.notes).length+1=(appL s.notes x).length from by rw[hap,List.length_append];rfl,show rowV ntV (s.notes)++[iv x.note.id,iv x.note.part,iv x.note.bar,iv x.note.voice,iv x.note.ossia,iv x.note.start.1,iv x.note.start.2,iv x.note.len.1,iv x.note.len.2,iv x.note.pit.1,iv x.note.pit.2.1,iv x.note.pit.2.2]=rowV ntV (appL s.notes x) from by rw[hap,row_snoc];rfl]
    refine WO.go 1 dn ?_
    simp only[E,F,J,M,R,Tz,V,X,Y,reduceIte,G,H,sz]
    refine WO.nil ?_
    refine k19 _ ?_
    refine W.seqK fun K21 k21=>W.region ?_
    refine WO.go 4 dn ?_
    simp only[E,F,J,M,R,Tz,V,X,Y,reduceIte,G,H,sz]
    refine WO.callM (fun z:ScA=>.tuple #[scV z (withS s s.ver (appL s.notes x)),iv 0]) (fun lo z s9=>ScR (fun b=>lo≤b) s9 z (withS s s.ver (appL s.notes x))∧w.heap.size≤lo) dn rfl rfl rfl co30 (fun ρ w1 hb=>(sWith_spec (a:=a) (hN.now (hb.first (by simp[St.put]))) (ScR.now hs9 (hb.first (by simp[St.put]))) (owr_read (S:=fun _=>True) (j:=3) (T:=89) (k:=12) (f:=ntV) (h:=fun _=>rfl) (xs:=appL s.notes x) hb rfl (fun _ _=>trivial)) hok hok.ver hpn.1 hpn.2).mono fun r w2 _ ⟨z,h1,h2⟩=>⟨z,h1,h2,(hb.first (by simp[St.put])).size⟩) fun z9 lo3 s4 hz=>?_
    unfold scV
    simp only
    refine WO.go 6 dn ?_
    simp only[E,F,J,M,R,Tz,V,X,Y,reduceIte,G,H,sz]
    refine WO.nil ?_
    refine k21 _ ?_
    refine W.seqK fun K22 k22=>?_
    refine W.pure dn fun K23 k23=>?_
    simp only[E,F,J,M,R,Tz,V,X,Y,reduceIte,G,H,sz];refine k23 _ ?_
    refine W.cond rfl rfl (fun hc=>?_) fun hc=>?_
    ·
     simp at hc
    ·
     refine W.skip (k22 _ ?_)
     refine W.pure dn fun K24 k24=>?_
     simp only[E,F,J,M,R,Tz,V,X,Y,reduceIte,G,H,sz];refine k24 _ ?_
     refine W.ret ?_
     refine⟨by simp,RunR.ex ?_⟩
     simp only[E,F,J,M,R,Tz,V,X,Y,reduceIte,sxr,G,H,sz]
     intro ρ w1 hb
     exact⟨z9,rfl,ScR.mono (hz.1.keep (hb.at (S:=fun b=>lo3≤b) (s:=s4) (by simp))) fun b h _=>Nat.le_trans hz.2 h⟩
theorem do_spec {S:Nat→Prop} {w:World} {a:ScA} {s t:Sc} {x:Ed} {bs be n c:Nat} {q:Option Addr} (hN:GN w) (hs:ScR S w a s) (hok:ScOk s) (hx:EdOk s.bars s.parts s.notes x) (hlen:s.notes.length<20000) (hn:n≤2000) (ht:t=withS s s.ver (appL s.notes x)) (hlie:Lie [boxO 26 bs (scl a s),boxO 41 be [.slice q (n) c],.slice 34 1 (.slice q (n) c) (n) (List.replicate (n) (iv 0))] w) (hno:∀ b,S b→¬ ofOwn [boxO 26 bs (scl a s),boxO 41 be [.slice q (n) c],.slice 34 1 (.slice q (n) c) (n) (List.replicate (n) (iv 0))] b) (hG:¬ ofOwn [boxO 26 bs (scl a s),boxO 41 be [.slice q (n) c],.slice 34 1 (.slice q (n) c) (n) (List.replicate (n) (iv 0))] 0) :
  GivesB Tryz.prog 37 #[.agg #[iv x.kind,iv x.clock,iv x.who,iv x.note.id,iv x.note.part,iv x.note.bar,iv x.note.voice,iv x.note.ossia,iv x.note.start.1,iv x.note.start.2,iv x.note.len.1,iv x.note.len.2,iv x.note.pit.1,iv x.note.pit.2.1,iv x.note.pit.2.2],.pointer (some ⟨bs,0,none⟩),.pointer (some ⟨be,0,none⟩)] w (ofOwn [boxO 26 bs (scl a s),boxO 41 be [.slice q (n) c],.slice 34 1 (.slice q (n) c) (n) (List.replicate (n) (iv 0))]) fun r w'=>∃ y:ScA×Option Addr×Nat,r=.tuple #[]∧ScR (fun b=>w.heap.size≤b∧¬ ofOwn [boxO 26 bs [iv t.ver,.slice y.1.b.1 t.bars.length y.1.b.2,.slice y.1.p.1 t.parts.length y.1.p.2,.slice y.1.n.1 t.notes.length y.1.n.2],boxO 41 be [.slice y.2.1 (n+1) y.2.2],.slice 34 1 (.slice y.2.1 (n+1) y.2.2) (n+1) (List.replicate (n+1) (iv 0))] b) w' y.1 t∧TurnL [boxO 26 bs (scl a s),boxO 41 be [.slice q (n) c],.slice 34 1 (.slice q (n) c) (n) (List.replicate (n) (iv 0))] [boxO 26 bs [iv t.ver,.slice y.1.b.1 t.bars.length y.1.b.2,.slice y.1.p.1 t.parts.length y.1.p.2,.slice y.1.n.1 t.notes.length y.1.n.2],boxO 41 be [.slice y.2.1 (n+1) y.2.2],.slice 34 1 (.slice y.2.1 (n+1) y.2.2) (n+1) (List.replicate (n+1) (iv 0))] w w':=by
 refine givesL_of [boxO 26 bs (scl a s),boxO 41 be [.slice q (n) c],.slice 34 1 (.slice q (n) c) (n) (List.replicate (n) (iv 0))] [.agg [wv x.kind,wv x.clock,wv x.who,wv x.note.id,wv x.note.part,wv x.note.bar,wv x.note.voice,wv x.note.ossia,wv x.note.start.1,wv x.note.start.2,wv x.note.len.1,wv x.note.len.2,wv x.note.pit.1,wv x.note.pit.2.1,wv x.note.pit.2.2],.val (.pointer (some ⟨bs,0,none⟩)),.val (.pointer (some ⟨be,0,none⟩))] 17 [] Tryz.func37 rfl rfl rfl (by simp) rfl rfl rfl hlie ?_
 refine W.pure dn fun K1 k1=>?_
 simp only[E,F,J,M,R,Tz,V,X,Y,reduceIte,G,H,sz];refine k1 _ ?_
 refine W.seqK fun K2 k2=>W.region ?_
 refine WO.q dn rfl rfl (QR.load (scl a s) true rfl rfl agg26 sz26 (.inl rfl) (fun ρ w1 hb=>box_at (k:=0) hb rfl)) ?_
 simp only[ofCells,if_true,List.toList_toArray,sr]
 refine WO.go 1 dn ?_
 simp only[E,F,J,M,R,Tz,V,X,Y,reduceIte,G,H,sz]
 refine WO.callM (fun z:ScA=>.tuple #[scV z t,iv 0]) (fun lo z sW=>ScR (fun b=>lo≤b) sW z t∧w.heap.size≤lo) dn rfl rfl rfl co38 (fun ρ w1 hb=>by
   have h9:=change_spec (a:=a) (x:=x) (hN.keep (hb.at (S:=fun b=>¬ ofOwn [boxO 26 bs (scl a s),boxO 41 be [.slice q (n) c],.slice 34 1 (.slice q (n) c) (n) (List.replicate (n) (iv 0))] b) (s:=w) (by simp[St.put])) hG) (hs.keep ((hb.at (S:=fun b=>¬ ofOwn [boxO 26 bs (scl a s),boxO 41 be [.slice q (n) c],.slice 34 1 (.slice q (n) c) (n) (List.replicate (n) (iv 0))] b) (s:=w) (by simp[St.put])).mono fun b hS _=>hno b hS)) hok hx hlen
   rw[← ht] at h9
   exact h9.mono fun r w2 _ ⟨z,h1,h2⟩=>⟨z,h1,h2,(hb.at (S:=fun b=>¬ ofOwn [boxO 26 bs (scl a s),boxO 41 be [.slice q (n) c],.slice 34 1 (.slice q (n) c) (n) (List.replicate (n) (iv 0))] b) (s:=w) (by simp[St.put])).size⟩) fun z9 lo3 s4 hz=>?_
 unfold scV
 simp only
 refine WO.go 6 dn ?_
 simp only[E,F,J,M,R,Tz,V,X,Y,reduceIte,G,H,sz]
 refine WO.nil ?_
 refine k2 _ ?_
 refine W.pin (k:=4) (scl z9 t) rfl (fun _=>rfl) (by rw[maxLen_eq];simp) fun b4=>?_
 simp only[pinE,pinS,pin1,den,denL,setN,Nat.zero_add,J,X,reduceIte,Nat.succ_ne_self,Nat.one_ne_zero]
 refine W.regionV [0,2] 5 ([.dead,.dead,.dead,.dead,boxO 26 b4 (scl z9 t)]) mixed (by kernel_rfl) rfl (by simp[keptL,boxO]) rfl (fun _ _ h=>h) ?_
 simp only[E,F,J,M,R,Tz,V,X,Y,reduceIte,sxt,List.toList_toArray,RunP,G,H,sz]
 refine WF.q rfl rfl (QR.load (scl z9 t) true rfl rfl agg26 sz26 (.inl rfl) (fun ρ w1 hb=>box_at (k:=4) hb rfl)) ?_
 simp only[ofCells,if_true,List.toList_toArray,sr]
 simp only[E,F,J,M,R,Tz,V,X,Y,reduceIte,sxt,List.toList_toArray,RunP,G,H,sz]
 refine WF.go rfl rfl rfl ?_
 simp only[E,F,J,M,R,Tz,V,X,Y,reduceIte,sxt,List.toList_toArray,RunP,G,H,sz]
 refine WF.nil ?_
 simp only[E,F,J,M,R,Tz,V,X,Y,reduceIte,sxt,List.toList_toArray,G,H,sz]
 refine WV.two 1 3 (by kernel_rfl) rfl rfl ?_ ?_
 ·
  simp only[List.getElem_toArray,List.getElem_cons_succ,List.getElem_cons_zero]
  refine WO.q dn rfl rfl (QR.load [.slice q n c] false rfl rfl agg41 sz41 (.inr rfl) (fun ρ w1 hb=>box_at (k:=1) hb rfl)) ?_
  simp only[ofCells,sr]
  simp only[E,F,J,M,R,Tz,V,X,Y,reduceIte,List.append_assoc,List.cons_append,List.nil_append,G,H,sz]
  with_reducible refine WV.next (by simp[keptL,boxO]) (by simp) ?_
  refine WV.one 3 (by kernel_rfl) rfl ?_
  simp only[List.getElem_toArray,List.getElem_cons_succ,List.getElem_cons_zero]
  refine WO.go 1 dn ?_
  simp only[E,F,J,M,R,Tz,V,X,Y,reduceIte,List.append_assoc,List.cons_append,List.nil_append,G,H,sz]
  with_reducible refine WV.next (by simp[keptL,boxO]) (by simp) ?_
  refine WV.one 4 (by kernel_rfl) rfl ?_
  simp only[List.getElem_toArray,List.getElem_cons_succ,List.getElem_cons_zero]
  refine WO.append (k:=2) (m:=1) [iv 0] dn rfl rfl rfl rfl rfl rfl ek41 (news_own (k2:=5) rfl fun _=>rfl) rfl (by simp[Value.oneCell']) (by rw[maxLen_eq];omega) (by omega) fun p6 c6=>?_
  rw[show List.replicate n (Value.int .i64 0)++[iv 0]=List.replicate (n+1) (iv 0) from by rw[List.replicate_succ']]
  simp only[E,F,J,M,R,Tz,V,X,Y,reduceIte,List.append_assoc,List.cons_append,List.nil_append,G,H,sz]
  with_reducible refine WV.next (by simp[keptL,boxO]) (by simp) ?_
  refine WV.one 5 (by kernel_rfl) rfl ?_
  simp only[List.getElem_toArray,List.getElem_cons_succ,List.getElem_cons_zero]
  refine WO.storeRow (T:=26) (k:=0) (b:=bs) (sz:=1) (n:=4) (c:=4) (xs:=(scl a s)) (u:=.agg #[iv t.ver,.slice z9.b.1 t.bars.length z9.b.2,.slice z9.p.1 t.parts.length z9.p.2,.slice z9.n.1 t.notes.length z9.n.2]) 0 (scl z9 t) rfl dn rfl rfl rfl rfl rfl (by simp) (by simp) ⟨_,rfl,fun ρ=>rfl⟩ rfl (by simp[Value.oneCell']) sz26 ?_
  simp only[E,F,J,M,R,Tz,V,X,Y,reduceIte,List.append_assoc,List.cons_append,List.nil_append,G,H,sz]
  with_reducible refine WV.next (by simp[keptL,boxO]) (by simp) ?_
  refine WV.one 6 (by kernel_rfl) rfl ?_
  simp only[List.getElem_toArray,List.getElem_cons_succ,List.getElem_cons_zero]
  refine WO.storeBox (k:=1) (i:=0) rfl dn rfl rfl rfl rfl (by simp[Addr.add_mid]) (by simp) rfl rfl sz41 ?_
  simp only[E,F,J,M,R,Tz,V,X,Y,reduceIte,List.append_assoc,List.cons_append,List.nil_append,G,H,sz]
  with_reducible refine WV.next (by simp[keptL,boxO]) (by simp) ?_
  refine WV.nil (by kernel_rfl) ?_
  refine⟨by simp,?_⟩
  simp only[E,F,J,M,R,Tz,V,X,Y,reduceIte,sxr,G,H,sz]
  intro ρ w1 hb
  have hz2:ScR (fun b=>lo3≤b∧b<s4.heap.size) s4 z9 t:=ScR.mono hz.1 fun b h1 h2=>⟨h1,h2⟩
  have hz3:ScR (fun b=>lo3≤b∧b<s4.heap.size) w1 z9 t:=hz2.keep ((hb.at (S:=fun b=>lo3≤b) (s:=s4) (by simp)).mono fun b h _=>h.1)
  exact⟨(z9,(p6,c6)),rfl,ScR.mono hz3 fun b h _=>⟨Nat.le_trans hz.2 h.1,fun h9=>snap_apart (S:=fun b=>lo3≤b) (own:=[boxO 26 bs [iv t.ver,.slice (z9,(p6,c6)).1.b.1 t.bars.length (z9,(p6,c6)).1.b.2,.slice (z9,(p6,c6)).1.p.1 t.parts.length (z9,(p6,c6)).1.p.2,.slice (z9,(p6,c6)).1.n.1 t.notes.length (z9,(p6,c6)).1.n.2],boxO 41 be [.slice (z9,(p6,c6)).2.1 (n+1) (z9,(p6,c6)).2.2],.slice 34 1 (.slice (z9,(p6,c6)).2.1 (n+1) (z9,(p6,c6)).2.2) (n+1) (List.replicate (n+1) (iv 0))]) hb (s:=s4) (by simp) (by intro o ho;simp only[List.mem_cons,List.not_mem_nil,or_false] at ho;rcases ho with rfl | rfl | rfl<;>rfl) (fun j o hj=>by rcases j with _ | _ | _ | j<;>first | (simp only[List.getElem?_cons_zero,List.getElem?_cons_succ,Option.some.injEq] at hj;subst hj;rfl) | simp at hj) h.1 h.2 (.inl h9)⟩,turnL_of (own':=[boxO 26 bs [iv t.ver,.slice (z9,(p6,c6)).1.b.1 t.bars.length (z9,(p6,c6)).1.b.2,.slice (z9,(p6,c6)).1.p.1 t.parts.length (z9,(p6,c6)).1.p.2,.slice (z9,(p6,c6)).1.n.1 t.notes.length (z9,(p6,c6)).1.n.2],boxO 41 be [.slice (z9,(p6,c6)).2.1 (n+1) (z9,(p6,c6)).2.2],.slice 34 1 (.slice (z9,(p6,c6)).2.1 (n+1) (z9,(p6,c6)).2.2) (n+1) (List.replicate (n+1) (iv 0))]) hb (by simp) rfl rfl⟩
 ·
  simp only[List.getElem_toArray,List.getElem_cons_succ,List.getElem_cons_zero]
  refine WO.go 1 dn ?_
  simp only[E,F,J,M,R,Tz,V,X,Y,reduceIte,List.append_assoc,List.cons_append,List.nil_append,G,H,sz]
  with_reducible refine WV.next (by simp[keptL,boxO]) (by simp) ?_
  refine WV.one 1 (by kernel_rfl) rfl ?_
  simp only[List.getElem_toArray,List.getElem_cons_succ,List.getElem_cons_zero]
  refine WO.q dn rfl rfl (QR.load [.slice q n c] false rfl rfl agg41 sz41 (.inr rfl) (fun ρ w1 hb=>box_at (k:=1) hb rfl)) ?_
  simp only[ofCells,sr]
  simp only[E,F,J,M,R,Tz,V,X,Y,reduceIte,List.append_assoc,List.cons_append,List.nil_append,G,H,sz]
  with_reducible refine WV.next (by simp[keptL,boxO]) (by simp) ?_
  refine WV.one 4 (by kernel_rfl) rfl ?_
  simp only[List.getElem_toArray,List.getElem_cons_succ,List.getElem_cons_zero]
  refine WO.append (k:=2) (m:=1) [iv 0] dn rfl rfl rfl rfl rfl rfl ek41 (news_own (k2:=5) rfl fun _=>rfl) rfl (by simp[Value.oneCell']) (by rw[maxLen_eq];omega) (by omega) fun p6 c6=>?_
  rw[show List.replicate n (Value.int .i64 0)++[iv 0]=List.replicate (n+1) (iv 0) from by rw[List.replicate_succ']]
  simp only[E,F,J,M,R,Tz,V,X,Y,reduceIte,List.append_assoc,List.cons_append,List.nil_append,G,H,sz]
  with_reducible refine WV.next (by simp[keptL,boxO]) (by simp) ?_
  refine WV.one 5 (by kernel_rfl) rfl ?_
  simp only[List.getElem_toArray,List.getElem_cons_succ,List.getElem_cons_zero]
  refine WO.storeRow (T:=26) (k:=0) (b:=bs) (sz:=1) (n:=4) (c:=4) (xs:=(scl a s)) (u:=.agg #[iv t.ver,.slice z9.b.1 t.bars.length z9.b.2,.slice z9.p.1 t.parts.length z9.p.2,.slice z9.n.1 t.notes.length z9.n.2]) 0 (scl z9 t) rfl dn rfl rfl rfl rfl rfl (by simp) (by simp) ⟨_,rfl,fun ρ=>rfl⟩ rfl (by simp[Value.oneCell']) sz26 ?_
  simp only[E,F,J,M,R,Tz,V,X,Y,reduceIte,List.append_assoc,List.cons_append,List.nil_append,G,H,sz]
  with_reducible refine WV.next (by simp[keptL,boxO]) (by simp) ?_
  refine WV.one 6 (by kernel_rfl) rfl ?_
  simp only[List.getElem_toArray,List.getElem_cons_succ,List.getElem_cons_zero]
  refine WO.storeBox (k:=1) (i:=0) rfl dn rfl rfl rfl rfl (by simp[Addr.add_mid]) (by simp) rfl rfl sz41 ?_
  simp only[E,F,J,M,R,Tz,V,X,Y,reduceIte,List.append_assoc,List.cons_append,List.nil_append,G,H,sz]
  with_reducible refine WV.next (by simp[keptL,boxO]) (by simp) ?_
  refine WV.nil (by kernel_rfl) ?_
  refine⟨by simp,?_⟩
  simp only[E,F,J,M,R,Tz,V,X,Y,reduceIte,sxr,G,H,sz]
  intro ρ w1 hb
  have hz2:ScR (fun b=>lo3≤b∧b<s4.heap.size) s4 z9 t:=ScR.mono hz.1 fun b h1 h2=>⟨h1,h2⟩
  have hz3:ScR (fun b=>lo3≤b∧b<s4.heap.size) w1 z9 t:=hz2.keep ((hb.at (S:=fun b=>lo3≤b) (s:=s4) (by simp)).mono fun b h _=>h.1)
  exact⟨(z9,(p6,c6)),rfl,ScR.mono hz3 fun b h _=>⟨Nat.le_trans hz.2 h.1,fun h9=>snap_apart (S:=fun b=>lo3≤b) (own:=[boxO 26 bs [iv t.ver,.slice (z9,(p6,c6)).1.b.1 t.bars.length (z9,(p6,c6)).1.b.2,.slice (z9,(p6,c6)).1.p.1 t.parts.length (z9,(p6,c6)).1.p.2,.slice (z9,(p6,c6)).1.n.1 t.notes.length (z9,(p6,c6)).1.n.2],boxO 41 be [.slice (z9,(p6,c6)).2.1 (n+1) (z9,(p6,c6)).2.2],.slice 34 1 (.slice (z9,(p6,c6)).2.1 (n+1) (z9,(p6,c6)).2.2) (n+1) (List.replicate (n+1) (iv 0))]) hb (s:=s4) (by simp) (by intro o ho;simp only[List.mem_cons,List.not_mem_nil,or_false] at ho;rcases ho with rfl | rfl | rfl<;>rfl) (fun j o hj=>by rcases j with _ | _ | _ | j<;>first | (simp only[List.getElem?_cons_zero,List.getElem?_cons_succ,Option.some.injEq] at hj;subst hj;rfl) | simp at hj) h.1 h.2 (.inl h9)⟩,turnL_of (own':=[boxO 26 bs [iv t.ver,.slice (z9,(p6,c6)).1.b.1 t.bars.length (z9,(p6,c6)).1.b.2,.slice (z9,(p6,c6)).1.p.1 t.parts.length (z9,(p6,c6)).1.p.2,.slice (z9,(p6,c6)).1.n.1 t.notes.length (z9,(p6,c6)).1.n.2],boxO 41 be [.slice (z9,(p6,c6)).2.1 (n+1) (z9,(p6,c6)).2.2],.slice 34 1 (.slice (z9,(p6,c6)).2.1 (n+1) (z9,(p6,c6)).2.2) (n+1) (List.replicate (n+1) (iv 0))]) hb (by simp) rfl rfl⟩
end Go.Proofs.YtolmeekbjonbcaaGreatDoor
