/-
  Instruments: the laws, without the program.
-/
import Derived.Test.YtolmeekbjonbcaaGreatDoorC1
import Derived.RangeFuncNested
import Derived.Defers
import Derived.Recover
import Derived.Laws.BytesString
import Derived.ChangeKeysEq
import Derived.Test.YtolmeekbjonbcaaGreatDoorRows
set_option linter.unusedVariables false
set_option linter.unusedSimpArgs false
set_option linter.unusedSectionVars false
set_option linter.defProp false
set_option linter.unnecessarySimpa false
set_option maxHeartbeats 4000000
set_option maxRecDepth 8000
namespace Go.SX
open Go Go.RowKit
variable [Drw]
structure Pl where
 bef:List Nat
 rd:List Nat
 old:List Nat
 gone:List Nat
 tgt:Option Nat
 new:Bool
def envR (ds:List (Option Nat)) (vs:List SV):List Nat→List (Nat×SV)
 | []=>[]
 |
  j::l=>match nth ds j,nth vs j with
  | some (some d),some s=>(d,s)::envR ds vs l
  | _,_=>envR ds vs l
def envO (e0:List (Nat×SV)):List Nat→List (Nat×SV)
 | []=>[]
 |
  t::l=>match getE e0 t with
  | some s=>(t,s)::envO e0 l
  | none=>envO e0 l
def kp2 (s:Option SV) (t:Nat) (E:List (Nat×SV)):List (Nat×SV):=match s with
 | some s=>(t,s)::E
 | none=>E
def ownS (tg:List (Option Nat)) (es:List (Option Own)):List Nat→List Own→List Own
 | [],O=>O
 |
  i::l,O=>ownS tg es l (match nth tg i,nth es i with
  | some (some k),some (some o)=>setN O k o
  | _,_=>O)
def killG:List Nat→List Own→List Own
 | [],O=>O
 | k::l,O=>killG l (setN O k .dead)
def stAt (σ:St) (ds tg:List (Option Nat)) (pad:List Own) (vs:List SV) (es:List (Option Own)) (p:Pl):St:=
 ⟨σ.n,envR ds vs p.rd++envO σ.env p.old,killG p.gone (ownS tg es p.bef (σ.own++pad)),σ.snaps,σ.dfs⟩
def finS (σ:St) (ds tg:List (Option Nat)) (pad:List Own) (N:Nat) (vs:List SV) (es:List (Option Own)):St:=
 ⟨σ.n,envR ds vs (List.range N)++σ.env,ownS tg es (List.range N) (σ.own++pad),σ.snaps,σ.dfs⟩
mutual
def ment (k:Nat):SV→Bool
 | .val _=>false
 | .loc j _=>j == k
 | .lsl j _ _ _=>j == k
 | .agg cs=>mentL k cs
 | .tup vs=>mentL k vs
 | .fn _ a b=>mentL k a || mentL k b
def mentL (k:Nat):List SV→Bool
 | []=>false
 | s::l=>ment k s || mentL k l
end
mutual
theorem den_ment (ρ:Nat→Nat) {k b:Nat}:∀ s,ment k s=false→den (upd ρ k b) s=den ρ s
 | .val _,_=>by simp[den]
 | .loc j _,h=>by simp only[ment,beq_eq_false_iff_ne] at h;simp[den,upd,h]
 | .lsl j _ _ _,h=>by simp only[ment,beq_eq_false_iff_ne] at h;simp[den,upd,h]
 | .agg cs,h=>by simp only[den];rw[denL_ment ρ cs (by simpa [ment] using h)]
 | .tup vs,h=>by simp only[den];rw[denL_ment ρ vs (by simpa [ment] using h)]
 |
  .fn _ a c,h=>by
  simp only[ment,Bool.or_eq_false_iff] at h
  simp only[den];rw[denL_ment ρ a h.1,denL_ment ρ c h.2]
theorem denL_ment (ρ:Nat→Nat) {k b:Nat}:∀ l,mentL k l=false→denL (upd ρ k b) l=denL ρ l
 | [],_=>rfl
 |
  s::l,h=>by
  simp only[mentL,Bool.or_eq_false_iff] at h
  simp only[denL];rw[den_ment ρ s h.1,denL_ment ρ l h.2]
end
def mentO (k:Nat):Option Own→Bool
 | some (.cells _ cs)=>mentL k cs
 | _=>false
def bndE (M:Nat):Option Own→Bool
 | some o=>o.bnd M
 | none=>true
def isCells:Option Own→Bool
 | some (.cells _ _)=>true
 | none=>true
 | _=>false
section
variable {P:Program} {ops:Array Oper} {Q:Exit→St→Prop} {σ:St} {ds tg:List (Option Nat)} {pad:List Own}
def QB (P:Program) (o:Oper) (st:St) (s:SV):Prop:=∀ ρ a w,Sat ρ st a w →
 ((execOp a.eval o).run P w=.ok (.value (den ρ s)) w)∨∃ f args,(execOp a.eval o).run P w=.ok (.enter f args) w∧Calls P f args w fun e w'=>e=.returned (den ρ s)∧BelowD w.heap.size w w'
def NB (P:Program) (o:Oper) (st:St) (k:Nat) (T:TypeId) (cs:List SV) (s:SV):Prop:=∀ ρ a w,Sat ρ st a w →
 (execOp a.eval o).run P w=.ok (.value (den (upd ρ k w.heap.size) s)) { w with heap:=w.heap.push (.cells (denL ρ cs).toArray T) }
def OpOK (P:Program) (ds:List (Option Nat)) (st:St) (p:Pl) (o:Oper) (s:SV) (e:Option Own):Prop:=
 gd ds st o.guard=some true ∧
 (
  (p.tgt=none∧e=none∧QB P o st s) ∨
  (∃ k T cs,p.tgt=some k∧p.new=true∧e=some (.cells T cs)∧NB P o st k T cs s) ∨
  (∃ k t x y off u T cs,p.tgt=some k∧p.new=false∧o.op=.store t x y∧ev st x=some (.loc k off)∧ev st y=some u∧nth st.own k=some (.cells T cs)∧szOf P t=some (cellsS u).length∧off+(cellsS u).length≤cs.length∧(cellsS u).all oneS=true∧s=.val undef∧e=some (.cells T (splice cs off (cellsS u)))))
def okAll (pls:List Pl) (vs:List SV) (es:List (Option Own)) (own:List Own) (M:Nat):Bool:=
 own.all (fun o=>o.bnd own.length) && vs.all (bnd M) && es.all (bndE M) && es.all isCells &&
  (List.range pls.length).all fun i=>match nth pls i with
   |
    some p=>match p.new,p.tgt with
    | true,some k=>(List.range pls.length).all fun j=>(match nth pls j with | some q=>q.bef.contains i | none=>false) || (((j == i) || (match nth vs j with | some s=>!ment k s | none=>true)) && (match nth es j with | some e=>!mentO k e | none=>true))
    | _,_=>true
   | none=>true
def WS (P:Program) (ds tg:List (Option Nat)) (σ:St) (pad:List Own) (Q:Exit→St→Prop) (N:Nat) (pls:List Pl):List Oper→List Pl→List SV→List (Option Own)→Prop
 | [],_,vs,es=>okAll pls vs es σ.own (σ.own.length+pad.length)=true∧Q .normal (finS σ ds tg pad N vs es)
 | _::_,[],_,_=>False
 | o::l,p::ps,vs,es=>∃ s e,OpOK P ds (stAt σ ds tg pad vs es p) p o s e∧WS P ds tg σ pad Q N pls l ps (vs++[s]) (es++[e])
def befOf (pls:List Pl) (i:Nat):List Nat:=match nth pls i with
 | some p=>p.bef
 | none=>[]
def planB (ops:Array Oper) (ds tg:List (Option Nat)) (pls:List Pl) (n m M:Nat):Bool:=
 dsOk ds ops.toList && (ds.length == ops.size) && (pls.length == ops.size) && (tg == pls.map (·.tgt)) && (ds.all fun d=>match d with | some d=>decide (d<n) | none=>true) &&
 (List.range ops.size).all fun i=>match nth pls i with
  | none=>false
  |
   some p=>
   (p.bef == (List.range i).filter fun j=>p.bef.contains j) &&
   (p.bef.all fun j=>Region.waitsFor .any ops i j || (List.range i).any fun k=>Region.waitsFor .any ops i k && (befOf pls k).contains j) &&
   (p.rd.all fun j=>p.bef.contains j) &&
   (p.old.all fun t=>(List.range ops.size).all fun j=>!(nth ds j == some (some t)) || (befOf pls j).contains i) &&
   (match nth ds i with | some (some d)=>(List.range i).all fun j=>!(nth ds j == some (some d)) | _=>true) &&
   (
    match p.tgt with
    | some k=>decide (k<M) && !(p.gone.contains k) && (if p.new then decide (m≤k) && (List.range i).all fun j=>!(nth tg j == some (some k)) else true)
    | none=>true) &&
   (List.range ops.size).all fun l=>(l == i) || (match nth tg l with
    | some (some k)=>(match p.tgt with | some k'=>if k=k' then (if l<i then p.bef.contains l else (befOf pls l).contains i) else true | none=>true) && (p.bef.contains l || (befOf pls l).contains i || p.gone.contains k)
    | _=>true)
theorem getE_app:∀ (l m:List (Nat×SV)) (t:Nat),getE (l++m) t=match getE l t with | some s=>some s | none=>getE m t
 | [],m,t=>rfl
 |
  (j,s)::l,m,t=>by
  simp only[List.cons_append,getE]
  by_cases h:j=t
  · simp[h]
  · simp[h,getE_app l m t]
theorem envR_get {vs:List SV} {t:Nat} {s:SV}:∀ {l:List Nat},getE (envR ds vs l) t=some s→∃ j,j∈l∧nth ds j=some (some t)∧nth vs j=some s
 | [],h=>by simp[envR,getE] at h
 |
  j::l,h=>by
  simp only[envR] at h
  split at h
  ·
   rename_i d s' h1 h2
   simp only[getE] at h
   split at h
   ·
    rename_i he
    subst he
    simp only[Option.some.injEq] at h
    subst h
    exact⟨j,by simp,h1,h2⟩
   ·
    obtain⟨k,h3,h4⟩:=envR_get h
    exact⟨k,by simp[h3],h4⟩
  ·
   obtain⟨k,h3,h4⟩:=envR_get h
   exact⟨k,by simp[h3],h4⟩
theorem envR_none {vs:List SV} {t:Nat}:∀ {l:List Nat},getE (envR ds vs l) t=none→∀ j,j∈l→nth ds j=some (some t)→nth vs j=none
 | [],_,j,hj,_=>by cases hj
 |
  i::l,h,j,hj,hd=>by
  simp only[envR] at h
  rcases List.mem_cons.1 hj with rfl | hj
  ·
   rw[hd] at h
   cases hv:nth vs j with
   | none=>rfl
   | some s=>simp[hv,getE] at h
  ·
   split at h
   ·
    simp only[getE] at h
    split at h
    · cases h
    · exact envR_none h j hj hd
   · exact envR_none h j hj hd
theorem envO_get {e0:List (Nat×SV)} {t:Nat} {s:SV}:∀ {l:List Nat},getE (envO e0 l) t=some s→t∈l∧getE e0 t=some s
 | [],h=>by simp[envO,getE] at h
 |
  u::l,h=>by
  simp only[envO] at h
  split at h
  ·
   rename_i s' h1
   simp only[getE] at h
   split at h
   ·
    rename_i he
    subst he
    simp only[Option.some.injEq] at h
    subst h
    exact⟨by simp,h1⟩
   ·
    obtain⟨h3,h4⟩:=envO_get h
    exact⟨by simp[h3],h4⟩
  ·
   obtain⟨h3,h4⟩:=envO_get h
   exact⟨by simp[h3],h4⟩
def stepO (tg:List (Option Nat)) (es:List (Option Own)) (O:List Own) (i:Nat):List Own:=match nth tg i,nth es i with
 | some (some k),some (some o)=>setN O k o
 | _,_=>O
theorem ownS_cons (es:List (Option Own)) (i:Nat) (l:List Nat) (O:List Own):ownS tg es (i::l) O=ownS tg es l (stepO tg es O i):=rfl
theorem stepO_len (es:List (Option Own)) (O:List Own) (i:Nat):(stepO tg es O i).length=O.length:=by
 unfold stepO;split<;>simp[setN_eq]
theorem ownS_len (es:List (Option Own)):∀ (l:List Nat) (O:List Own),(ownS tg es l O).length=O.length
 | [],O=>rfl
 | i::l,O=>by rw[ownS_cons,ownS_len es l,stepO_len]
theorem ownS_app (es:List (Option Own)):∀ (l m:List Nat) (O:List Own),ownS tg es (l++m) O=ownS tg es m (ownS tg es l O)
 | [],m,O=>rfl
 | i::l,m,O=>by rw[List.cons_append,ownS_cons,ownS_cons,ownS_app es l m]
theorem stepO_at (es:List (Option Own)) (O:List Own) (i k:Nat):(stepO tg es O i)[k]?=if nth tg i=some (some k) then (match nth es i with | some (some o)=>if k<O.length then some o else none | _=>O[k]?) else O[k]?:=by
 unfold stepO
 split
 ·
  rename_i k' o h1 h2
  rw[setN_eq,List.getElem?_set]
  by_cases h:k'=k
  · subst h;simp[h1,h2]
  · rw[if_neg h,if_neg (by rw[h1];simp[h])]
 ·
  rename_i hno
  split
  ·
   rename_i h1
   split
   · rename_i o h2;exact absurd h2 (hno k o h1)
   · rfl
  · rfl
theorem ownS_filter (es:List (Option Own)) (k:Nat):∀ (l:List Nat) (O O':List Own),O.length=O'.length→O[k]?=O'[k]?→(ownS tg es l O)[k]?=(ownS tg es (l.filter fun i=>nth tg i == some (some k)) O')[k]?
 | [],O,O',_,h=>h
 |
  i::l,O,O',hl,h=>by
  by_cases hi:nth tg i=some (some k)
  ·
   rw[List.filter_cons_of_pos (by simp[hi]),ownS_cons,ownS_cons]
   refine ownS_filter es k l _ _ (by rw[stepO_len,stepO_len,hl]) ?_
   rw[stepO_at,stepO_at,if_pos hi,if_pos hi,hl,h]
  ·
   rw[List.filter_cons_of_neg (by simp[hi]),ownS_cons]
   refine ownS_filter es k l _ _ (by rw[stepO_len,hl]) ?_
   rw[stepO_at,if_neg hi,h]
theorem range_lt (c:Nat→Bool) (i:Nat):∀ d,(List.range i).filter c=(List.range (i+d)).filter fun j=>decide (j<i) && c j
 |
  0=>by
  refine List.filter_congr fun j hj=>?_
  have:=List.mem_range.1 hj
  simp[this]
 |
  d+1=>by
  rw[show i+(d+1)=(i+d)+1 by omega,List.range_succ,List.filter_append,← range_lt c i d]
  simp[show ¬ i+d<i by omega]
theorem ownS_same (es:List (Option Own)) (k:Nat) (O:List Own) {N:Nat} (a b:Nat→Bool) (h:∀ j,j<N→nth tg j=some (some k)→a j=b j):(ownS tg es ((List.range N).filter a) O)[k]?=(ownS tg es ((List.range N).filter b) O)[k]?:=by
 have he:((List.range N).filter a).filter (fun i=>nth tg i == some (some k))=((List.range N).filter b).filter (fun i=>nth tg i == some (some k)):=by
  rw[List.filter_filter,List.filter_filter]
  refine List.filter_congr fun j hj=>?_
  by_cases hq:nth tg j=some (some k)
  · rw[h j (List.mem_range.1 hj) hq]
  · rw[show(nth tg j == some (some k))=false by simpa using hq];rfl
 rw[ownS_filter es k _ O O rfl rfl,ownS_filter es k ((List.range N).filter b) O O rfl rfl,he]
theorem killG_len:∀ (l:List Nat) (O:List Own),(killG l O).length=O.length
 | [],O=>rfl
 | k::l,O=>by simp[killG,killG_len l,setN_eq]
theorem killG_not:∀ (l:List Nat) (O:List Own) (k:Nat),k∉l→(killG l O)[k]?=O[k]?
 | [],O,k,_=>rfl
 |
  j::l,O,k,h=>by
  simp only[List.mem_cons,not_or] at h
  simp only[killG]
  rw[killG_not l _ k h.2,setN_eq,List.getElem?_set_ne (Ne.symm h.1)]
theorem killG_in:∀ (l:List Nat) (O:List Own) (k:Nat) (o:Own),k∈l→(killG l O)[k]?=some o→o=.dead
 | [],O,k,o,h,_=>by cases h
 |
  j::l,O,k,o,h,hk=>by
  simp only[killG] at hk
  by_cases hl:k∈l
  · exact killG_in l _ k o hl hk
  ·
   rw[killG_not l _ k hl] at hk
   rcases List.mem_cons.1 h with rfl | h
   ·
    rw[setN_eq,List.getElem?_set] at hk
    simp only[if_true] at hk
    split at hk
    · exact(Option.some.inj hk).symm
    · cases hk
   · exact absurd h hl
theorem Base.weak {ρ:Nat→Nat} {w:World} {n n':Nat} {e e':List (Nat×SV)} {U V:List Own} {sn:List ((Nat→Prop)×World)} {F:List Dm} (hb:Base ρ ⟨n,e,U,sn,F⟩ w) (hl:V.length=U.length) (h:∀ (k:Nat) (o:Own),V[k]?=some o→o=.dead∨U[k]?=some o):Base ρ ⟨n',e',V,sn,F⟩ w:=by
 refine⟨fun k o hk ρ' hρ=>?_,fun i j oi oj b hi hj hni hnj=>?_,fun p hp=>⟨(hb.keep p hp).1,fun k o b hk hn hS=>?_⟩⟩
 ·
  rcases h k o hk with rfl | h1
  · trivial
  · exact hb.own k o h1 ρ' (by rw[show({ n:=n,env:=e,own:=U,snaps:=sn }:St).own.length=V.length from hl.symm];exact hρ)
 ·
  rcases h i oi hi with rfl | h1
  · cases hni
  ·
   rcases h j oj hj with rfl | h2
   · cases hnj
   · exact hb.apart i j oi oj b h1 h2 hni hnj
 ·
  rcases h k o hk with rfl | h1
  · cases hn
  · exact(hb.keep p hp).2 k o b h1 hn hS
theorem Base.place {ρ:Nat→Nat} {w:World} {n:Nat} {e:List (Nat×SV)} {U:List Own} {sn:List ((Nat→Prop)×World)} {F:List Dm} (hb:Base ρ ⟨n,e,U,sn,F⟩ w) {k:Nat} (hk:U[k]?=some .dead) {T:TypeId} {cs:List SV} (hbd:bndL U.length cs=true) (hm:mentL k cs=false)
  (hc:∀ (j:Nat) (o:Own),U[j]?=some o→mentO k (some o)=false):Base (upd ρ k w.heap.size) ⟨n,e,U.set k (.cells T cs),sn,F⟩ { w with heap:=w.heap.push (.cells (denL ρ cs).toArray T) }:=by
 have hkl:k<U.length:=(List.getElem?_eq_some_iff.1 hk).1
 have hb':BelowD w.heap.size w { w with heap:=w.heap.push (.cells (denL ρ cs).toArray T) }:=below_push w _
 have hcase:∀ (j:Nat) (o:Own),(U.set k (.cells T cs))[j]?=some o→(j=k∧o=.cells T cs)∨(j≠k∧U[j]?=some o):=fun j o hj=>by
  by_cases h:j=k
  · subst h;rw[List.getElem?_set_self hkl] at hj;exact .inl ⟨rfl,(Option.some.inj hj).symm⟩
  · rw[List.getElem?_set_ne (Ne.symm h)] at hj;exact .inr ⟨h,hj⟩
 have hnum:∀ j (o:Own),j≠k→o.num (upd ρ k w.heap.size) j=o.num ρ j:=fun j o h=>by cases o<;>simp[Own.num,upd,h]
 have hlt:∀ j (o:Own) b,U[j]?=some o→o.num ρ j=some b→b<w.heap.size:=fun j o b hj hn=>Own.lt (hb.own j o hj ρ (Agree.refl _ _)) hn
 refine⟨fun j o hj ρ' hρ=>?_,fun i j oi oj b hi hj hni hnj=>?_,fun p hp=>?_⟩
 ·
  have hρl:Agree U.length (upd ρ k w.heap.size) ρ':=by
   have:({ n:=n,env:=e,own:=U.set k (.cells T cs),snaps:=sn }:St).own.length=U.length:=by simp
   rw[this] at hρ;exact hρ
  rcases hcase j o hj with⟨rfl,rfl⟩ | ⟨h1,h2⟩
  ·
   simp only[Own.holds]
   have e1:ρ' j=w.heap.size:=by rw[hρl j hkl];simp[upd]
   rw[e1,denL_agree hρl cs hbd,denL_ment ρ cs hm]
   simp
  ·
   have hag:Agree U.length ρ (upd ρ' k (ρ k)):=fun i hi=>by
    by_cases hik:i=k
    · subst hik;simp[upd]
    · have:=hρl i hi;simp[upd,hik] at this ⊢;exact this
   have h3:=hb.own j o h2 _ hag
   have h4:o.holds ρ' j w:=by
    cases o with
    |
     cells T' cs'=>
     simp only[Own.holds] at h3 ⊢
     rw[denL_ment ρ' cs' (by simpa [mentO] using hc j _ h2)] at h3
     simpa [upd,h1] using h3
    | slice=>exact h3
    | map=>exact h3
    | dead=>trivial
   exact Own.holds_same h4 fun b hn=>hb'.block b (Own.lt h4 hn)
 ·
  rcases hcase i oi hi with⟨rfl,rfl⟩ | ⟨h1,h2⟩<;>rcases hcase j oj hj with⟨rfl,rfl⟩ | ⟨h3,h4⟩
  · rfl
  ·
   rw[hnum j oj h3] at hnj
   have:=hlt j oj b h4 hnj
   simp[Own.num,upd] at hni;omega
  ·
   rw[hnum i oi h1] at hni
   have:=hlt i oi b h2 hni
   simp[Own.num,upd] at hnj;omega
  · exact hb.apart i j oi oj b h2 h4 (by rw[← hnum i oi h1];exact hni) (by rw[← hnum j oj h3];exact hnj)
 ·
  obtain⟨h1,h2⟩:=hb.keep p hp
  refine⟨h1.below hb',fun j o b hj hn hS=>?_⟩
  rcases hcase j o hj with⟨rfl,rfl⟩ | ⟨h3,h4⟩
  · simp[Own.num,upd] at hn;have:=h1.size;omega
  ·
   rw[hnum j o h3] at hn
   exact h2 j o b h4 hn hS
theorem ownS_last {es:List (Option Own)} {O:List Own} {N i k:Nat} {o:Own} {a:Nat→Bool} (hi:i<N) (ht:nth tg i=some (some k)) (he:nth es i=some (some o)) (hk:k<O.length) (ha:a i=true)
  (hl:∀ l,i<l→l<N→nth tg l=some (some k)→a l=false):(ownS tg es ((List.range N).filter a) O)[k]?=some o:=by
 obtain⟨d,rfl⟩:∃ d,N=(i+1)+d:=⟨N - (i+1),by omega⟩
 rw[ownS_same es k O a (fun j=>decide (j<i+1) && a j) (fun j hj hq=>by
  by_cases h:j<i+1
  · simp[h]
  · rw[hl j (by omega) hj hq];simp[h]),← range_lt a (i+1) d,List.range_succ,List.filter_append,ownS_app]
 have:[i].filter a=[i]:=by simp[ha]
 rw[this,ownS_cons,ownS,stepO_at,if_pos ht,he]
 simp[ownS_len,hk]
theorem ownS_from {es:List (Option Own)}:∀ (l:List Nat) (O:List Own) (k:Nat) (o:Own),(ownS tg es l O)[k]?=some o→O[k]?=some o∨∃ i,i∈l∧nth es i=some (some o)
 | [],O,k,o,h=>.inl h
 |
  i::l,O,k,o,h=>by
  rcases ownS_from l _ k o h with h1 | ⟨j,h1,h2⟩
  ·
   rw[show(match nth tg i,nth es i with | some (some k),some (some o)=>setN O k o | _,_=>O)=stepO tg es O i from rfl,stepO_at] at h1
   split at h1
   ·
    split at h1
    ·
     rename_i o' ho
     split at h1
     · obtain rfl:=Option.some.inj h1;exact .inr ⟨i,by simp,ho⟩
     · cases h1
    · exact .inl h1
   · exact .inl h1
  · exact .inr ⟨j,by simp[h1],h2⟩
mutual
theorem bnd_ment {m k:Nat} (hk:m≤k):∀ s,bnd m s=true→ment k s=false
 | .val _,_=>rfl
 | .loc j _,h=>by simp only[bnd,decide_eq_true_eq] at h;simp only[ment,beq_eq_false_iff_ne];omega
 | .lsl j _ _ _,h=>by simp only[bnd,decide_eq_true_eq] at h;simp only[ment,beq_eq_false_iff_ne];omega
 | .agg cs,h=>by simp only[ment];exact bndL_ment hk cs (by simpa [bnd] using h)
 | .tup vs,h=>by simp only[ment];exact bndL_ment hk vs (by simpa [bnd] using h)
 |
  .fn _ a b,h=>by
  simp only[bnd,Bool.and_eq_true] at h
  simp only[ment,bndL_ment hk a h.1,bndL_ment hk b h.2,Bool.or_self]
theorem bndL_ment {m k:Nat} (hk:m≤k):∀ l,bndL m l=true→mentL k l=false
 | [],_=>rfl
 |
  s::l,h=>by
  simp only[bndL,Bool.and_eq_true] at h
  simp only[mentL,bnd_ment hk s h.1,bndL_ment hk l h.2,Bool.or_self]
end
theorem bndO_ment {m k:Nat} (hk:m≤k) {o:Own} (h:o.bnd m=true):mentO k (some o)=false:=by
 cases o with
 | cells T cs=>exact bndL_ment hk cs h
 | _=>rfl
structure PlanOK0 (ops:Array Oper) (ds tg:List (Option Nat)) (pls:List Pl) (n m M:Nat):Prop where
 hds:dsOk ds ops.toList=true
 hdl:ds.length=ops.size
 hpl:pls.length=ops.size
 htg:∀ i p,nth pls i=some p→nth tg i=some p.tgt
 hdn:∀ i d,nth ds i=some (some d)→d<n
 bef:∀ i p,nth pls i=some p→p.bef=(List.range i).filter fun j=>p.bef.contains j
 clo:∀ i p,nth pls i=some p→∀ j,j∈p.bef→Region.waitsFor .any ops i j=true∨∃ k,k<i∧Region.waitsFor .any ops i k=true∧j∈befOf pls k
 rdb:∀ i p,nth pls i=some p→∀ j,j∈p.rd→j∈p.bef
 old:∀ i p,nth pls i=some p→∀ t,t∈p.old→∀ j,j<ops.size→nth ds j=some (some t)→i∈befOf pls j
 dist:∀ i p,nth pls i=some p→∀ d,nth ds i=some (some d)→∀ j,j<i→nth ds j≠some (some d)
 tgt:∀ i p,nth pls i=some p→∀ k,p.tgt=some k→k<M∧k∉p.gone∧(p.new=true→m≤k∧∀ j,j<i→nth tg j≠some (some k))
 oth:∀ i p,nth pls i=some p→∀ l,l<ops.size→l≠i→∀ k,nth tg l=some (some k)→(p.tgt=some k→(l<i→l∈p.bef)∧(¬ l<i→i∈befOf pls l))∧(l∈p.bef∨i∈befOf pls l∨k∈p.gone)
def dirB (ops:Array Oper):Bool:=(List.range ops.size).all fun i=>match ops[i]? with
 | some o=>o.after.toList.all fun e=>!Region.binds .any e || decide (e.on<i)
 | none=>true
theorem dirB_spec (h:dirB ops=true):∀ (i:Nat) (e:Edge) {o:Oper},e∈o.after→Region.binds .any e=true→ops[i]?=some o→e.on<i:=fun i e o he hb ho=>by
 have hi:=(Array.getElem?_eq_some_iff.1 ho).1
 have:=List.all_eq_true.1 h i (List.mem_range.2 hi)
 rw[ho] at this
 have:=List.all_eq_true.1 this e (by simpa using he)
 rw[hb] at this
 simpa using this
structure PlanOK (ops:Array Oper) (ds tg:List (Option Nat)) (pls:List Pl) (n m M:Nat):Prop extends PlanOK0 ops ds tg pls n m M where
 dir:∀ (i:Nat) (e:Edge) {o:Oper},e∈o.after→Region.binds .any e=true→ops[i]?=some o→e.on<i
theorem Base.pads {ρ:Nat→Nat} {w:World} (hb:Base ρ σ w) (hpad:∀ x,x∈pad→x=.dead):Base ρ ⟨σ.n,[],σ.own++pad,σ.snaps,σ.dfs⟩ w:=by
 have hcase:∀ (k:Nat) (o:Own),(σ.own++pad)[k]?=some o→o=.dead∨(k<σ.own.length∧σ.own[k]?=some o):=fun k o hk=>by
  rcases Nat.lt_or_ge k σ.own.length with h | h
  · rw[List.getElem?_append_left h] at hk;exact .inr ⟨h,hk⟩
  · rw[List.getElem?_append_right h] at hk;exact .inl (hpad o (List.mem_of_getElem? hk))
 refine⟨fun k o hk ρ' hρ=>?_,fun i j oi oj b hi hj hni hnj=>?_,fun p hp=>⟨(hb.keep p hp).1,fun k o b hk hn hS=>?_⟩⟩
 ·
  rcases hcase k o hk with rfl | ⟨h1,h2⟩
  · trivial
  · exact hb.own k o h2 ρ' (hρ.mono (by simp))
 ·
  rcases hcase i oi hi with rfl | ⟨_,h1⟩
  · cases hni
  ·
   rcases hcase j oj hj with rfl | ⟨_,h2⟩
   · cases hnj
   · exact hb.apart i j oi oj b h1 h2 hni hnj
 ·
  rcases hcase k o hk with rfl | ⟨_,h1⟩
  · cases hn
  · exact(hb.keep p hp).2 k o b h1 hn hS
theorem planB_spec {pls:List Pl} {n m M:Nat} (h:planB ops ds tg pls n m M=true):PlanOK0 ops ds tg pls n m M:=by
 simp only[planB,Bool.and_eq_true,beq_iff_eq] at h
 obtain⟨⟨⟨⟨⟨h1,h2⟩,h3⟩,h4⟩,h5⟩,h6⟩:=h
 have hnth:∀ i p,nth pls i=some p→i<ops.size:=fun i p hp=>by
  rw[nth_eq] at hp;have:=(List.getElem?_eq_some_iff.1 hp).1;omega
 have key:=fun i p (hp:nth pls i=some p)=>by
  have:=List.all_eq_true.1 h6 i (List.mem_range.2 (hnth i p hp))
  rw[hp] at this
  simpa only [Bool.and_eq_true,beq_iff_eq] using this
 refine⟨h1,h2,h3,fun i p hp=>?_,fun i d hd=>?_,fun i p hp=>?_,fun i p hp j hj=>?_,fun i p hp j hj=>?_,fun i p hp t ht j hj hd=>?_,fun i p hp d hd j hj he=>?_,fun i p hp k hk=>?_,fun i p hp l hl hne k hk=>?_⟩
 · rw[h4,nth_eq,List.getElem?_map,← nth_eq,hp];rfl
 ·
  rw[nth_eq] at hd
  have:=List.all_eq_true.1 h5 _ (List.mem_of_getElem? hd)
  simpa using this
 · exact(key i p hp).1.1.1.1.1.1
 ·
  have:=List.all_eq_true.1 (key i p hp).1.1.1.1.1.2 j hj
  simp only[Bool.or_eq_true,List.any_eq_true,Bool.and_eq_true,List.mem_range,List.contains_iff_mem] at this
  rcases this with h | ⟨k,h1,h2,h3⟩
  · exact .inl h
  · exact .inr ⟨k,h1,h2,h3⟩
 ·
  have:=List.all_eq_true.1 (key i p hp).1.1.1.1.2 j hj
  simpa using this
 ·
  have:=List.all_eq_true.1 (List.all_eq_true.1 (key i p hp).1.1.1.2 t ht) j (List.mem_range.2 hj)
  simp only[Bool.or_eq_true,hd] at this
  simpa using this
 ·
  have:=(key i p hp).1.1.2
  rw[hd] at this
  have:=List.all_eq_true.1 this j (List.mem_range.2 hj)
  rw[he] at this
  simp at this
 ·
  have:=(key i p hp).1.2
  rw[hk] at this
  simp only[Bool.and_eq_true,decide_eq_true_eq,Bool.not_eq_true'] at this
  refine⟨this.1.1,by simpa using this.1.2,fun hn=>?_⟩
  have h9:=this.2
  rw[if_pos hn] at h9
  simp only[Bool.and_eq_true,decide_eq_true_eq] at h9
  refine⟨h9.1,fun j hj he=>?_⟩
  have:=List.all_eq_true.1 h9.2 j (List.mem_range.2 hj)
  rw[he] at this
  simp at this
 ·
  have:=List.all_eq_true.1 (key i p hp).2 l (List.mem_range.2 hl)
  rw[show(l == i)=false by simpa using hne,Bool.false_or,hk] at this
  simp only[Bool.and_eq_true,Bool.or_eq_true,List.contains_iff_mem] at this
  refine⟨fun ht=>?_,?_⟩
  ·
   have h9:=this.1
   rw[ht] at h9
   simp only[if_true] at h9
   refine⟨fun hlt=>?_,fun hge=>?_⟩
   · rw[if_pos hlt] at h9;simpa using h9
   · rw[if_neg hge] at h9;simpa using h9
  ·
   rcases this.2 with (h | h) | h
   · exact .inl h
   · exact .inr (.inl h)
   · exact .inr (.inr h)
theorem WS.all {N:Nat} {pls:List Pl}:∀ (l:List Oper) (ps:List Pl) (vs:List SV) (es:List (Option Own)),WS P ds tg σ pad Q N pls l ps vs es→l.length=ps.length→vs.length=es.length →
  ∃
   vs' es',vs'.length=vs.length+l.length∧es'.length=vs'.length∧(∀ i,i<vs.length→nth vs' i=nth vs i∧nth es' i=nth es i)∧okAll pls vs' es' σ.own (σ.own.length+pad.length)=true∧Q .normal (finS σ ds tg pad N vs' es') ∧
   ∀ i o p,l[i]?=some o→ps[i]?=some p→∃ s e,nth vs' (vs.length+i)=some s∧nth es' (vs.length+i)=some e∧OpOK P ds (stAt σ ds tg pad (vs'.take (vs.length+i)) (es'.take (vs.length+i)) p) p o s e
 | [],ps,vs,es,h,_,hl=>⟨vs,es,rfl,hl.symm,fun _ _=>⟨rfl,rfl⟩,h.1,h.2,fun i o p ho=>by simp at ho⟩
 | o::l,[],vs,es,h,hl,_=>by simp at hl
 |
  o::l,p::ps,vs,es,h,hl,hv=>by
  obtain⟨s,e,h1,h2⟩:=h
  obtain⟨vs',es',g1,g2,g3,g4,g5,g6⟩:=WS.all l ps _ _ h2 (by simpa using hl) (by simp[hv])
  have g3':∀ i,i<vs.length→nth vs' i=nth vs i∧nth es' i=nth es i:=fun i hi=>by
   obtain⟨e1,e2⟩:=g3 i (by simp;omega)
   rw[e1,e2]
   simp only[nth_eq]
   rw[List.getElem?_append_left hi,List.getElem?_append_left (by omega)]
   exact⟨rfl,rfl⟩
  have hsz:∀ {α:Type} (a b:List α) n,n≤a.length→n≤b.length→(∀ i,i<n→nth a i=nth b i)→a.take n=b.take n:=fun a b n ha hb h=>by
   apply List.ext_getElem?
   intro i
   rw[List.getElem?_take,List.getElem?_take]
   split
   · rename_i hi;have:=h i hi;simpa only [nth_eq] using this
   · rfl
  refine⟨vs',es',by simp at g1 ⊢;omega,g2,g3',g4,g5,fun i o' p' ho hp=>?_⟩
  cases i with
  |
   zero=>
   simp only[List.getElem?_cons_zero,Option.some.injEq] at ho hp
   subst ho;subst hp
   have hlv:vs.length<(vs++[s]).length:=by simp
   obtain⟨e1,e2⟩:=g3 vs.length hlv
   refine⟨s,e,by rw[Nat.add_zero,e1,nth_eq];simp,by rw[Nat.add_zero,e2,nth_eq,hv];simp,?_⟩
   have t1:vs'.take vs.length=vs:=by
    rw[hsz vs' vs vs.length (by simp at g1;omega) (Nat.le_refl _) fun i hi=>(g3' i hi).1,List.take_length]
   have t2:es'.take vs.length=es:=by
    rw[hsz es' es vs.length (by simp at g1;omega) (by omega) fun i hi=>(g3' i hi).2,hv,List.take_length]
   rw[Nat.add_zero,t1,t2]
   exact h1
  |
   succ i=>
   have:=g6 i o' p' (by simpa using ho) (by simpa using hp)
   simpa [Nat.add_assoc,Nat.add_comm 1] using this
theorem envR_take (vs:List SV) {i:Nat}:∀ (l:List Nat),(∀ j,j∈l→j<i)→envR ds (vs.take i) l=envR ds vs l
 | [],_=>rfl
 |
  j::l,h=>by
  have hj:nth (vs.take i) j=nth vs j:=by rw[nth_eq,nth_eq,List.getElem?_take_of_lt (h j (by simp))]
  simp only[envR,hj,envR_take vs l fun j hj=>h j (by simp[hj])]
theorem ownS_take (es:List (Option Own)) {i:Nat}:∀ (l:List Nat) (O:List Own),(∀ j,j∈l→j<i)→ownS tg (es.take i) l O=ownS tg es l O
 | [],_,_=>rfl
 |
  j::l,O,h=>by
  have hj:nth (es.take i) j=nth es j:=by rw[nth_eq,nth_eq,List.getElem?_take_of_lt (h j (by simp))]
  simp only[ownS,hj,ownS_take es l _ fun j hj=>h j (by simp[hj])]
def SInv (ops:Array Oper) (ds tg:List (Option Nat)) (pls:List Pl) (σ:St) (pad:List Own) (vs:List SV) (es:List (Option Own)) (ρ0:Nat→Nat) (a0:Act) (listed:Array Bool) (a:Act) (w:World):Prop:=
 listed.size=ops.size∧(∀ i,listed.getD i false=true→∀ j,j∈befOf pls i→listed.getD j false=true)∧a.tmps.size=σ.n∧a.defers=σ.dfs.map mark ∧
 ∃
  ρ,Agree σ.own.length ρ0 ρ∧(∀ i d s,listed.getD i false=true→nth ds i=some (some d)→nth vs i=some s→a.tmps[d]?=some (den ρ s)) ∧
  (∀ t,(∀ i,listed.getD i false=true→nth ds i≠some (some t))→a.tmps[t]?=a0.tmps[t]?) ∧
  Base ρ ⟨σ.n,[],ownS tg es ((List.range ops.size).filter fun j=>listed.getD j false) (σ.own++pad),σ.snaps,σ.dfs⟩ w
theorem getD_setT {listed:Array Bool} {i j:Nat} (hi:i<listed.size):(listed.setIfInBounds i true).getD j false=(decide (i=j) || listed.getD j false):=by
 by_cases h:i=j
 · subst h;simp[Array.getD_eq_getD_getElem?,hi]
 · simp[Array.getD_eq_getD_getElem?,h,Array.getElem?_setIfInBounds_ne h]
theorem dsOk_at:∀ {ds:List (Option Nat)} {l:List Oper} {i:Nat} {x:Option Nat} {o:Oper},dsOk ds l=true→l[i]?=some o→nth ds i=some x→x=o.dst
 | [],_,_,_,_,_,_,h=>by simp[nth] at h
 | _::_,[],_,_,_,h,_,_=>by cases h
 |
  d::ds,q::l,i,x,o,h,ho,hx=>by
  simp only[dsOk,Bool.and_eq_true] at h
  cases i with
  |
   zero=>
   simp only[nth,if_true,Option.some.injEq] at hx
   simp only[List.getElem?_cons_zero,Option.some.injEq] at ho
   subst hx;subst ho
   have h1:=h.1
   cases d<;>cases hq:q.dst<;>simp[hq] at h1 ⊢
   exact h1
  |
   succ i=>
   simp only[nth,Nat.add_one_ne_zero,if_false,Nat.add_sub_cancel] at hx
   exact dsOk_at h.2 (by simpa using ho) hx
theorem S_step {pls:List Pl} {vs:List SV} {es:List (Option Own)} {ρ0:Nat→Nat} {a0:Act} {w0:World} {listed:Array Bool} {a:Act} {w:World} {i:Nat} {o:Oper} {p:Pl} {s:SV} {e:Option Own} {Q':Exit→Act→World→Prop} {K:Act→World→Prop}
  (hpad:∀ x,x∈pad→x=.dead) (H:PlanOK ops ds tg pls σ.n σ.own.length (σ.own.length+pad.length)) (h0:Sat ρ0 σ a0 w0) (hok:okAll pls vs es σ.own (σ.own.length+pad.length)=true) (hlv:vs.length=ops.size) (hle:es.length=ops.size)
  (inv:SInv ops ds tg pls σ pad vs es ρ0 a0 listed a w) (hr:i∈Region.ready .any ops listed) (ho:ops[i]?=some o) (hp:nth pls i=some p) (hs:nth vs i=some s) (he:nth es i=some e) (hop:OpOK P ds (stAt σ ds tg pad vs es p) p o s e)
  (hK:∀ a' w',SInv ops ds tg pls σ pad vs es ρ0 a0 (listed.setIfInBounds i true) a' w'→K a' w'):wpOp P ops Q' i K a w:=by
 obtain⟨hsz,hcl,hta,hde,ρ,hag,E1,E0,hB⟩:=inv
 obtain⟨hun,oi,hoi,hall⟩:=mem_ready.1 hr
 obtain rfl:oi=o:=Option.some.inj (hoi.symm.trans ho)
 have hi:i<ops.size:=(Array.getElem?_eq_some_iff.1 ho).1
 have hil:i<listed.size:=by omega
 have hni:listed.getD i false=false:=getD_both hun
 have hbi:befOf pls i=p.bef:=by unfold befOf;rw[hp]
 have hbl:∀ j,j∈p.bef→listed.getD j false=true:=fun j hj=>by
  have hdir:∀ k,Region.waitsFor .any ops i k=true→listed.getD k false=true:=fun k hk=>by
   obtain⟨oj,h1,x,h2,h3,rfl⟩:=Region.waitsFor_spec hk
   obtain rfl:oj=oi:=Option.some.inj (h1.symm.trans ho)
   exact hall x h2 h3
  rcases H.clo i p hp j hj with h | ⟨k,_,h1,h2⟩
  · exact hdir j h
  · exact hcl k (hdir k h1) j h2
 have hblt:∀ j,j∈p.bef→j<i:=fun j hj=>by
  rw[H.bef i p hp] at hj
  exact List.mem_range.1 (List.mem_filter.1 hj).1
 have hlater:∀ l,listed.getD l false=true→i∉befOf pls l:=fun l hl hm=>by
  have:=hcl l hl i hm;rw[hni] at this;cases this
 simp only[okAll,Bool.and_eq_true] at hok
 obtain⟨⟨⟨⟨ok0,ok1⟩,ok2⟩,ok3⟩,ok4⟩:=hok
 have hbv:∀ j u,nth vs j=some u→bnd (σ.own.length+pad.length) u=true:=fun j u hu=>by
  rw[nth_eq] at hu;exact List.all_eq_true.1 ok1 u (List.mem_of_getElem? hu)
 have hden:∀ j u ρ',nth vs j=some u→Agree (σ.own.length+pad.length) ρ ρ'→den ρ' u=den ρ u:=fun j u ρ' hu hρ=>den_agree hρ u (hbv j u hu)
 have hown:∀ k,k∉p.gone→(stAt σ ds tg pad vs es p).own[k]?=(ownS tg es ((List.range ops.size).filter fun j=>listed.getD j false) (σ.own++pad))[k]?:=fun k hk=>by
  simp only[stAt]
  rw[killG_not _ _ k hk,H.bef i p hp]
  obtain⟨d,hd⟩:∃ d,ops.size=i+d:=⟨ops.size - i,by omega⟩
  rw[range_lt _ i d,← hd]
  refine ownS_same es k _ _ _ fun j hj hq=>?_
  by_cases hji:j=i
  · subst hji;simp[hni]
  ·
   rcases (H.oth i p hp j hj hji k hq).2 with h | h | h
   · rw[hbl j h];simp[h,hblt j h]
   ·
    cases hl:listed.getD j false with
    | true=>exact absurd h (hlater j hl)
    |
     false=>
     cases hc:p.bef.contains j with
     | false=>simp
     | true=>have:=hbl j (by simpa using hc);rw[hl] at this;cases this
   · exact absurd h hk
 have hlen:∀ l,(ownS tg es l (σ.own++pad)).length=σ.own.length+pad.length:=fun l=>by rw[ownS_len];simp
 have hstl:(stAt σ ds tg pad vs es p).own.length=σ.own.length+pad.length:=by simp only[stAt,killG_len,hlen]
 have henv:∀ t u,getE (stAt σ ds tg pad vs es p).env t=some u→t<σ.n∧∀ ρ',Agree (σ.own.length+pad.length) ρ ρ'→a.tmps[t]?=some (den ρ' u):=fun t u h=>by
  simp only[stAt] at h
  rw[getE_app] at h
  split at h
  ·
   rename_i u' h1
   obtain rfl:=Option.some.inj h
   obtain⟨j,hj,hd,hv⟩:=envR_get h1
   refine⟨H.hdn j t hd,fun ρ' hρ=>?_⟩
   rw[E1 j t u' (hbl j (H.rdb i p hp j hj)) hd hv,hden j u' ρ' hv hρ]
  ·
   obtain⟨ht,hg⟩:=envO_get h
   obtain⟨h1,h2⟩:=h0.env t u hg
   refine⟨h1,fun ρ' hρ=>?_⟩
   rw[E0 t fun j hj hd=>?_]
   · exact h2 ρ' fun q hq=>by rw[hρ q (by omega),hag q hq]
   ·
    have hjs:j<ops.size:=by
     have:=(List.getElem?_eq_some_iff.1 (by rw[← nth_eq];exact hd)).1
     rw[H.hdl] at this;exact this
    exact hlater j hj (H.old i p hp t ht j hjs hd)
 have hst:Sat ρ (stAt σ ds tg pad vs es p) a w:=by
  refine⟨hta,hde,fun t u h=>?_,?_⟩
  ·
   obtain⟨h1,h2⟩:=henv t u h
   exact⟨h1,fun ρ' hρ=>h2 ρ' (by rw[hstl] at hρ;exact hρ)⟩
  ·
   refine Base.weak (U:=ownS tg es ((List.range ops.size).filter fun j=>listed.getD j false) (σ.own++pad)) hB (by rw[hlen];exact hstl) fun k o' hk=>?_
   by_cases hg:k∈p.gone
   · exact .inl (killG_in _ _ _ _ hg hk)
   · right;rw[← hown k hg];exact hk
 obtain⟨hgd,hop⟩:=hop
 have hwant:=gd_sound hst H.hds hgd
 have hL':∀ j,(listed.setIfInBounds i true).getD j false=true→j=i∨listed.getD j false=true:=fun j hj=>by
  rw[getD_setT hil] at hj
  simp only[Bool.or_eq_true,decide_eq_true_eq] at hj
  rcases hj with rfl | h
  · exact .inl rfl
  · exact .inr h
 have mk:∀ (ρ':Nat→Nat) (v:Value) (w':World),Agree σ.own.length ρ0 ρ'→v=den ρ' s→(∀ j u,listed.getD j false=true→nth vs j=some u→den ρ' u=den ρ u) →
   Base ρ' ⟨σ.n,[],ownS tg es ((List.range ops.size).filter fun j=>(listed.setIfInBounds i true).getD j false) (σ.own++pad),σ.snaps,σ.dfs⟩ w'→SInv ops ds tg pls σ pad vs es ρ0 a0 (listed.setIfInBounds i true) (a.put oi.dst v) w':=fun ρ' v w' h1 h2 h3 h4=>by
  have hdi:∀ d,nth ds i=some (some d)↔oi.dst=some d:=fun d=>by
   have hdl:=H.hdl
   have hlt:i<ds.length:=by omega
   obtain⟨x,hx⟩:∃ x,nth ds i=some x:=⟨ds[i],by rw[nth_eq];exact List.getElem?_eq_getElem hlt⟩
   have hx2:x=oi.dst:=dsOk_at H.hds (by simpa using ho) hx
   rw[hx,hx2];simp
  refine⟨by simpa using hsz,fun j hj q hq=>?_,by cases hd:oi.dst<;>simpa [hd,Act.put] using hta,by cases hd:oi.dst<;>simpa [hd,Act.put] using hde,ρ',h1,fun j d u hj hd hu=>?_,fun t ht=>?_,h4⟩
  ·
   rw[getD_setT hil]
   rcases hL' j hj with rfl | hj
   · rw[hbi] at hq;rw[hbl q hq];simp
   · rw[hcl j hj q hq];simp
  ·
   rcases hL' j hj with rfl | hjl
   ·
    have hd':=(hdi d).1 hd
    obtain rfl:s=u:=Option.some.inj (hs.symm.trans hu)
    have hlt:d<a.tmps.size:=by rw[hta];exact H.hdn j d hd
    rw[hd']
    simp[Act.put,hlt,h2]
   ·
    have hne:∀ d',oi.dst=some d'→d'≠d:=fun d' hd' he=>by
     subst he
     have hjs:j<ops.size:=by
      have:=(List.getElem?_eq_some_iff.1 (by rw[← nth_eq];exact hd)).1
      rw[H.hdl] at this;exact this
     have hji:j≠i:=fun h=>by subst h;rw[hni] at hjl;cases hjl
     rcases Nat.lt_or_ge j i with h | h
     · exact H.dist i p hp d' ((hdi d').2 hd') j h hd
     ·
      have hpl:=H.hpl
      obtain⟨q,hq⟩:∃ q,nth pls j=some q:=⟨pls[j],by rw[nth_eq];exact List.getElem?_eq_getElem (by omega)⟩
      exact H.dist j q hq d' hd i (by omega) ((hdi d').2 hd')
    have:(a.put oi.dst v).tmps[d]?=a.tmps[d]?:=by
     cases hdd:oi.dst with
     | none=>rfl
     | some d'=>simp only[Act.put];exact Array.getElem?_setIfInBounds_ne (hne d' hdd)
    rw[this,E1 j d u hjl hd hu,h3 j u hjl hu]
  ·
   have hti:oi.dst≠some t:=fun h=>ht i (by rw[getD_setT hil];simp) ((hdi t).2 h)
   have:(a.put oi.dst v).tmps[t]?=a.tmps[t]?:=by
    cases hdd:oi.dst with
    | none=>rfl
    | some d'=>simp only[Act.put];exact Array.getElem?_setIfInBounds_ne fun h=>hti (by rw[hdd,h])
   rw[this,E0 t fun j hj=>ht j (by rw[getD_setT hil,hj];simp)]
 unfold wpOp
 simp only[ho,hwant,if_true]
 refine .inl ?_
 unfold Oper.wp
 have same:∀ k,p.tgt≠some k→(ownS tg es ((List.range ops.size).filter fun j=>(listed.setIfInBounds i true).getD j false) (σ.own++pad))[k]?=(ownS tg es ((List.range ops.size).filter fun j=>listed.getD j false) (σ.own++pad))[k]?:=fun k hk=>
  ownS_same es k _ _ _ fun j hj hq=>by
   rw[getD_setT hil]
   have hji:i≠j:=fun h=>by
    subst h
    rw[H.htg i p hp] at hq
    exact hk (Option.some.inj hq)
   simp[hji]
 have turned:∀ k x,p.tgt=some k→e=some x→ownS tg es ((List.range ops.size).filter fun j=>(listed.setIfInBounds i true).getD j false) (σ.own++pad)=(ownS tg es ((List.range ops.size).filter fun j=>listed.getD j false) (σ.own++pad)).set k x:=fun k x hk hx=>by
  have hkM:=(H.tgt i p hp k hk).1
  apply List.ext_getElem?
  intro q
  by_cases hq:k=q
  ·
   subst hq
   rw[List.getElem?_set_self (by rw[hlen];exact hkM)]
   refine ownS_last hi (by rw[H.htg i p hp,hk]) (by rw[he,hx]) (by simpa using hkM) (by rw[getD_setT hil];simp) fun l hil' hl hq=>?_
   have hlg:(listed.getD l false)=false:=by
    cases hl2:listed.getD l false with
    | false=>rfl
    | true=>exact absurd (((H.oth i p hp l hl (by omega) k hq).1 hk).2 (by omega)) (hlater l hl2)
   rw[getD_setT hil,hlg];simp;omega
  ·
   rw[List.getElem?_set_ne hq]
   exact same q fun h=>hq (by rw[hk] at h;exact Option.some.inj h)
 rcases hop with⟨ht,rfl,hq⟩ | ⟨k,T,cs,ht,hnew,rfl,hnb⟩ | ⟨k,t,x,y,off,u,T,cs,ht,hnew,hopx,hex,hey,hkc,hszt,hoff,hone,rfl,rfl⟩
 ·
  have hsame:ownS tg es ((List.range ops.size).filter fun j=>(listed.setIfInBounds i true).getD j false) (σ.own++pad)=ownS tg es ((List.range ops.size).filter fun j=>listed.getD j false) (σ.own++pad):=by
   apply List.ext_getElem?
   intro k
   exact same k (by rw[ht];simp)
  rcases hq ρ a w hst with hrun | ⟨f,args,hrun,hcall⟩
  ·
   rw[hrun,Oper.upon_value]
   exact hK _ _ (mk ρ _ w hag rfl (fun _ _ _ _=>rfl) (by rw[hsame];exact hB))
  ·
   rw[hrun,Oper.upon_enter]
   refine Calls.mono hcall fun e' w' ⟨h1,h2⟩=>?_
   subst h1
   exact hK _ _ (mk ρ _ w' hag rfl (fun _ _ _ _=>rfl) (by rw[hsame];exact hB.below h2))
 ·
  obtain⟨hkM,hkg,hkn⟩:=H.tgt i p hp k ht
  obtain⟨hmk,hfirst⟩:=hkn hnew
  have hmx:∀ j q,j<pls.length→nth pls j=some q→i∈q.bef∨((j=i∨∀ u,nth vs j=some u→ment k u=false)∧(∀ u,nth es j=some u→mentO k u=false)):=fun j q hj hq=>by
   have hpl:=H.hpl
   have h1:=List.all_eq_true.1 ok4 i (List.mem_range.2 (by omega))
   simp only[hp,hnew,ht] at h1
   have h2:=List.all_eq_true.1 h1 j (List.mem_range.2 hj)
   simp only[hq,Bool.or_eq_true,Bool.and_eq_true,beq_iff_eq,List.contains_iff_mem] at h2
   rcases h2 with h | h
   · exact .inl h
   ·
    refine .inr ⟨?_,fun u hu=>?_⟩
    ·
     rcases h.1 with h3 | h3
     · exact .inl h3
     ·
      refine .inr fun u hu=>?_
      rw[hu] at h3;simpa using h3
    · have:=h.2;rw[hu] at this;simpa using this
  have hnot:∀ j,listed.getD j false=true→(∀ u,nth vs j=some u→ment k u=false)∧(∀ u,nth es j=some u→mentO k u=false):=fun j hj=>by
   by_cases hjs:j<pls.length
   ·
    obtain⟨q,hq⟩:∃ q,nth pls j=some q:=⟨pls[j],by rw[nth_eq];exact List.getElem?_eq_getElem hjs⟩
    rcases hmx j q hjs hq with h | ⟨h | h,h'⟩
    · exact absurd (show i∈befOf pls j by unfold befOf;rw[hq];exact h) (hlater j hj)
    · subst h;rw[hni] at hj;cases hj
    · exact⟨h,h'⟩
   ·
    have hpl:=H.hpl
    exact⟨fun u hu=>(by rw[nth_eq,List.getElem?_eq_none (by omega)] at hu;cases hu),fun u hu=>(by rw[nth_eq,List.getElem?_eq_none (by omega)] at hu;cases hu)⟩
  have hdead:(ownS tg es ((List.range ops.size).filter fun j=>listed.getD j false) (σ.own++pad))[k]?=some .dead:=by
   have h1:=ownS_same (tg:=tg) es k (σ.own++pad) (N:=ops.size) (fun j=>listed.getD j false) (fun _=>false) fun j hj hq=>by
    by_cases hji:j=i
    · subst hji;exact hni
    ·
     cases hl:listed.getD j false with
     | false=>rfl
     |
      true=>
      rcases Nat.lt_or_ge j i with h | h
      · exact absurd hq (hfirst j h)
      · exact absurd (((H.oth i p hp j hj hji k hq).1 ht).2 (by omega)) (hlater j hl)
   rw[h1,show(List.range ops.size).filter (fun _=>false)=[] from List.filter_eq_nil_iff.2 fun _ _=>by simp]
   show(σ.own++pad)[k]?=_
   rw[List.getElem?_append_right hmk]
   have:k - σ.own.length<pad.length:=by omega
   rw[List.getElem?_eq_getElem this,hpad _ (List.getElem_mem this)]
  have hbcs:bndL (σ.own.length+pad.length) cs=true:=by
   have:=List.all_eq_true.1 ok2 _ (List.mem_of_getElem? (by rw[← nth_eq];exact he))
   exact this
  have hmcs:mentL k cs=false:=by
   have hpl:=H.hpl
   rcases hmx i p (by omega) hp with h | ⟨_,h⟩
   · exact absurd (hblt i h) (Nat.lt_irrefl i)
   · exact h _ he
  rw[hnb ρ a w hst,Oper.upon_value]
  refine hK _ _ (mk (upd ρ k w.heap.size) _ _ (fun q hq=>?_) rfl (fun j u hj hu=>den_ment ρ u ((hnot j hj).1 u hu)) ?_)
  ·
   have:q≠k:=by omega
   simp[upd,this,hag q hq]
  ·
   rw[turned k _ ht rfl]
   refine hB.place hdead (by rw[hlen];exact hbcs) hmcs fun j o' hj=>?_
   rcases ownS_from _ _ _ _ hj with h | ⟨l,hl,h⟩
   ·
    rcases Nat.lt_or_ge j σ.own.length with hjm | hjm
    ·
     rw[List.getElem?_append_left hjm] at h
     exact bndO_ment hmk (List.all_eq_true.1 ok0 o' (List.mem_of_getElem? h))
    ·
     rw[List.getElem?_append_right hjm] at h
     rw[hpad _ (List.mem_of_getElem? h)]
     rfl
   · exact(hnot l (List.mem_filter.1 hl).2).2 _ h
 ·
  have hkg:=(H.tgt i p hp k ht).2.1
  rw[nth_eq,hown k hkg] at hkc
  have hfull:Sat ρ { stAt σ ds tg pad vs es p with own:=ownS tg es ((List.range ops.size).filter fun j=>listed.getD j false) (σ.own++pad) } a w:=by
   refine⟨hta,hde,fun t' u' h=>?_,hB.same rfl rfl⟩
   obtain⟨h1,h2⟩:=henv t' u' h
   exact⟨h1,fun ρ' hρ=>h2 ρ' (by rw[show({ stAt σ ds tg pad vs es p with own:=ownS tg es ((List.range ops.size).filter fun j=>listed.getD j false) (σ.own++pad) }:St).own.length=σ.own.length+pad.length from hlen _] at hρ;exact hρ)⟩
  have hstore:storeS P { stAt σ ds tg pad vs es p with own:=ownS tg es ((List.range ops.size).filter fun j=>listed.getD j false) (σ.own++pad) } t u (.loc k off)=some (setOwn { stAt σ ds tg pad vs es p with own:=ownS tg es ((List.range ops.size).filter fun j=>listed.getD j false) (σ.own++pad) } k (.cells T (splice cs off (cellsS u)))):=by
   simp only[storeS,nth_eq,hkc,hszt,if_true,if_pos hoff,hone]
  have hu:∀ ρ',Agree ({ stAt σ ds tg pad vs es p with own:=ownS tg es ((List.range ops.size).filter fun j=>listed.getD j false) (σ.own++pad) }:St).own.length ρ ρ'→den ρ' u=den ρ u:=fun ρ' hρ=>by
   rw[← hfull.ev (x:=y) hey ρ' hρ,← hfull.ev (x:=y) hey ρ (Agree.refl _ _)]
  obtain⟨w',hrun,hs'⟩:=storeS_run hfull hu hstore
  have hexec:(execOp a.eval oi).run P w=.ok .skip w':=by
   unfold execOp
   rw[hopx]
   simp only[Sem.run_bind,hst.ev hex ρ (Agree.refl _ _),hst.ev hey ρ (Agree.refl _ _)]
   rw[hrun]
   rfl
  rw[hexec,Oper.upon_skip]
  refine hK _ _ (mk ρ _ w' hag rfl (fun _ _ _ _=>rfl) ?_)
  rw[turned k _ ht rfl,← setN_eq]
  exact hs'.base.same rfl rfl
theorem filter_one:∀ (l:List Nat) (q:Nat→Bool) (i:Nat),l.Nodup→i∈l→q i=true→(l.filter fun j=>q j && !(i == j)).length+1=(l.filter q).length
 | [],q,i,_,hi,_=>by cases hi
 |
  x::l,q,i,hn,hi,hq=>by
  rw[List.nodup_cons] at hn
  by_cases hx:i=x
  ·
   subst hx
   rw[List.filter_cons_of_neg (by simp),List.filter_cons_of_pos hq,List.length_cons]
   congr 2
   refine List.filter_congr fun j hj=>?_
   have:i≠j:=fun h=>hn.1 (h ▸ hj)
   simp[this]
  ·
   have hil:i∈l:=by
    rcases List.mem_cons.1 hi with h | h
    · exact absurd h hx
    · exact h
   have ih:=filter_one l q i hn.2 hil hq
   by_cases hqx:q x=true
   ·
    rw[List.filter_cons_of_pos (by simp[hqx,hx]),List.filter_cons_of_pos hqx,List.length_cons,List.length_cons]
    omega
   ·
    rw[List.filter_cons_of_neg (by simp[hqx]),List.filter_cons_of_neg hqx]
    exact ih
theorem S_any {pls:List Pl} {vs:List SV} {es:List (Option Own)} {ρ0:Nat→Nat} {a0:Act} {w0:World} {Q':Exit→Act→World→Prop}
  (hpad:∀ x,x∈pad→x=.dead) (H:PlanOK ops ds tg pls σ.n σ.own.length (σ.own.length+pad.length)) (h0:Sat ρ0 σ a0 w0) (hok:okAll pls vs es σ.own (σ.own.length+pad.length)=true) (hlv:vs.length=ops.size) (hle:es.length=ops.size)
  (hops:∀ i o p,ops[i]?=some o→nth pls i=some p→∃ s e,nth vs i=some s∧nth es i=some e∧OpOK P ds (stAt σ ds tg pad vs es p) p o s e)
  (hQ:∀ listed a w,SInv ops ds tg pls σ pad vs es ρ0 a0 listed a w→(∀ i,i<ops.size→listed.getD i false=true)→Q' .normal a w) :
  ∀ (f:Nat) (listed:Array Bool) (a:Act) (w:World),((List.range ops.size).filter fun j=>!listed.getD j false).length=f→SInv ops ds tg pls σ pad vs es ρ0 a0 listed a w→wpAny P .any ops Q' f listed a w
 |
  0,listed,a,w,hf,inv=>by
  have hall:∀ i,i<ops.size→listed.getD i false=true:=fun i hi=>by
   have h1:=List.eq_nil_of_length_eq_zero hf
   rw[List.filter_eq_nil_iff] at h1
   simpa using h1 i (List.mem_range.2 hi)
  refine⟨?_,hQ listed a w inv hall⟩
  cases hr:Region.ready .any ops listed with
  | nil=>rfl
  |
   cons i l=>
   have:i∈Region.ready .any ops listed:=by rw[hr];simp
   obtain⟨h1,o,h2,_⟩:=mem_ready.1 this
   have h3:=hall i (Array.getElem?_eq_some_iff.1 h2).1
   rw[getD_both h1] at h3;cases h3
 |
  f+1,listed,a,w,hf,inv=>by
  have hne:Region.ready .any ops listed≠[]:=by
   have hex:∃ i,i<ops.size∧listed.getD i false=false:=by
    cases hl:(List.range ops.size).filter fun j=>!listed.getD j false with
    | nil=>rw[hl] at hf;simp at hf
    |
     cons i l=>
     have:i∈(List.range ops.size).filter fun j=>!listed.getD j false:=by rw[hl];simp
     obtain⟨h1,h2⟩:=List.mem_filter.1 this
     exact⟨i,List.mem_range.1 h1,by simpa using h2⟩
   have key:∀ n i,i<n→i<ops.size→listed.getD i false=false→Region.ready .any ops listed≠[]:=by
    intro n
    induction n with
    | zero=>intro i h;omega
    |
     succ n ih=>
     intro i hin hi hl
     by_cases hr:i∈Region.ready .any ops listed
     · exact fun h=>by rw[h] at hr;cases hr
     ·
      have ho:ops[i]?=some ops[i]:=Array.getElem?_eq_getElem hi
      have hun:listed.getD i true=false:=getD_in (by rw[inv.1];exact hi) hl
      have:∃ e,e∈(ops[i]).after∧Region.binds .any e=true∧listed.getD e.on false=false:=by
       by_cases h:∃ e,e∈(ops[i]).after∧Region.binds .any e=true∧listed.getD e.on false=false
       · exact h
       · exact absurd (mem_ready.2 ⟨hun,ops[i],ho,fun e he hb=>by
         cases hx:listed.getD e.on false with
         | true=>rfl
         | false=>exact absurd ⟨e,he,hb,hx⟩ h⟩) hr
      obtain⟨e,he,hb,hx⟩:=this
      have hlt:e.on<i:=H.dir i e he hb ho
      exact ih e.on (by omega) (by omega) hx
   obtain⟨i,h1,h2⟩:=hex
   exact key (i+1) i (by omega) h1 h2
  refine⟨fun h=>absurd h hne,fun i hi=>?_⟩
  obtain⟨hun,o,ho,_⟩:=mem_ready.1 hi
  have his:=(Array.getElem?_eq_some_iff.1 ho).1
  have hpl:=H.hpl
  obtain⟨p,hp⟩:∃ p,nth pls i=some p:=⟨pls[i],by rw[nth_eq];exact List.getElem?_eq_getElem (by omega)⟩
  obtain⟨s,e,hs,he,hop⟩:=hops i o p ho hp
  refine S_step hpad H h0 hok hlv hle inv hi ho hp hs he hop fun a' w' inv'=>S_any hpad H h0 hok hlv hle hops hQ f _ a' w' ?_ inv'
  have hsz:=inv.1
  have h1:=filter_one (List.range ops.size) (fun j=>!listed.getD j false) i List.nodup_range (List.mem_range.2 his) (by simp[getD_both hun])
  have h2:((List.range ops.size).filter fun j=>!(listed.setIfInBounds i true).getD j false)=(List.range ops.size).filter fun j=>(!listed.getD j false) && !(i == j):=by
   refine List.filter_congr fun j hj=>?_
   rw[getD_setT (by omega)]
   by_cases h:i=j
   · simp[h]
   · simp[h]
  rw[h2]
  omega
theorem W.regionS {rO:Option Nat} {id:Nat} (pls:List Pl) (c m n:Nat) (hm:P.follows .mixedOrders=true) (hsm:σ.own.length=m) (hsn:σ.n=n) (hB:planB ops ds tg pls n m (m+c)=true) (hB2:dirB ops=true)
  (h:WS P ds tg σ (List.replicate c .dead) Q ops.size pls ops.toList pls [] []) (hp:rO=none∨(ops.toList.all (fun o=>opPlain o.op)=true∧∀ σ,¬ Q .outgrown σ):=by first | exact .inl rfl | exact .inr ⟨rfl,fun _ h=>h⟩):WR rO P (.region id ops true) Q σ:=fun ρ a w hs=>by
 subst hsm;subst hsn
 have H:=planB_spec hB
 have hD:=dirB_spec hB2
 obtain⟨vs,es,g1,g2,_,g4,g5,g6⟩:=WS.all ops.toList pls [] [] h (by rw[H.hpl];simp) rfl
 have hlv:vs.length=ops.size:=by simpa using g1
 have hpadl:(List.replicate c Own.dead).length=c:=by simp
 suffices key:wpAny P .any ops (lift Q) ops.size (Array.replicate ops.size false) a { w with drawn:=w.drawn+1 } by
  rcases hp with rfl | ⟨h1,h2⟩
  · exact of_wp (wp_region_any hm key)
  ·
   refine wpIn_region_draw fun t=>?_
   simp only[Region.schedule,hm,Bool.true_or,if_true]
   exact wpOps_in (letsOut_lift h2) h1 _ _ _ (wpAny_sound ops.size t _ a _ key)
 have hs':Sat ρ σ a { w with drawn:=w.drawn+1 }:=hs.below (below_drew w)
 have inv0:SInv ops ds tg pls σ (List.replicate c .dead) vs es ρ a (Array.replicate ops.size false) a { w with drawn:=w.drawn+1 }:=by
  refine⟨by simp,fun i hi=>(by rw[getD_replicate_false] at hi;cases hi),hs.size,hs.defers,ρ,Agree.refl _ _,fun i d s hi=>(by rw[getD_replicate_false] at hi;cases hi),fun t _=>rfl,?_⟩
  have:((List.range ops.size).filter fun j=>(Array.replicate ops.size false).getD j false)=[]:=by
   rw[List.filter_eq_nil_iff];intro j _;rw[getD_replicate_false];simp
  rw[this]
  exact hs'.base.pads (fun x hx=>(List.mem_replicate.1 hx).2)
 have hfin:∀ listed a' w',SInv ops ds tg pls σ (List.replicate c .dead) vs es ρ a listed a' w'→(∀ i,i<ops.size→listed.getD i false=true)→lift Q .normal a' w':=fun listed a' w' inv hall=>by
  obtain⟨hsz,hcl,hta,hde,ρ',hag,E1,E0,hBs⟩:=inv
  have hfl:((List.range ops.size).filter fun j=>listed.getD j false)=List.range ops.size:=by
   rw[List.filter_eq_self];intro j hj;exact hall j (List.mem_range.1 hj)
  rw[hfl] at hBs
  simp only[okAll,Bool.and_eq_true] at g4
  obtain⟨⟨⟨⟨ok0,ok1⟩,ok2⟩,ok3⟩,ok4⟩:=g4
  refine⟨ρ',finS σ ds tg (List.replicate c .dead) ops.size vs es,⟨hta,hde,fun t u hg=>?_,hBs.same rfl rfl⟩,g5⟩
  have hol:(finS σ ds tg (List.replicate c .dead) ops.size vs es).own.length=σ.own.length+c:=by simp[finS,ownS_len]
  rw[hol]
  simp only[finS] at hg
  rw[getE_app] at hg
  split at hg
  ·
   rename_i u' h1
   obtain rfl:=Option.some.inj hg
   obtain⟨j,hj,hd,hv⟩:=envR_get h1
   refine⟨H.hdn j t hd,fun ρ'' hρ=>?_⟩
   rw[E1 j t u' (hall j (List.mem_range.1 hj)) hd hv]
   rw[nth_eq] at hv
   rw[den_agree hρ u' (by have:=List.all_eq_true.1 ok1 u' (List.mem_of_getElem? hv);rwa [hpadl] at this)]
  ·
   rename_i h1
   obtain⟨h2,h3⟩:=hs.env t u hg
   refine⟨h2,fun ρ'' hρ=>?_⟩
   rw[E0 t fun j hj hd=>?_]
   · exact h3 ρ'' fun q hq=>by rw[hρ q (by omega),hag q hq]
   ·
    have hjs:j<ops.size:=by
     have:=(List.getElem?_eq_some_iff.1 (by rw[← nth_eq];exact hd)).1
     rw[H.hdl] at this;exact this
    have:=envR_none h1 j (List.mem_range.2 hjs) hd
    rw[nth_eq,List.getElem?_eq_getElem (by omega)] at this
    cases this
 have hcount:((List.range ops.size).filter fun j=>!(Array.replicate ops.size false).getD j false).length=ops.size:=by
  rw[List.filter_eq_self.2 (fun j _=>by rw[getD_replicate_false];rfl),List.length_range]
 refine S_any (P:=P) (Q':=lift Q) (fun x hx=>(List.mem_replicate.1 hx).2) ⟨by rw[hpadl];exact H,hD⟩ hs' g4 hlv (by rw[g2,hlv]) (fun i o p ho hp=>?_) hfin _ _ _ _ hcount inv0
 obtain⟨s,e,h1,h2,h3⟩:=g6 i o p (by simpa using ho) (by rw[← nth_eq];exact hp)
 simp only[List.length_nil,Nat.zero_add] at h1 h2 h3
 refine⟨s,e,h1,h2,?_⟩
 have hbl:∀ j,j∈p.bef→j<i:=fun j hj=>by
  rw[H.bef i p hp] at hj
  exact List.mem_range.1 (List.mem_filter.1 hj).1
 have:stAt σ ds tg (List.replicate c .dead) (vs.take i) (es.take i) p=stAt σ ds tg (List.replicate c .dead) vs es p:=by
  simp only[stAt,envR_take vs p.rd fun j hj=>hbl j (H.rdb i p hp j hj),ownS_take es p.bef _ hbl]
 rwa [this] at h3
section
variable {N:Nat} {pls:List Pl} {o o1 o2:Oper} {l:List Oper} {p p1 p2:Pl} {ps:List Pl} {vs:List SV} {es:List (Option Own)}
theorem WS.quiet (s:SV) (hg:gd ds (stAt σ ds tg pad vs es p) o.guard=some true) (ht:p.tgt=none) (hq:QB P o (stAt σ ds tg pad vs es p) s) (k:WS P ds tg σ pad Q N pls l ps (vs++[s]) (es++[none])):WS P ds tg σ pad Q N pls (o::l) (p::ps) vs es:=
 ⟨s,none,⟨hg,.inl ⟨ht,rfl,hq⟩⟩,k⟩
def RunP (r:Option St) (K:SV→Prop):Prop:=match r with
 |
  some σ'=>match σ'.env with
  | (_,s)::_=>K s
  | []=>False
 | none=>False
theorem WS.go (hg:gd ds (stAt σ ds tg pad vs es p) o.guard=some true) (ht:p.tgt=none) (hm:isMem o.op=false) (h:RunP (step P (stAt σ ds tg pad vs es p) (some 0) o.op) fun s=>WS P ds tg σ pad Q N pls l ps (vs++[s]) (es++[none])):WS P ds tg σ pad Q N pls (o::l) (p::ps) vs es:=by
 cases hst:step P (stAt σ ds tg pad vs es p) (some 0) o.op with
 | none=>rw[hst] at h;exact h.elim
 |
  some σ'=>
  rw[hst] at h
  obtain⟨s,h1,h2,rfl⟩:=step_opv hm hst
  refine WS.quiet s hg ht (fun ρ a w hs=>?_) h
  obtain⟨v,h3,h4⟩:=opv_sound hs h1
  exact .inl (by rw[h3,h4 ρ (Agree.refl _ _)])
theorem WS.call {f:FuncId} {ss:List SV} (v:Value) (hg:gd ds (stAt σ ds tg pad vs es p) o.guard=some true) (ht:p.tgt=none) (hc:callS (stAt σ ds tg pad vs es p) o.op=some (f,ss)) (hf:callOk P f=true)
  (h:∀ ρ w,Base ρ (stAt σ ds tg pad vs es p) w→Gives P f (denL ρ ss).toArray w fun v' _=>v'=v) (k:WS P ds tg σ pad Q N pls l ps (vs++[.val v]) (es++[none])):WS P ds tg σ pad Q N pls (o::l) (p::ps) vs es:=by
 refine WS.quiet (.val v) hg ht (fun ρ a w hs=>.inr ⟨f,(denL ρ ss).toArray,callS_run hs hf hc,?_⟩) k
 refine Calls.mono (h ρ w hs.base) fun e w' ⟨v',he,hb,hv⟩=>?_
 subst he;subst hv
 exact⟨rfl,hb⟩
theorem WS.alloc {T k:Nat} {z:List SV} (hg:gd ds (stAt σ ds tg pad vs es p) o.guard=some true) (hop:o.op=.alloc T) (hz:zeroS P T=some z) (ht:p.tgt=some k) (hn:p.new=true)
  (h:WS P ds tg σ pad Q N pls l ps (vs++[.loc k 0]) (es++[some (.cells T z)])):WS P ds tg σ pad Q N pls (o::l) (p::ps) vs es:=by
 refine⟨.loc k 0,some (.cells T z),⟨hg,.inr (.inl ⟨k,T,z,ht,hn,rfl,fun ρ a w hs=>?_⟩)⟩,h⟩
 unfold execOp
 rw[hop]
 unfold zeroS at hz
 cases hi:P.info? T with
 | none=>simp[hi] at hz
 |
  some i=>
  cases hzz:i.zero with
  | none=>simp[hi,hzz] at hz
  |
   some zv=>
   simp only[hi,hzz,Option.bind_some,Option.map_some,Option.some.injEq] at hz
   have hzc:zv.cells=(denL ρ z).toArray:=by rw[← hz,denL_val]
   rw[← hzc]
   simp[Instr.alloc,zeroValue,typeInfo,hi,hzz,newVar,newRow,den,upd]
theorem WS.store {t:TypeId} {x y:Operand} {k off:Nat} {u:SV} {T:TypeId} {cs:List SV} (hg:gd ds (stAt σ ds tg pad vs es p) o.guard=some true) (hop:o.op=.store t x y) (ht:p.tgt=some k) (hn:p.new=false) (hx:ev (stAt σ ds tg pad vs es p) x=some (.loc k off)) (hy:ev (stAt σ ds tg pad vs es p) y=some u)
  (hk:nth (stAt σ ds tg pad vs es p).own k=some (.cells T cs)) (hz:szOf P t=some (cellsS u).length) (hoff:off+(cellsS u).length≤cs.length) (h1:(cellsS u).all oneS=true)
  (h:WS P ds tg σ pad Q N pls l ps (vs++[.val undef]) (es++[some (.cells T (splice cs off (cellsS u)))])):WS P ds tg σ pad Q N pls (o::l) (p::ps) vs es:=
 ⟨_,_,⟨hg,.inr (.inr ⟨k,t,x,y,off,u,T,cs,ht,hn,hop,hx,hy,hk,hz,hoff,h1,rfl,rfl⟩)⟩,h⟩
theorem WS.index {t e:TypeId} {x ix:Operand} {q:Addr} {n c sz:Nat} {k:IntKind} {i:Int} (hg:gd ds (stAt σ ds tg pad vs es p) o.guard=some true) (ht:p.tgt=none) (hop:o.op=.indexAddr t x ix) (hx:ev (stAt σ ds tg pad vs es p) x=some (.val (.slice (some q) n c))) (hi:ev (stAt σ ds tg pad vs es p) ix=some (.val (.int k i))) (he:elemSz P t=some (e,sz))
  (h0:0≤i) (h1:i<n) (h:WS P ds tg σ pad Q N pls l ps (vs++[.val (.pointer (some (q.add (i.toNat*sz))))]) (es++[none])):WS P ds tg σ pad Q N pls (o::l) (p::ps) vs es:=by
 refine WS.quiet _ hg ht (fun ρ a w hs=>.inl ?_) h
 unfold execOp
 rw[hop]
 simp only[Sem.run_bind,hs.ev hx ρ (Agree.refl _ _),hs.ev hi ρ (Agree.refl _ _),den,run_indexAt he h0 h1,Result.andThen_ok,Sem.run_pure]
theorem WS.load {t:TypeId} {x:Operand} {q:Addr} (cs:List Value) (agg:Bool) (hg:gd ds (stAt σ ds tg pad vs es p) o.guard=some true) (ht:p.tgt=none) (hop:o.op=.load t x) (hx:ev (stAt σ ds tg pad vs es p) x=some (.val (.pointer (some q)))) (ha:aggB P t=some agg) (hn:szOf P t=some cs.length) (h1:agg=true∨cs.length=1)
  (hat:∀ ρ w,Base ρ (stAt σ ds tg pad vs es p) w→At w q cs) (h:WS P ds tg σ pad Q N pls l ps (vs++[.val (ofCells agg cs)]) (es++[none])):WS P ds tg σ pad Q N pls (o::l) (p::ps) vs es:=by
 refine WS.quiet _ hg ht (fun ρ a w hs=>.inl ?_) h
 unfold execOp
 rw[hop]
 simp only[Sem.run_bind,hs.ev hx ρ (Agree.refl _ _),den,Instr.loadAt,Instr.sureAddr,Sem.run_pure,Result.andThen_ok]
 rw[(hat ρ w hs.base).load ha hn (fun hf=>by rcases h1 with h1 | h1;rw[hf] at h1;cases h1;exact h1)]
 rfl
theorem WS.elem {α:Type} {A:Rp α} {S:Nat→Prop} {sw:World} {v:Value} {xs:List α} {y:α} {t e:TypeId} {x ix:Operand} {k:IntKind} {i:Int} {d1:Nat} {agg:Bool}
  (hl:(Rp.slice A).rd S sw [v] xs) (hm:(S,sw)∈σ.snaps) (hg:gd ds (stAt σ ds tg pad vs es p1) o1.guard=some true) (ht:p1.tgt=none) (hg2:∀ u,gd ds (stAt σ ds tg pad (vs++[u]) (es++[none]) p2) o2.guard=some true) (ht2:p2.tgt=none)
  (hop:o1.op=.indexAddr t x ix) (hop2:o2.op=.load e (.tmp d1)) (hev:∀ u,ev (stAt σ ds tg pad (vs++[u]) (es++[none]) p2) (.tmp d1)=some u)
  (hx:ev (stAt σ ds tg pad vs es p1) x=some (.val v)) (hi:ev (stAt σ ds tg pad vs es p1) ix=some (.val (.int k i))) (he:elemSz P t=some (e,A.sz))
  (ha:aggB P e=some agg) (hn:szOf P e=some A.sz) (h1:agg=true∨A.sz=1) (h0:0≤i) (hy:xs[i.toNat]?=some y)
  (hk:∀ q ces,A.rd S sw ces y→WS P ds tg σ pad Q N pls l ps (vs++[.val (.pointer (some q))]++[.val (ofCells agg ces)]) (es++[none]++[none])):WS P ds tg σ pad Q N pls (o1::o2::l) (p1::p2::ps) vs es:=by
 obtain⟨q,n,c,hv,hnl,hnc,hcm,hel⟩:=hl
 simp only[List.cons.injEq,and_true] at hv
 subst hv
 have hlt:i.toNat<xs.length:=(List.getElem?_eq_some_iff.1 hy).1
 rcases hel with h | ⟨a,rfl,hS,hsz,hel⟩
 · subst h;simp at hlt
 obtain⟨ces,hat,hrd⟩:=hel _ y hy
 refine WS.index hg ht hop hx hi he h0 (by omega) ?_
 refine WS.load (q:=a.add (i.toNat*A.sz)) ces agg (hg2 _) ht2 hop2 (hev _) ha (by rw[A.len hrd];exact hn) (by rw[A.len hrd];exact h1) (fun ρ w hb=>hat.frame ?_) (hk _ ces hrd)
 rw[block_add]
 exact((hb.keep _ (show(S,sw)∈(stAt σ ds tg pad (vs++[_]) (es++[none]) p2).snaps from hm)).1).block _ hS hsz
theorem WS.nil (ix:List Nat) (hix:List.range N=ix) (hok:okAll pls vs es σ.own (σ.own.length+pad.length)=true) (h:Q .normal ⟨σ.n,envR ds vs ix++σ.env,ownS tg es ix (σ.own++pad),σ.snaps,σ.dfs⟩):WS P ds tg σ pad Q N pls [] ps vs es:=by
 subst hix;exact⟨hok,h⟩
end
def or1 (d:Option (Option Nat)) (s:Option SV) (E:List (Nat×SV)):List (Nat×SV):=match d,s with
 | some (some d),some s=>(d,s)::E
 | _,_=>E
def os1 (O:List Own) (t:Option (Option Nat)) (e:Option (Option Own)):List Own:=match t,e with
 | some (some k),some (some o)=>setN O k o
 | _,_=>O
theorem so_1 (vs:List SV) (j:Nat) (l:List Nat):envR ds vs (j::l)=or1 (nth ds j) (nth vs j) (envR ds vs l):=by
 simp only[envR,or1]
theorem so_2 (es:List (Option Own)) (j:Nat) (l:List Nat) (O:List Own):ownS tg es (j::l) O=ownS tg es l (os1 O (nth tg j) (nth es j)):=by
 simp only[ownS,os1]
theorem so_3 (e0:List (Nat×SV)) (t:Nat) (l:List Nat):envO e0 (t::l)=kp2 (getE e0 t) t (envO e0 l):=by
 simp only[envO,kp2]
theorem sxs:(∀ {n:Nat} {e:List (Nat×SV)} {O:List Own} {sn:List ((Nat→Prop)×World)} {F:List Dm} {ds tg:List (Option Nat)} {pad:List Own} {vs:List SV} {es:List (Option Own)} (bef rd old gone:List Nat) (t:Option Nat) (b:Bool),stAt ⟨n,e,O,sn,F⟩ ds tg pad vs es ⟨bef,rd,old,gone,t,b⟩=⟨n,envR ds vs rd++envO e old,killG gone (ownS tg es bef (O++pad)),sn,F⟩) ∧
  (∀ {ds:List (Option Nat)} (vs:List SV),envR ds vs []=[])∧(∀ {ds:List (Option Nat)} (vs:List SV) (j:Nat) (l:List Nat),envR ds vs (j::l)=or1 (nth ds j) (nth vs j) (envR ds vs l))∧(∀ (d:Nat) (s:SV) (E:List (Nat×SV)),or1 (some (some d)) (some s) E=(d,s)::E)∧(∀ (s:Option SV) (E:List (Nat×SV)),or1 (some none) s E=E) ∧
  (∀ {tg:List (Option Nat)} (es:List (Option Own)) (O:List Own),ownS tg es [] O=O)∧(∀ {tg:List (Option Nat)} (es:List (Option Own)) (j:Nat) (l:List Nat) (O:List Own),ownS tg es (j::l) O=ownS tg es l (os1 O (nth tg j) (nth es j)))∧(∀ (O:List Own) (e:Option (Option Own)),os1 O (some none) e=O)∧(∀ (O:List Own) (k:Nat) (o:Own),os1 O (some (some k)) (some (some o))=setN O k o) ∧
  (∀ (e0:List (Nat×SV)),envO e0 []=[])∧(∀ (e0:List (Nat×SV)) (t:Nat) (l:List Nat),envO e0 (t::l)=kp2 (getE e0 t) t (envO e0 l))∧(∀ (s:SV) (t:Nat) (E:List (Nat×SV)),kp2 (some s) t E=(t,s)::E)∧(∀ (t:Nat) (E:List (Nat×SV)),kp2 none t E=E) ∧
  (∀ O:List Own,killG [] O=O)∧(∀ (k:Nat) (l:List Nat) (O:List Own),killG (k::l) O=killG l (setN O k .dead))∧(∀ (n d:Nat) (s:SV) (e:List (Nat×SV)) (O:List Own) (sn:List ((Nat→Prop)×World)) (F:List Dm) (K:SV→Prop),RunP (some ⟨n,(d,s)::e,O,sn,F⟩) K=K s):=
 ⟨fun _ _ _ _ _ _=>rfl,fun _=>rfl,fun vs j l=>so_1 vs j l,fun _ _ _=>rfl,fun _ _=>rfl,fun _ _=>rfl,fun es j l O=>so_2 es j l O,fun _ _=>rfl,fun _ _ _=>rfl,fun _=>rfl,fun e0 t l=>so_3 e0 t l,fun _ _ _=>rfl,fun _ _=>rfl,fun _=>rfl,fun _ _ _=>rfl,fun _ _ _ _ _ _ _ _=>rfl⟩
end
section
variable {P:Program} {ops:Array Oper} {Q:Exit→St→Prop} {σ:St} {l:List Oper} {o o1 o2:Oper} {rest:List Oper} {ds:List (Option Nat)} {K:St→Prop}
def QR (P:Program) (o:Oper) (σ:St) (s:SV):Prop:=∀ ρ a w,Sat ρ σ a w→∃ v,(execOp a.eval o).run P w=.ok (.value v) w∧∀ ρ',Agree σ.own.length ρ ρ'→v=den ρ' s
theorem WO.q {s:SV} (hds:dsOk ds ops.toList=true) (hg:gd ds σ o.guard=some true) (hd:dOk σ o.dst=true) (h:QR P o σ s) (k:WO P ops Q rest (σ.put o.dst s)):WO P ops Q (o::rest) σ:=
 WO.one hds hg fun ρ a w hs=>by
  obtain⟨v,h1,h2⟩:=h ρ a w hs
  exact⟨ρ,_,v,w,.inl h1,hs.put _ _ _ (dOk_lt hd) h2,k⟩
theorem WQ.q {s:SV} (hds:dsOk ds ops.toList=true) (hg:gd ds σ o.guard=some true) (hd:dOk σ o.dst=true) (h:QR P o σ s) (k:WQ P ops K rest (σ.put o.dst s)):WQ P ops K (o::rest) σ:=
 WQ.one hds hg hd s h k
theorem WS.q {N:Nat} {tg:List (Option Nat)} {pad:List Own} {pls ps:List Pl} {p:Pl} {vs:List SV} {es:List (Option Own)} {s:SV} (hg:gd ds (stAt σ ds tg pad vs es p) o.guard=some true) (ht:p.tgt=none)
  (h:QR P o (stAt σ ds tg pad vs es p) s) (k:WS P ds tg σ pad Q N pls l ps (vs++[s]) (es++[none])):WS P ds tg σ pad Q N pls (o::l) (p::ps) vs es:=
 WS.quiet s hg ht (fun ρ a w hs=>by
  obtain⟨v,h1,h2⟩:=h ρ a w hs
  exact .inl (by rw[h1,h2 ρ (Agree.refl _ _)])) k
theorem QR.idx {t e:TypeId} {x ix:Operand} {q:Addr} {n c sz:Nat} {kk:IntKind} {i:Int} (hop:o.op=.indexAddr t x ix) (hx:ev σ x=some (.val (.slice (some q) n c))) (hi:ev σ ix=some (.val (.int kk i))) (he:elemSz P t=some (e,sz))
  (h0:0≤i) (h1:i<n):QR P o σ (.val (.pointer (some (q.add (i.toNat*sz))))):=fun ρ a w hs=>by
 refine⟨_,?_,fun _ _=>rfl⟩
 unfold execOp
 rw[hop]
 simp only[Sem.run_bind,hs.ev hx ρ (Agree.refl _ _),hs.ev hi ρ (Agree.refl _ _),den,run_indexAt he h0 h1,Result.andThen_ok,Sem.run_pure]
theorem QR.load {t:TypeId} {x:Operand} {q:Addr} (cs:List Value) (agg:Bool) (hop:o.op=.load t x) (hx:ev σ x=some (.val (.pointer (some q)))) (ha:aggB P t=some agg) (hn:szOf P t=some cs.length) (h1:agg=true∨cs.length=1)
  (hat:∀ ρ w,Base ρ σ w→At w q cs):QR P o σ (.val (ofCells agg cs)):=fun ρ a w hs=>by
 refine⟨_,?_,fun _ _=>rfl⟩
 unfold execOp
 rw[hop]
 simp only[Sem.run_bind,hs.ev hx ρ (Agree.refl _ _),den,Instr.loadAt,Instr.sureAddr,Sem.run_pure,Result.andThen_ok]
 rw[(hat ρ w hs.base).load ha hn (fun hf=>by rcases h1 with h1 | h1;rw[hf] at h1;cases h1;exact h1)]
 rfl
theorem row_at {ρ:Nat→Nat} {w:World} {k b n c sz off m:Nat} {T:TypeId} {xs ys:List Value} (hb:Base ρ σ w) (hk:nth σ.own k=some (.slice T sz (.slice (some ⟨b,0,none⟩) n c) n xs)) (h:(xs.drop off).take m=ys):At w ⟨b,off,none⟩ ys:=by
 have:=(own_at hb hk).part off m
 rw[h,Addr.add_mid] at this
 simpa using this
def pin1 (k b:Nat):SV→SV
 | .loc j off=>if j=k then .val (.pointer (some ⟨b,off,none⟩)) else .loc j off
 | .lsl j off n c=>if j=k then .val (.slice (some ⟨b,off,none⟩) n c) else .lsl j off n c
 | s=>s
def pinS (k b:Nat):SV→SV
 | .fn f fi ca=>.fn f (fi.map (pin1 k b)) (ca.map (pin1 k b))
 | s=>pin1 k b s
def pinE (k b:Nat):List (Nat×SV)→List (Nat×SV)
 | []=>[]
 | (i,s)::l=>(i,pinS k b s)::pinE k b l
theorem den_pin1 {ρ:Nat→Nat} {k b:Nat} (h:ρ k=b) (s:SV):den ρ (pin1 k b s)=den ρ s:=by
 cases s with
 | loc j off=>
         simp only[pin1];split
         · rename_i he;subst he;simp[den,h]
         · rfl
 | lsl j off n c=>
           simp only[pin1];split
           · rename_i he;subst he;simp[den,h]
           · rfl
 | _=>rfl
theorem den_pinS {ρ:Nat→Nat} {k b:Nat} (h:ρ k=b) (s:SV):den ρ (pinS k b s)=den ρ s:=by
 cases s with
 |
  fn f fi ca=>
  simp only[pinS,den,denL_eq,List.map_map]
  have:(den ρ ∘ pin1 k b)=den ρ:=by funext s;exact den_pin1 h s
  rw[this]
 | val x=>exact den_pin1 h (.val x)
 | loc j off=>exact den_pin1 h (.loc j off)
 | lsl j off n c=>exact den_pin1 h (.lsl j off n c)
 | agg x=>exact den_pin1 h (.agg x)
 | tup x=>exact den_pin1 h (.tup x)
theorem pinE_get {k b:Nat}:∀ (l:List (Nat×SV)) (i:Nat) (s:SV),getE (pinE k b l) i=some s→∃ s',getE l i=some s'∧s=pinS k b s'
 | [],i,s,h=>by cases h
 |
  (j,x)::l,i,s,h=>by
  simp only[pinE,getE] at h ⊢
  split at h
  · rename_i he;rw[if_pos he];exact⟨x,rfl,(Option.some.inj h).symm⟩
  · rename_i he;rw[if_neg he];exact pinE_get l i s h
theorem W.pin {rO:Option Nat} {c:Code} {k:Nat} {T:TypeId} {cs:List SV} (vs:List Value) (hk:nth σ.own k=some (.cells T cs)) (hvs:∀ ρ,denL ρ cs=vs) (hl:vs.length≤maxLen)
  (h:∀ b,WR rO P c Q ⟨σ.n,pinE k b σ.env,setN σ.own k (boxO T b vs),σ.snaps,σ.dfs⟩):WR rO P c Q σ:=fun ρ a w hs=>by
 refine h (ρ k) ρ a w ?_
 rw[nth_eq] at hk
 have hkl:k<σ.own.length:=(List.getElem?_eq_some_iff.1 hk).1
 have hh:=hs.base.own k _ hk ρ (Agree.refl _ _)
 simp only[Own.holds,hvs] at hh
 have hget:∀ (j:Nat) (o:Own),(setN σ.own k (boxO T (ρ k) vs))[j]?=some o→(j=k∧o=boxO T (ρ k) vs)∨(j≠k∧σ.own[j]?=some o):=fun j o hj=>by
  rw[setN_eq] at hj
  by_cases he:j=k
  · subst he;rw[List.getElem?_set_self hkl] at hj;exact .inl ⟨rfl,(Option.some.inj hj).symm⟩
  · rw[List.getElem?_set_ne (Ne.symm he)] at hj;exact .inr ⟨he,hj⟩
 have hnum:∀ (j:Nat) (o:Own) (b:Nat),(setN σ.own k (boxO T (ρ k) vs))[j]?=some o→o.num ρ j=some b→∃ o',σ.own[j]?=some o'∧o'.num ρ j=some b:=fun j o b hj hn=>by
  rcases hget j o hj with⟨rfl,rfl⟩ | ⟨_,h1⟩
  · exact⟨_,hk,hn⟩
  · exact⟨o,h1,hn⟩
 refine⟨hs.size,hs.defers,fun i s hi=>?_,⟨fun j o hj ρ' hρ=>?_,fun i j oi oj b hi hj hni hnj=>?_,fun p hp=>⟨(hs.base.keep p hp).1,fun j o b hj hn hS=>?_⟩⟩⟩
 ·
  obtain⟨s',h1,rfl⟩:=pinE_get _ _ _ hi
  refine⟨(hs.env i s' h1).1,fun ρ' hρ=>?_⟩
  have hρ2:Agree σ.own.length ρ ρ':=by simpa [setN_eq] using hρ
  rw[den_pinS (hρ2 k hkl)]
  exact(hs.env i s' h1).2 ρ' hρ2
 ·
  have hρ2:Agree σ.own.length ρ ρ':=by simpa [setN_eq] using hρ
  rcases hget j o hj with⟨rfl,rfl⟩ | ⟨_,h1⟩
  · exact boxO_holds hl hh
  · exact hs.base.own j o h1 ρ' hρ2
 ·
  obtain⟨o1,g1,g2⟩:=hnum i oi b hi hni
  obtain⟨o2,g3,g4⟩:=hnum j oj b hj hnj
  exact hs.base.apart i j o1 o2 b g1 g3 g2 g4
 ·
  obtain⟨o1,g1,g2⟩:=hnum j o b hj hn
  exact(hs.base.keep p hp).2 j o1 b g1 g2 hS
end
section
variable {P:Program} {ops:Array Oper} {Q:Exit→St→Prop} {σ:St} {l:List Oper} {o:Oper} {rest:List Oper} {ds:List (Option Nat)}
def WI (P:Program) (ops:Array Oper) (Q:Exit→St→Prop) (l:List Oper) (σ:St):Prop:=∀ ρ a w,Sat ρ σ a w→wpListIn (Fr none) 0 P ops (lift Q) l a w
theorem WI.region {id:Nat} (h:WI P ops Q ops.toList σ):W P (.region id ops false) Q σ:=fun ρ a w hs=>wpIn_region_list (h ρ a w hs)
def onNormal (K:Act→World→Prop):Exit→Act→World→Prop
 | .normal,a,w=>K a w
 | _,_,_=>False
theorem wpList_in {Q':Exit→Act→World→Prop} {l2:List Oper}:∀ (l:List Oper),l.all (fun o=>opPlain o.op)=true→∀ (a:Act) (w:World),wpList P ops (onNormal fun a w=>wpListIn (Fr none) 0 P ops Q' l2 a w) l a w→wpListIn (Fr none) 0 P ops Q' (l++l2) a w
 | [],_,a,w,h=>h
 |
  o::l,hp,a,w,h=>by
  simp only[List.all_cons,Bool.and_eq_true] at hp
  have hno:¬ LetsOut (onNormal fun a w=>wpListIn (Fr none) 0 P ops Q' l2 a w):=fun⟨_,_,h⟩=>h
  simp only[wpList,List.cons_append,wpListIn] at h ⊢
  split at h
  ·
   rename_i hw
   rw[if_pos hw]
   rcases h with h | ⟨_,h⟩
   ·
    refine⟨fun _ _=>trivial,?_⟩
    rw[semAt_plain hp.1]
    unfold Oper.wp at h
    generalize (execOp a.eval o).run P w=res at h ⊢
    unfold Oper.upon at h
    unfold Oper.uponIn
    split at h
    · exact wpList_in l hp.2 _ _ h
    · exact wpList_in l hp.2 _ _ h
    · exact wpList_in l hp.2 _ _ h
    ·
     refine⟨fun h=>by simp[Fr,Fence.wide] at h,?_⟩
     show CallsIn Fence.wide _ P _ _ _ _
     refine callsIn_wide.2 (Calls.mono h fun e w' h'=>?_)
     cases e with
     | returned v=>exact wpList_in l hp.2 _ _ h'
     | panicked c=>exact h'.elim
     | outgrown=>exact absurd h' hno
    ·
     refine⟨fun h=>by simp[Fr,Fence.wide] at h,?_⟩
     show RowsIn Fence.wide _ P _ _ _ _
     exact fun c cs _=>let ⟨v,w4,h4,h5⟩:=h c cs;⟨v,w4,wpList_in l hp.2 _ _ h4,stepsIn_wide.2 h5⟩
    · exact h.elim
    · exact h.elim
   · exact absurd h hno
  ·
   rename_i hw
   rw[if_neg hw]
   exact⟨fun _ _=>trivial,wpList_in l hp.2 _ _ h⟩
theorem wpList_mono {Q1 Q2:Exit→Act→World→Prop} (hq:∀ e a w,Q1 e a w→Q2 e a w):∀ (l:List Oper) (a:Act) (w:World),wpList P ops Q1 l a w→wpList P ops Q2 l a w
 | [],a,w,h=>hq _ _ _ h
 |
  o::l,a,w,h=>by
  have hlo:LetsOut Q1→LetsOut Q2:=fun⟨a,w,h⟩=>⟨a,w,hq _ _ _ h⟩
  simp only[wpList] at h ⊢
  split at h
  ·
   rename_i hw
   rw[if_pos hw]
   rcases h with h | ⟨h1,h⟩
   ·
    left
    unfold Oper.wp at h ⊢
    generalize (execOp a.eval o).run P w=res at h ⊢
    unfold Oper.upon at h ⊢
    split at h
    · exact wpList_mono hq l _ _ h
    · exact wpList_mono hq l _ _ h
    · exact wpList_mono hq l _ _ h
    ·
     refine Calls.mono h fun e w' h'=>?_
     cases e with
     | returned v=>exact wpList_mono hq l _ _ h'
     | panicked c=>exact hq _ _ _ h'
     | outgrown=>exact hlo h'
    · exact fun c cs=>let ⟨v,w4,h4,h5⟩:=h c cs;⟨v,w4,wpList_mono hq l _ _ h4,h5⟩
    · exact hq _ _ _ h
    · exact h.elim
   · exact .inr ⟨h1,hlo h⟩
  ·
   rename_i hw
   rw[if_neg hw]
   exact wpList_mono hq l _ _ h
theorem WI.pre (n:Nat) (h:WO P ops (fun e τ=>e=.normal∧WI P ops Q (l.drop n) τ) (l.take n) σ) (hp:(l.take n).all (fun o=>opPlain o.op)=true:=by rfl):WI P ops Q l σ:=fun ρ a w hs=>by
 rw[← List.take_append_drop n l]
 refine wpList_in (l.take n) hp a w (wpList_mono ?_ _ _ _ (h ρ a w hs))
 rintro e a w ⟨ρ,τ,hs,rfl,hk⟩
 exact hk ρ a w hs
theorem WI.nil (h:Q .normal σ):WI P ops Q [] σ:=fun ρ a w hs=>⟨ρ,σ,hs,h⟩
theorem Base.apartB {ρ:Nat→Nat} {w w':World} (hb:Base ρ σ w) {B:Nat→Prop} (hk:Keep (fun b=>¬ B b) w w') (ho:∀ (k:Nat) (o:Own) b,σ.own[k]?=some o→o.num ρ k=some b→¬ B b)
  (hsn:∀ p,p∈σ.snaps→∀ b,p.1 b→b<p.2.heap.size→¬ B b):Base ρ σ w' where
 own k o hko ρ' hρ:=by
  have h:=hb.own k o hko ρ' hρ
  refine Own.holds_same h fun b hn=>hk.block b ?_ (Own.lt h hn)
  rw[Own.num_agree hρ (List.getElem?_eq_some_iff.1 hko).1] at hn
  exact ho k o b hko hn
 apart:=hb.apart
 keep p hp:=⟨⟨hk.os.trans (hb.keep p hp).1.os,hk.tape.trans (hb.keep p hp).1.tape,hk.output.trans (hb.keep p hp).1.output,Nat.le_trans (hb.keep p hp).1.size hk.size,fun b hS hlt=>by
  rw[hk.block b (hsn p hp b hS hlt) (Nat.lt_of_lt_of_le hlt (hb.keep p hp).1.size)];exact(hb.keep p hp).1.block b hS hlt,DLe.trans (hb.keep p hp).1.drawn hk.drawn⟩,(hb.keep p hp).2⟩
theorem iter_of {f:FuncId} {fn:Func} {c:Code} {args:Array Value} {w:World} {R:World→Prop} (bs:List (Nat×TypeId×List Value)) (svs:List SV) (n:Nat) (B:Nat→Prop)
  (hf:P.funcs[f]?=some fn) (hb:fn.body=some c) (hn:fn.ntmps=n) (hr:fn.results=#[]) (hl:svs.length≤n) (ha:args=(denL (fun _=>0) svs).toArray) (hbn:bndL 0 svs=true)
  (hbx:∀ x,x∈bs→x.2.2.length≤maxLen∧w.heap[x.1]?=some (.cells x.2.2.toArray x.2.1 (0,0))) (hnd:(bs.map (·.1)).Nodup)
  (h:W P c (fun e σ=>(e=.normal∨e=.ret)∧σ.dfs=[]∧∀ ρ w',Base ρ σ w'→R w') ⟨n,initE 0 svs,bs.map fun x=>boxO x.2.1 x.1 x.2.2,[((fun b=>¬ b∈bs.map (·.1)),w),((fun b=>¬ B b∧¬ b∈bs.map (·.1)),w)],[]⟩):CallsIn (Fr none) 0 P f args w fun e w'=>(∃ v,e=.returned v)∧R w':=by
 refine callsIn_of_wp hf hb trivial ?_
 subst ha
 have hget:∀ (k:Nat) (o:Own),(bs.map fun x=>boxO x.2.1 x.1 x.2.2)[k]?=some o→∃ x,bs[k]?=some x∧o=boxO x.2.1 x.1 x.2.2:=fun k o hk=>by
  rw[List.getElem?_map] at hk
  cases hx:bs[k]? with
  | none=>rw[hx] at hk;cases hk
  | some x=>rw[hx] at hk;exact⟨x,rfl,(Option.some.inj hk).symm⟩
 refine wpIn_mono (h (fun _=>0) _ w ?_) ?_
 ·
  refine⟨by simp[hn];omega,rfl,fun i s hi=>?_,⟨fun k o hk ρ' _=>?_,fun i j oi oj b h1 h2 h3 h4=>?_,fun p hp=>?_⟩⟩
  ·
   obtain⟨k,rfl,hk⟩:=initE_get svs 0 i s hi
   have hkl:k<svs.length:=(List.getElem?_eq_some_iff.1 hk).1
   simp only[Nat.zero_add]
   refine⟨by show k<n;omega,fun ρ' hρ=>?_⟩
   have:denL ρ' svs=denL (fun _=>0) svs:=denL_agree (m:=0) (fun i hi=>by omega) svs hbn
   have hk2:(denL (fun _=>0) svs)[k]?=some (den ρ' s):=by rw[← this,denL_eq];simp[hk]
   rw[Array.getElem?_append_left (by simp;exact hkl)]
   simpa using hk2
  ·
   obtain⟨x,hx,rfl⟩:=hget k o hk
   have:=hbx x (List.mem_of_getElem? hx)
   exact boxO_holds this.1 this.2
  ·
   obtain⟨x,hx,rfl⟩:=hget i oi h1
   obtain⟨y,hy,rfl⟩:=hget j oj h2
   simp only[boxO_num,Option.some.injEq] at h3 h4
   subst h3
   have hi:(bs.map (·.1))[i]?=some x.1:=by rw[List.getElem?_map,hx];rfl
   have hj:(bs.map (·.1))[j]?=some x.1:=by rw[List.getElem?_map,hy];exact congrArg some h4
   exact(List.getElem?_inj (List.getElem?_eq_some_iff.1 hi).1 hnd).1 (hi.trans hj.symm)
  ·
   have key:∀ k (o:Own) b,(bs.map fun x=>boxO x.2.1 x.1 x.2.2)[k]?=some o→o.num (fun _=>0) k=some b→b∈bs.map (·.1):=fun k o b hk hnum=>by
    obtain⟨x,hx,rfl⟩:=hget k o hk
    simp only[boxO_num,Option.some.injEq] at hnum
    subst hnum
    exact List.mem_map.2 ⟨x,List.mem_of_getElem? hx,rfl⟩
   simp only[List.mem_cons,List.not_mem_nil,or_false] at hp
   rcases hp with rfl | rfl
   · exact⟨Keep.refl _ _,fun k o b hk hnum hS=>absurd (key k o b hk hnum) hS⟩
   · exact⟨Keep.refl _ _,fun k o b hk hnum hS=>absurd (key k o b hk hnum) hS.2⟩
 ·
  rintro e a' w' ⟨ρ,σ,hs,he,hdf,hR⟩
  have hres:(results fn a'.tmps).run P w'=.ok (.tuple #[]) w':=by
   rw[results_eq,hr];simp
  rcases he with rfl | rfl
  · exact⟨by rw[hs.defers,hdf];rfl,_,hres,⟨_,rfl⟩,hR ρ w' hs.base⟩
  · exact⟨by rw[hs.defers,hdf];rfl,_,hres,⟨_,rfl⟩,hR ρ w' hs.base⟩
def freeO:Own→Bool
 | .cells _ _=>false
 | _=>true
theorem freeO_holds {o:Own} (h:freeO o=true) {ρ ρ':Nat→Nat} {k k':Nat} {w:World} (hh:o.holds ρ k w):o.holds ρ' k' w:=by
 cases o with
 | cells=>cases h
 | slice=>exact hh
 | map=>exact hh
 | dead=>trivial
theorem freeO_num {o:Own} (h:freeO o=true) (ρ ρ':Nat→Nat) (k k':Nat):o.num ρ k=o.num ρ' k':=by
 cases o with
 | cells=>cases h
 | _=>rfl
theorem Base.free {ρ ρ':Nat→Nat} {w:World} (hb:Base ρ σ w) (hf:∀ o,o∈σ.own→freeO o=true):Base ρ' σ w where
 own k o hk ρ2 _:=freeO_holds (hf o (List.mem_of_getElem? hk)) (hb.own k o hk ρ (Agree.refl _ _))
 apart i j oi oj b hi hj h1 h2:=hb.apart i j oi oj b hi hj (by rw[freeO_num (hf oi (List.mem_of_getElem? hi)) ρ ρ' i i];exact h1) (by rw[freeO_num (hf oj (List.mem_of_getElem? hj)) ρ ρ' j j];exact h2)
 keep p hp:=⟨(hb.keep p hp).1,fun k o b hk hn=>(hb.keep p hp).2 k o b hk (by rw[freeO_num (hf o (List.mem_of_getElem? hk)) ρ ρ' k k];exact hn)⟩
def Marks (ds:List Nat) (s w0:World):Prop:=ds.Nodup∧∀ d,d∈ds→w0.heap.size≤d∧d<s.heap.size∧s.heap[d]?=some (.deferred (some []))
theorem putObj_keep {w:World} {r:Nat} {x:Obj} (S:Nat→Prop) (hS:¬ S r):Keep S w (w.putObj r x):=
 ⟨rfl,rfl,rfl,by simp,fun b hb _=>World.putObj_heap_other fun he=>hS (he ▸ hb),DLe.refl _⟩
theorem Base.putObj {ρ:Nat→Nat} {w:World} (hb:Base ρ σ w) {r:Nat} {x:Obj} (ho:∀ (k:Nat) (o:Own) b,σ.own[k]?=some o→o.num ρ k=some b→b≠r) (hsn:∀ p,p∈σ.snaps→p.2.heap.size≤r∨¬ p.1 r):Base ρ σ (w.putObj r x):=
 hb.apartB (B:=fun b=>b=r) (putObj_keep _ (by simp)) (fun k o b h1 h2 h3=>ho k o b h1 h2 h3) fun p hp b h1 h2 h3=>by
  subst h3
  rcases hsn p hp with h | h
  · omega
  · exact h h1
def onN (X:St→Prop):Exit→St→Prop
 | .normal,σ=>X σ
 | _,_=>False
theorem onN_and {X:St→Prop} {e:Exit} {τ:St} (h:onN X e τ):e=.normal∧X τ:=by
 cases e with
 | normal=>exact⟨rfl,h⟩
 | _=>exact h.elim
def FinM (P:Program) (w0:World) (rs:List ResultVar) (Q:Value→World→Prop) (σ:St):Prop:=
 ((fun _=>True),w0)∈σ.snaps∧(∃ ds s0,σ.dfs=ds.map .mk∧((fun b=>b∈ds),s0)∈σ.snaps∧Marks ds s0 w0)∧∃ s,resSV P σ rs=some s∧∀ ρ w',Base ρ ⟨σ.n,σ.env,σ.own,[((fun _=>True),w0)],[]⟩ w'→Q (den ρ s) w'
def EndsM (P:Program) (w0:World) (rs:List ResultVar) (Q:Value→World→Prop):Exit→St→Prop
 | .ret,σ=>FinM P w0 rs Q σ
 | .normal,σ=>FinM P w0 rs Q σ
 | _,_=>False
theorem FinM.of {w0:World} {rs:List ResultVar} {Q:Value→World→Prop} (hm:((fun _=>True),w0)∈σ.snaps∧∃ ds s0,σ.dfs=ds.map .mk∧((fun b=>b∈ds),s0)∈σ.snaps∧Marks ds s0 w0) (h:RunR (resSV P σ rs) fun s=>∀ ρ w',Base ρ ⟨σ.n,σ.env,σ.own,[((fun _=>True),w0)],[]⟩ w'→Q (den ρ s) w'):FinM P w0 rs Q σ:=by
 cases hr:resSV P σ rs with
 | none=>rw[hr] at h;exact h.elim
 | some s=>rw[hr] at h;exact⟨hm.1,hm.2,s,hr,h⟩
theorem leaves_marks {fn:Func} {tmps:Array Value} {R:Ending→World→Prop} {v:Value}:∀ (ds:List Nat) (w:World),ds.Nodup→(∀ d,d∈ds→w.heap[d]?=some (.deferred (some []))) →
  (∀ w',Keep (fun b=>b∉ds) w w'→(results fn tmps).run P w'=.ok v w'∧R (.returned v) w')→LeavesInM (Fr none) 0 P fn tmps R ((ds.map Dm.mk).map mark) .returning w
 |
  [],w,_,_,h=>by
  obtain⟨h1,h2⟩:=h w (Keep.refl _ _)
  exact⟨v,h1,h2⟩
 |
  d::ds,w,hnd,hd,h=>by
  have h0:=hd d (by simp)
  have hlt:=(Array.getElem?_eq_some_iff.1 h0).1
  refine⟨by simp,.inl ⟨d,_,rfl,run_takeDeferred h0,leaves_marks ds _ (List.nodup_cons.1 hnd).2 (fun e he=>?_) fun w' hk=>h w' ?_⟩⟩
  ·
   rw[World.putObj_heap_other (fun hh:e=d=>(List.nodup_cons.1 hnd).1 (by rw[← hh];exact he))]
   exact hd e (by simp[he])
  · exact(putObj_keep (fun b=>b∉d::ds) (by simp)).trans (hk.mono fun b hb _ hb2=>hb (by simp[hb2]))
theorem gives_of_marks {f:FuncId} {fn:Func} {c:Code} {args:Array Value} {w:World} {Q:Value→World→Prop} (svs:List SV) (n:Nat) (rs:List ResultVar)
  (hf:P.funcs[f]?=some fn) (hb:fn.body=some c) (hn:fn.ntmps=n) (hr:fn.results=rs.toArray) (hl:svs.length≤n) (ha:args=(denL (fun _=>0) svs).toArray) (hbn:bndL 0 svs=true)
  (h:W P c (EndsM P w rs Q) ⟨n,initE 0 svs,[],[((fun b=>b∈([]:List Nat)),w),((fun _=>True),w)],[]⟩):Gives P f args w Q:=by
 refine(callsIn_wide (n:=0)).1 ?_
 refine callsIn_of_wp_marks (F:=Fr none) hf hb trivial ?_
 subst ha
 refine wpIn_mono (h (fun _=>0) _ w ?_) ?_
 ·
  refine⟨by simp[hn];omega,rfl,fun i s hi=>?_,⟨fun k o hk=>by simp at hk,fun i j oi oj b h1=>by simp at h1,fun p hp=>?_⟩⟩
  ·
   obtain⟨k,rfl,hk⟩:=initE_get svs 0 i s hi
   have hkl:k<svs.length:=(List.getElem?_eq_some_iff.1 hk).1
   simp only[Nat.zero_add]
   refine⟨by show k<n;omega,fun ρ' hρ=>?_⟩
   have:denL ρ' svs=denL (fun _=>0) svs:=denL_agree (m:=0) (fun i hi=>by omega) svs hbn
   have hk2:(denL (fun _=>0) svs)[k]?=some (den ρ' s):=by rw[← this,denL_eq];simp[hk]
   rw[Array.getElem?_append_left (by simp;exact hkl)]
   simpa using hk2
  ·
   simp only[List.mem_cons,List.not_mem_nil,or_false] at hp
   rcases hp with rfl | rfl<;>exact⟨Keep.refl _ _,fun k o b hk=>by simp at hk⟩
 ·
  rintro e a' w' ⟨ρ,σ,hs,hq⟩
  have fin:FinM P w rs Q σ→LeavesInM (Fr none) 0 P fn a'.tmps (fun e w'=>∃ v',e=.returned v'∧BelowD w.heap.size w w'∧Q v' w') a'.defers .returning w':=by
   rintro⟨hm,⟨dl,s0,hdl,hs0,hM⟩,s,hs1,hs2⟩
   rw[hs.defers,hdl]
   have hks:=(hs.base.keep _ hs0).1
   have hownd:∀ (k:Nat) (o:Own) b,σ.own[k]?=some o→o.num ρ k=some b→¬ b∈dl:=fun k o b h1 h2 h3=>by
    have:=(hs.base.keep _ hs0).2 k o b h1 h2 h3
    have:=(hM.2 b h3).2.1
    simp only at *;omega
   refine leaves_marks (v:=den ρ s) dl w' hM.1 (fun d hd=>?_) fun w2 hk=>?_
   ·
    obtain⟨_,q2,q3⟩:=hM.2 d hd
    rw[hks.block d hd q2];exact q3
   ·
    have hb2:Base ρ ⟨σ.n,σ.env,σ.own,[((fun _=>True),w)],[]⟩ w2:=by
     refine Base.apartB (σ:=⟨σ.n,σ.env,σ.own,[((fun _=>True),w)],[]⟩) (B:=fun b=>b∈dl) (w:=w') ⟨hs.base.own,hs.base.apart,fun p hp=>?_⟩ hk hownd fun p hp b _ hlt hbd=>?_
     · simp only[List.mem_singleton] at hp;subst hp;exact hs.base.keep _ hm
     ·
      simp only[List.mem_singleton] at hp;subst hp
      have:=(hM.2 b hbd).1
      simp only at *;omega
    have hs':Sat ρ ⟨σ.n,σ.env,σ.own,[((fun _=>True),w)],[]⟩ { tmps:=a'.tmps,defers:=[] } w2:=⟨hs.size,rfl,hs.env,hb2⟩
    have hs1':resSV P ⟨σ.n,σ.env,σ.own,[((fun _=>True),w)],[]⟩ rs=some s:=by
     have key:∀ r,resOne P ⟨σ.n,σ.env,σ.own,[((fun _=>True),w)],[]⟩ r=resOne P σ r:=fun r=>by
      cases r with
      | tmp t=>rfl
      | cell a t=>rfl
     have key2:∀ l,resAll P ⟨σ.n,σ.env,σ.own,[((fun _=>True),w)],[]⟩ l=resAll P σ l:=fun l=>by
      induction l with
      | nil=>rfl
      | cons r l ih=>simp only[resAll,key,ih]
     unfold resSV at hs1 ⊢
     rw[key2];exact hs1
    refine⟨?_,den ρ s,rfl,(hb2.keep ((fun _=>True),w) (by simp)).1.toBelow,hs2 ρ w2 hb2⟩
    unfold resSV at hs1'
    cases hra:resAll P ⟨σ.n,σ.env,σ.own,[((fun _=>True),w)],[]⟩ rs with
    | none=>rw[hra] at hs1';cases hs1'
    |
     some ss=>
     have hrun:=run_results hs' rs ss hra
     rw[results_eq,hr]
     simp only[Sem.run_bind,List.mapM_toArray,Sem.run_map,hrun,Result.andThen_ok,Sem.run_pure]
     rw[hra] at hs1'
     match ss,hs1' with
     | [],h1=>simp only[Option.some.injEq] at h1;subst h1;simp[denL,den]
     | [x],h1=>simp only[Option.some.injEq] at h1;subst h1;simp[denL]
     | x::y::l,h1=>simp only[Option.some.injEq] at h1;subst h1;simp[denL,den]
  cases e with
  | normal=>exact fin hq
  | ret=>exact fin hq
  | _=>exact hq.elim
def pinOw (β:Nat→Nat):Nat→List Own→List Own
 | _,[]=>[]
 | k,.cells T cs::l=>boxO T (β k) (denL β cs)::pinOw β (k+1) l
 | k,.slice T sz v n xs::l=>.slice T sz v n xs::pinOw β (k+1) l
 | k,.map r es c::l=>.map r es c::pinOw β (k+1) l
 | k,.dead::l=>.dead::pinOw β (k+1) l
theorem pinOw_box (β:Nat→Nat) (k T b:Nat) (cs:List Value) (l:List Own):pinOw β k (boxO T b cs::l)=boxO T b cs::pinOw β (k+1) l:=rfl
def pinEn (β:Nat→Nat):List (Nat×SV)→List (Nat×SV)
 | []=>[]
 | (i,s)::l=>(i,.val (den β s))::pinEn β l
def smallO:Own→Bool
 | .cells _ cs=>decide (cs.length≤9223372036854775807)
 | _=>true
theorem pinEn_get {β:Nat→Nat}:∀ (l:List (Nat×SV)) (i:Nat) (s:SV),getE (pinEn β l) i=some s→∃ s',getE l i=some s'∧s=.val (den β s')
 | [],i,s,h=>by cases h
 |
  (j,x)::l,i,s,h=>by
  simp only[pinEn,getE] at h ⊢
  split at h
  · rename_i he;rw[if_pos he];exact⟨x,rfl,(Option.some.inj h).symm⟩
  · rename_i he;rw[if_neg he];exact pinEn_get l i s h
theorem pinOw_get {β:Nat→Nat}:∀ (l:List Own) (j k:Nat) (o:Own),(pinOw β j l)[k]?=some o→∃ o',l[k]?=some o'∧((freeO o'=true∧o=o')∨∃ T cs,o'=.cells T cs∧o=boxO T (β (j+k)) (denL β cs))
 | [],j,k,o,h=>by simp[pinOw] at h
 |
  x::l,j,0,o,h=>by
  cases x with
  | cells T cs=>simp only[pinOw,List.getElem?_cons_zero,Option.some.injEq] at h;exact⟨_,rfl,.inr ⟨T,cs,rfl,h.symm⟩⟩
  | _=>simp only[pinOw,List.getElem?_cons_zero,Option.some.injEq] at h;exact⟨_,rfl,.inl ⟨rfl,h.symm⟩⟩
 |
  x::l,j,k+1,o,h=>by
  have h':(pinOw β (j+1) l)[k]?=some o:=by cases x<;>simpa [pinOw] using h
  obtain⟨o',h1,h2⟩:=pinOw_get l (j+1) k o h'
  refine⟨o',by simpa using h1,?_⟩
  rcases h2 with h2 | ⟨T,cs,h3,h4⟩
  · exact .inl h2
  · exact .inr ⟨T,cs,h3,by rw[h4];congr 1;rw[show j+1+k=j+(k+1) by omega]⟩
theorem W.pinA {rO:Option Nat} {c:Code} (hl:σ.own.all smallO=true) (h:∀ β,WR rO P c Q ⟨σ.n,pinEn β σ.env,pinOw β 0 σ.own,σ.snaps,σ.dfs⟩):WR rO P c Q σ:=fun ρ a w hs=>by
 refine h ρ ρ a w ?_
 have key:∀ (k:Nat) (o:Own),(pinOw ρ 0 σ.own)[k]?=some o→∃ o',σ.own[k]?=some o'∧o.num ρ k=o'.num ρ k∧∀ ρ',o.holds ρ' k w:=fun k o hk=>by
  obtain⟨o',h1,h2⟩:=pinOw_get σ.own 0 k o hk
  have hh:=hs.base.own k o' h1 ρ (Agree.refl _ _)
  rcases h2 with⟨h2,rfl⟩ | ⟨T,cs,rfl,rfl⟩
  · exact⟨o,h1,rfl,fun ρ'=>freeO_holds h2 hh⟩
  ·
   refine⟨_,h1,by rw[Nat.zero_add];rfl,fun ρ'=>boxO_holds ?_ (by rw[Nat.zero_add];exact hh)⟩
   have:=List.all_eq_true.1 hl _ (List.mem_of_getElem? h1)
   simp only[smallO,decide_eq_true_eq] at this
   rw[denL_length];simpa [maxLen] using this
 refine⟨hs.size,hs.defers,fun i s hi=>?_,⟨fun k o hk ρ' _=>?_,fun i j oi oj b hi hj hni hnj=>?_,fun p hp=>⟨(hs.base.keep p hp).1,fun k o b hk hn hS=>?_⟩⟩⟩
 ·
  obtain⟨s',h1,rfl⟩:=pinEn_get _ _ _ hi
  exact⟨(hs.env i s' h1).1,fun ρ' _=>(hs.env i s' h1).2 ρ (Agree.refl _ _)⟩
 · obtain⟨_,_,_,h3⟩:=key k o hk;exact h3 ρ'
 ·
  obtain⟨o1,g1,g2,_⟩:=key i oi hi
  obtain⟨o2,g3,g4,_⟩:=key j oj hj
  exact hs.base.apart i j o1 o2 b g1 g3 (by rw[← g2];exact hni) (by rw[← g4];exact hnj)
 ·
  obtain⟨o1,g1,g2,_⟩:=key k o hk
  exact(hs.base.keep p hp).2 k o1 b g1 (by rw[← g2];exact hn) hS
def unpinOK (β:Nat→Nat) (m:Nat):Nat→List Own→List Own→Prop
 | _,[],_=>True
 | _,_::_,[]=>False
 | k,o::l,o'::l'=>((o=o'∧freeO o=true)∨∃ T cs,o=.cells T cs∧o'=boxO T (β k) (denL β cs)∧bndL m cs=true)∧unpinOK β m (k+1) l l'
theorem unpinOK_get {β:Nat→Nat} {m:Nat}:∀ (l l':List Own) (j k:Nat) (o:Own),unpinOK β m j l l'→l[k]?=some o→∃ o',l'[k]?=some o'∧((o=o'∧freeO o=true)∨∃ T cs,o=.cells T cs∧o'=boxO T (β (j+k)) (denL β cs)∧bndL m cs=true)
 | [],_,_,_,_,_,h=>by simp at h
 | _::_,[],_,_,_,h,_=>h.elim
 |
  x::l,x'::l',j,0,o,h,hk=>by
  simp only[List.getElem?_cons_zero,Option.some.injEq] at hk
  subst hk
  exact⟨x',rfl,h.1⟩
 |
  x::l,x'::l',j,k+1,o,h,hk=>by
  obtain⟨o',h1,h2⟩:=unpinOK_get l l' (j+1) k o h.2 (by simpa using hk)
  refine⟨o',by simpa using h1,?_⟩
  rw[show j+1+k=j+(k+1) by omega] at h2
  exact h2
theorem W.unpin {rO:Option Nat} {c:Code} (β:Nat→Nat) (τ:St) (hn:(τ.n,τ.dfs)=(σ.n,σ.dfs)) (he:∀ p,p∈τ.env→getE σ.env p.1=some (.val (den β p.2))∧bnd τ.own.length p.2=true) (ho:unpinOK β τ.own.length 0 τ.own σ.own)
  (hs0:∀ p,p∈τ.snaps→p∈σ.snaps) (h:WR rO P c Q τ):WR rO P c Q σ:=fun ρ a w hs=>by
 have key:∀ (k:Nat) (o:Own),τ.own[k]?=some o→∃ o',σ.own[k]?=some o'∧o.num β k=o'.num ρ k∧∀ ρ',Agree τ.own.length β ρ'→o.holds ρ' k w:=fun k o hk=>by
  obtain⟨o',h1,h2⟩:=unpinOK_get _ _ 0 k o ho hk
  have hh:=hs.base.own k o' h1 ρ (Agree.refl _ _)
  rcases h2 with⟨rfl,h2⟩ | ⟨T,cs,rfl,rfl,h3⟩
  · exact⟨o,h1,freeO_num h2 β ρ k k,fun ρ' _=>freeO_holds h2 hh⟩
  ·
   refine⟨_,h1,by rw[Nat.zero_add];rfl,fun ρ' hρ=>?_⟩
   have hhp:=boxO_heap hh
   rw[Nat.zero_add] at hhp
   show w.heap[ρ' k]?=_
   rw[hρ k (List.getElem?_eq_some_iff.1 hk).1,denL_agree hρ cs h3]
   exact hhp
 refine h β a w ⟨hs.size.trans (congrArg Prod.fst hn).symm,by rw[show τ.dfs=σ.dfs from congrArg Prod.snd hn];exact hs.defers,fun i s hi=>?_,⟨fun k o hk ρ' hρ=>?_,fun i j oi oj b hi hj hni hnj=>?_,fun p hp=>⟨(hs.base.keep p (hs0 p hp)).1,fun k o b hk hn2 hS=>?_⟩⟩⟩
 ·
  obtain⟨h1,h2⟩:=he _ (getE_mem hi)
  have h3:=hs.env i _ h1
  refine⟨by rw[show τ.n=σ.n from congrArg Prod.fst hn];exact h3.1,fun ρ' hρ=>?_⟩
  rw[den_agree hρ s h2]
  exact h3.2 ρ (Agree.refl _ _)
 · obtain⟨_,_,_,h3⟩:=key k o hk;exact h3 ρ' hρ
 ·
  obtain⟨o1,g1,g2,_⟩:=key i oi hi
  obtain⟨o2,g3,g4,_⟩:=key j oj hj
  exact hs.base.apart i j o1 o2 b g1 g3 (by rw[← g2];exact hni) (by rw[← g4];exact hnj)
 ·
  obtain⟨o1,g1,g2,_⟩:=key k o hk
  exact(hs.base.keep p (hs0 p hp)).2 k o1 b g1 (by rw[← g2];exact hn2) hS
theorem WO.callN {f:FuncId} {ss:List SV} {X:Type} (val:X→Value) (os:X→List Own) (p:X→Prop) (hds:dsOk ds ops.toList=true) (hg:gd ds σ o.guard=some true) (hd:dOk σ o.dst=true)
  (hc:callS σ o.op=some (f,ss)) (hf:callOk P f=true) (hfr:∀ x o,o∈os x→freeO o=true)
  (h:∀ ρ w,Base ρ σ w→Gives P f (denL ρ ss).toArray w fun v w'=>∃ x,v=val x∧p x∧(∀ (j:Nat) (o:Own),(os x)[j]?=some o→o.holds (fun _=>0) 0 w'∧∀ b,o.num (fun _=>0) 0=some b→w.heap.size≤b) ∧
   ∀ (i j:Nat) (oi oj:Own) b,(os x)[i]?=some oi→(os x)[j]?=some oj→oi.num (fun _=>0) 0=some b→oj.num (fun _=>0) 0=some b→i=j)
  (k:∀ x,p x→WO P ops Q rest ((⟨σ.n,σ.env,σ.own++os x,σ.snaps,σ.dfs⟩:St).put o.dst (.val (val x)))):WO P ops Q (o::rest) σ:=fun ρ a w hs=>by
 simp only[wpList,gd_sound hs hds hg,if_true]
 refine .inl ?_
 unfold Oper.wp
 rw[callS_run hs hf hc,Oper.upon_enter]
 refine Calls.mono (h ρ w hs.base) fun e w' ⟨v,he,hb,x,hv,hp,hos,hap⟩=>?_
 subst he
 subst hv
 have hb':=hs.base.below hb
 have hcase:∀ (k:Nat) (o':Own),(σ.own++os x)[k]?=some o'→(k<σ.own.length∧σ.own[k]?=some o')∨(σ.own.length≤k∧(os x)[k - σ.own.length]?=some o'):=fun k o' hk=>by
  rcases Nat.lt_or_ge k σ.own.length with h | h
  · rw[List.getElem?_append_left h] at hk;exact .inl ⟨h,hk⟩
  · rw[List.getElem?_append_right h] at hk;exact .inr ⟨h,hk⟩
 have hlt:∀ k o' b,σ.own[k]?=some o'→Own.num ρ k o'=some b→b<w.heap.size:=fun k o' b hk hn=>Own.lt (hs.base.own k o' hk ρ (Agree.refl _ _)) hn
 have hnew:∀ (j k:Nat) (o':Own) b,(os x)[j]?=some o'→o'.num ρ k=some b→w.heap.size≤b∧o'.num (fun _=>0) 0=some b:=fun j k o' b hj hn=>by
  have:=hos j o' hj
  rw[freeO_num (hfr x o' (List.mem_of_getElem? hj)) ρ (fun _=>0) k 0] at hn
  exact⟨this.2 b hn,hn⟩
 refine k x hp ρ _ w' (Sat.put (σ:=⟨σ.n,σ.env,σ.own++os x,σ.snaps,σ.dfs⟩) ⟨hs.size,hs.defers,fun i s hi=>⟨(hs.env i s hi).1,fun ρ' hρ=>(hs.env i s hi).2 ρ' (hρ.mono (by simp))⟩,⟨fun k o' hk ρ' hρ=>?_,fun i j oi oj b hi hj hni hnj=>?_,fun q hq=>⟨(hb'.keep q hq).1,fun k o' b hk hn hS=>?_⟩⟩⟩ _ _ _ (dOk_lt (σ:=⟨σ.n,σ.env,σ.own++os x,σ.snaps,σ.dfs⟩) hd) fun _ _=>rfl)
 ·
  rcases hcase k o' hk with⟨_,h1⟩ | ⟨_,h1⟩
  · exact hb'.own k o' h1 ρ' (hρ.mono (by simp))
  · exact freeO_holds (hfr x o' (List.mem_of_getElem? h1)) (hos _ o' h1).1
 ·
  rcases hcase i oi hi with⟨g1,g2⟩ | ⟨g1,g2⟩<;>rcases hcase j oj hj with⟨g3,g4⟩ | ⟨g3,g4⟩
  · exact hb'.apart i j oi oj b g2 g4 hni hnj
  · have:=hlt i oi b g2 hni;have:=(hnew _ j oj b g4 hnj).1;omega
  · have:=hlt j oj b g4 hnj;have:=(hnew _ i oi b g2 hni).1;omega
  ·
   have:=hap _ _ oi oj b g2 g4 (hnew _ i oi b g2 hni).2 (hnew _ j oj b g4 hnj).2
   omega
 ·
  rcases hcase k o' hk with⟨_,h1⟩ | ⟨_,h1⟩
  · exact(hb'.keep q hq).2 k o' b h1 hn hS
  ·
   have:=(hnew _ k o' b h1 hn).1
   have:=(hs.base.keep q hq).1.size
   omega
end
section
variable {P:Program} {ops:Array Oper} {Q:Exit→St→Prop} {σ:St} {l:List Oper} {o:Oper} {rest:List Oper} {ds:List (Option Nat)} {K:St→Prop}
def GivesP (P:Program) (f:FuncId) (args:Array Value) (w:World) (C:Nat→Prop) (Q:Value→World→Prop) (Qp:List PanicEntry→World→Prop):Prop:=
 Calls P f args w fun e w'=>(∃ v,e=.returned v∧Keep (fun b=>¬ C b) w w'∧Q v w')∨(∃ ch,e=.panicked ch∧Keep (fun b=>¬ C b) w w'∧Qp ch w')
theorem GivesP.mono {f:FuncId} {args:Array Value} {w:World} {C:Nat→Prop} {Q Q':Value→World→Prop} {Qp Qp':List PanicEntry→World→Prop} (h:GivesP P f args w C Q Qp) (h1:∀ v w',Keep (fun b=>¬ C b) w w'→Q v w'→Q' v w') (h2:∀ ch w',Keep (fun b=>¬ C b) w w'→Qp ch w'→Qp' ch w'):GivesP P f args w C Q' Qp':=
 Calls.mono h fun e w' hq=>by
  rcases hq with⟨v,he,hk,hq⟩ | ⟨ch,he,hk,hq⟩
  · exact .inl ⟨v,he,hk,h1 v w' hk hq⟩
  · exact .inr ⟨ch,he,hk,h2 ch w' hk hq⟩
end
section
variable {P:Program} {ops:Array Oper} {Q:Exit→St→Prop} {o:Oper} {rest:List Oper} {σ:St} {ds:List (Option Nat)}
structure Lie (own:List Own) (w:World):Prop where
 here:∀ (k:Nat) (o:Own),own[k]?=some o→o.holds (fun _=>0) 0 w
 apart:∀ (i j:Nat) (oi oj:Own) b,own[i]?=some oi→own[j]?=some oj→oi.num (fun _=>0) 0=some b→oj.num (fun _=>0) 0=some b→i=j
def ofOwn (own:List Own) (b:Nat):Prop:=∃ (k:Nat) (o:Own),own[k]?=some o∧Own.num (fun _=>0) 0 o=some b
structure TurnL (own own':List Own) (w w':World):Prop where
 lie:Lie own' w'
 num:∀ (k:Nat) (o:Own) b,own'[k]?=some o→o.num (fun _=>0) 0=some b→ofOwn own b∨w.heap.size≤b
theorem givesL_of {f:FuncId} {fn:Func} {c:Code} {args:Array Value} {w:World} {Q:Value→World→Prop} (own:List Own) (svs:List SV) (n:Nat) (rs:List ResultVar)
  (hf:P.funcs[f]?=some fn) (hb:fn.body=some c) (hn:fn.ntmps=n) (hr:fn.results=rs.toArray) (hl:svs.length≤n) (ha:args=(denL (fun _=>0) svs).toArray) (hbn:bndL 0 svs=true)
  (hfr:own.all freeO=true) (hlie:Lie own w)
  (h:W P c (EndsB P (ofOwn own) w rs Q) ⟨n,initE 0 svs,own,[((fun b=>¬ ofOwn own b),w)],[]⟩):GivesB P f args w (ofOwn own) Q:=by
 refine calls_of_wp hf hb ?_
 subst ha
 have hfk:∀ (k:Nat) (o:Own),own[k]?=some o→freeO o=true:=fun k o hk=>List.all_eq_true.1 hfr o (List.mem_of_getElem? hk)
 refine wp_mono (wp_of (h (fun _=>0) _ w ?_)) ?_
 ·
  refine⟨by simp[hn];omega,rfl,fun i s hi=>?_,⟨fun k o hk ρ' _=>?_,fun i j oi oj b h1 h2 h3 h4=>?_,fun p hp=>?_⟩⟩
  ·
   obtain⟨k,rfl,hk⟩:=initE_get svs 0 i s hi
   have hkl:k<svs.length:=(List.getElem?_eq_some_iff.1 hk).1
   simp only[Nat.zero_add]
   refine⟨by show k<n;omega,fun ρ' hρ=>?_⟩
   have:denL ρ' svs=denL (fun _=>0) svs:=denL_agree (m:=0) (fun i hi=>by omega) svs hbn
   have hk2:(denL (fun _=>0) svs)[k]?=some (den ρ' s):=by rw[← this,denL_eq];simp[hk]
   rw[Array.getElem?_append_left (by simp;exact hkl)]
   simpa using hk2
  · exact freeO_holds (hfk k o hk) (hlie.here k o hk)
  · exact hlie.apart i j oi oj b h1 h2 (by rw[← freeO_num (hfk i oi h1) (fun _=>0) (fun _=>0) i 0];exact h3) (by rw[← freeO_num (hfk j oj h2) (fun _=>0) (fun _=>0) j 0];exact h4)
  ·
   simp only[List.mem_singleton] at hp
   subst hp
   refine⟨Keep.refl _ _,fun k o b hk hnum hS=>absurd ⟨k,o,hk,?_⟩ hS⟩
   rw[← freeO_num (hfk k o hk) (fun _=>0) (fun _=>0) k 0];exact hnum
 ·
  rintro e a' w' ⟨ρ,σ,hs,hq⟩
  have fin:FinB P (ofOwn own) w rs Q σ→(a'.defers=[]∧∃ v,(results fn a'.tmps).run P w'=.ok v w'∧∃ v',Ending.returned v=.returned v'∧Keep (fun b=>¬ ofOwn own b) w w'∧Q v' w'):=by
   rintro⟨⟨hm,hdf⟩,hrun⟩
   obtain⟨s,hs1,hs2⟩:=RunR.ex hrun
   refine⟨by rw[hs.defers,hdf];rfl,den ρ s,?_,den ρ s,rfl,(hs.base.keep _ hm).1,hs2 ρ w' hs.base⟩
   unfold resSV at hs1
   cases hra:resAll P σ rs with
   | none=>rw[hra] at hs1;cases hs1
   |
    some ss=>
    have hrun:=run_results hs rs ss hra
    rw[results_eq,hr]
    simp only[Sem.run_bind,List.mapM_toArray,Sem.run_map,hrun,Result.andThen_ok,Sem.run_pure]
    rw[hra] at hs1
    match ss,hs1 with
    | [],h1=>simp only[Option.some.injEq] at h1;subst h1;simp[denL,den]
    | [x],h1=>simp only[Option.some.injEq] at h1;subst h1;simp[denL]
    | x::y::l,h1=>simp only[Option.some.injEq] at h1;subst h1;simp[denL,den]
  cases e with
  | normal=>exact fin hq
  | ret=>exact fin hq
  | _=>exact hq.elim
theorem turnL_of {ρ:Nat→Nat} {w w0:World} {own own':List Own} (hb:Base ρ σ w) (hm:((fun b=>¬ ofOwn own b),w0)∈σ.snaps) (hp:σ.own.take own'.length=own') (hfr:own'.all freeO=true):TurnL own own' w0 w:=by
 have hfk:∀ (k:Nat) (o:Own),own'[k]?=some o→freeO o=true:=fun k o hk=>List.all_eq_true.1 hfr o (List.mem_of_getElem? hk)
 have hk:∀ (k:Nat) (o:Own),own'[k]?=some o→σ.own[k]?=some o:=fun k o hk=>by
  have hl:=(List.getElem?_eq_some_iff.1 hk).1
  rw[← hp,List.getElem?_take,if_pos hl] at hk;exact hk
 have hnum:∀ (k:Nat) (o:Own) b,own'[k]?=some o→o.num (fun _=>0) 0=some b→o.num ρ k=some b:=fun k o b h1 h2=>by rw[freeO_num (hfk k o h1) ρ (fun _=>0) k 0];exact h2
 refine⟨⟨fun k o h=>freeO_holds (hfk k o h) (hb.own k o (hk k o h) ρ (Agree.refl _ _)),fun i j oi oj b h1 h2 h3 h4=>hb.apart i j oi oj b (hk i oi h1) (hk j oj h2) (hnum i oi b h1 h3) (hnum j oj b h2 h4)⟩,fun k o b h1 h2=>?_⟩
 by_cases h:ofOwn own b
 · exact .inl h
 · exact .inr ((hb.keep _ hm).2 k o b (hk k o h1) (hnum k o b h1 h2) h)
def setOL:List Own→List Nat→List Own→List Own
 | own,k::ks,o::os=>setOL (setN own k o) ks os
 | own,_,_=>own
theorem setOL_len:∀ (ks:List Nat) (os own:List Own),(setOL own ks os).length=own.length
 | [],os,own=>by cases os<;>rfl
 | k::ks,[],own=>rfl
 | k::ks,o::os,own=>by rw[setOL,setOL_len ks os];simp[setN_eq]
theorem setOL_get:∀ (ks:List Nat) (os own:List Own) (j:Nat) (o:Own),ks.Nodup→(∀ k,k∈ks→k<own.length)→ks.length=os.length→(setOL own ks os)[j]?=some o →
  (∃ i:Nat,ks[i]?=some j∧os[i]?=some o)∨(j∉ks∧own[j]?=some o)
 |
  [],os,own,j,o,_,_,_,h=>by
  cases os<;>exact .inr ⟨by simp,h⟩
 | k::ks,[],own,j,o,_,_,hl,h=>by simp at hl
 |
  k::ks,o'::os,own,j,o,hnd,hlt,hl,h=>by
  rw[List.nodup_cons] at hnd
  rcases setOL_get ks os (setN own k o') j o hnd.2 (fun x hx=>by simp only[setN_eq,List.length_set];exact hlt x (List.mem_cons_of_mem _ hx)) (by simpa using hl) h with⟨i,h1,h2⟩ | ⟨h1,h2⟩
  · exact .inl ⟨i+1,by simpa using h1,by simpa using h2⟩
  ·
   simp only[setN_eq] at h2
   by_cases hjk:k=j
   ·
    subst hjk
    rw[List.getElem?_set_self (hlt k List.mem_cons_self)] at h2
    exact .inl ⟨0,rfl,by simpa using h2⟩
   ·
    rw[List.getElem?_set_ne hjk] at h2
    exact .inr ⟨by simp[h1,Ne.symm hjk],h2⟩
def placed (own:List Own):List Nat→List Own→Prop
 | [],[]=>True
 | k::ks,o::os=>nth own k=some o∧placed own ks os
 | _,_=>False
theorem placed_get {own:List Own}:∀ {ks:List Nat} {os:List Own},placed own ks os→ks.length=os.length∧∀ (i k:Nat) (o:Own),ks[i]?=some k→os[i]?=some o→own[k]?=some o
 | [],[],_=>⟨rfl,fun i k o h=>by simp at h⟩
 |
  k::ks,o::os,h=>by
  obtain⟨h1,h2⟩:=placed_get h.2
  refine⟨by simp[h1],fun i k' o' h3 h4=>?_⟩
  cases i with
  |
   zero=>
   simp only[List.getElem?_cons_zero,Option.some.injEq] at h3 h4
   subst h3;subst h4
   rw[← nth_eq];exact h.1
  | succ i=>exact h2 i k' o' (by simpa using h3) (by simpa using h4)
 | [],_::_,h=>h.elim
 | _::_,[],h=>h.elim
theorem Base.turnL {ρ:Nat→Nat} {w w':World} {ks:List Nat} {own own':List Own} (hb:Base ρ σ w) (hp:placed σ.own ks own) (hnd:ks.Nodup) (hf:own.all freeO=true) (hf':own'.all freeO=true) (hl:own'.length=own.length)
  (hk:Keep (fun b=>¬ ofOwn own b) w w') (ht:TurnL own own' w w'):Base ρ { σ with own:=setOL σ.own ks own' } w':=by
 obtain⟨hkl,hget⟩:=placed_get hp
 have hks:∀ (i k:Nat),ks[i]?=some k→∃ oo,own[i]?=some oo∧σ.own[k]?=some oo:=fun i k h=>by
  have h1:=(List.getElem?_eq_some_iff.1 h).1
  exact⟨own[i]'(by omega),List.getElem?_eq_getElem _,hget i k _ h (List.getElem?_eq_getElem _)⟩
 have hfk:∀ (k:Nat) (o:Own),own[k]?=some o→freeO o=true:=fun k o hk=>List.all_eq_true.1 hf o (List.mem_of_getElem? hk)
 have hfk':∀ (k:Nat) (o:Own),own'[k]?=some o→freeO o=true:=fun k o hk=>List.all_eq_true.1 hf' o (List.mem_of_getElem? hk)
 have hlt:∀ k,k∈ks→k<σ.own.length:=fun k hk=>by
  obtain⟨i,hi⟩:=List.getElem?_of_mem hk
  obtain⟨oo,_,h2⟩:=hks i k hi
  exact(List.getElem?_eq_some_iff.1 h2).1
 have hcase:=fun j o h=>setOL_get ks own' σ.own j o hnd hlt (by omega) h
 have hofn:∀ b,ofOwn own b→∃ k oo,k∈ks∧σ.own[k]?=some oo∧oo.num ρ k=some b:=fun b ⟨i,oo,h1,h2⟩=>by
  have hil:=(List.getElem?_eq_some_iff.1 h1).1
  have h3:ks[i]?=some (ks[i]'(by omega)):=List.getElem?_eq_getElem _
  exact⟨_,oo,List.mem_of_getElem? h3,hget i _ oo h3 h1,by rw[freeO_num (hfk i oo h1) ρ (fun _=>0) _ 0];exact h2⟩
 have hnew:∀ (i j:Nat) (o:Own) b,ks[i]?=some j→own'[i]?=some o→o.num ρ j=some b→ofOwn own b∨w.heap.size≤b:=fun i j o b h1 h2 h3=>ht.num i o b h2 (by rw[← freeO_num (hfk' i o h2) ρ (fun _=>0) j 0];exact h3)
 have hold:∀ (j:Nat) (o:Own) b,σ.own[j]?=some o→o.num ρ j=some b→b<w.heap.size:=fun j o b h1 h2=>Own.lt (hb.own j o h1 ρ (Agree.refl _ _)) h2
 refine⟨fun j o hj ρ' hρ=>?_,fun i j oi oj b hi hj hni hnj=>?_,fun p hpm=>?_⟩
 ·
  simp only[setOL_len] at hρ
  rcases hcase j o hj with⟨i,h1,h2⟩ | ⟨h1,h2⟩
  · exact freeO_holds (hfk' i o h2) (ht.lie.here i o h2)
  ·
   have h3:=hb.own j o h2 ρ' hρ
   refine Own.holds_same h3 fun b hnb=>hk.block b (fun hof=>?_) (Own.lt h3 hnb)
   obtain⟨k,oo,h4,h5,h6⟩:=hofn b hof
   have hjl:=(List.getElem?_eq_some_iff.1 h2).1
   have:=hb.apart j k o oo b h2 h5 (by rw[← Own.num_agree hρ hjl];exact hnb) h6
   exact h1 (this ▸ h4)
 ·
  rcases hcase i oi hi with⟨i1,h1,h2⟩ | ⟨h1,h2⟩<;>rcases hcase j oj hj with⟨j1,h3,h4⟩ | ⟨h3,h4⟩
  ·
   have:=ht.lie.apart i1 j1 oi oj b h2 h4 (by rw[← freeO_num (hfk' i1 oi h2) ρ (fun _=>0) i 0];exact hni) (by rw[← freeO_num (hfk' j1 oj h4) ρ (fun _=>0) j 0];exact hnj)
   subst this
   rw[h1] at h3;exact Option.some.inj h3
  ·
   rcases hnew i1 i oi b h1 h2 hni with h | h
   ·
    obtain⟨k,oo,h5,h6,h7⟩:=hofn b h
    have:=hb.apart k j oo oj b h6 h4 h7 hnj
    exact absurd (this ▸ h5) h3
   · have:=hold j oj b h4 hnj;omega
  ·
   rcases hnew j1 j oj b h3 h4 hnj with h | h
   ·
    obtain⟨k,oo,h5,h6,h7⟩:=hofn b h
    have:=hb.apart k i oo oi b h6 h2 h7 hni
    exact absurd (this ▸ h5) h1
   · have:=hold i oi b h2 hni;omega
  · exact hb.apart i j oi oj b h2 h4 hni hnj
 ·
  obtain⟨h1,h2⟩:=hb.keep p hpm
  refine⟨⟨hk.os.trans h1.os,hk.tape.trans h1.tape,hk.output.trans h1.output,Nat.le_trans h1.size hk.size,fun b hS hlt'=>?_,DLe.trans h1.drawn hk.drawn⟩,fun j o b hj hnb hS=>?_⟩
  ·
   rw[hk.block b (fun hof=>?_) (Nat.lt_of_lt_of_le hlt' h1.size)]
   · exact h1.block b hS hlt'
   ·
    obtain⟨k,oo,h4,h5,h6⟩:=hofn b hof
    have:=h2 k oo b h5 h6 hS;omega
  ·
   rcases hcase j o hj with⟨i,h3,h4⟩ | ⟨h3,h4⟩
   ·
    rcases hnew i j o b h3 h4 hnb with h | h
    ·
     obtain⟨k,oo,_,h5,h6⟩:=hofn b h
     exact h2 k oo b h5 h6 hS
    · have:=h1.size;omega
   · exact h2 j o b h4 hnb hS
theorem lie_of {ρ:Nat→Nat} {w:World} {ks:List Nat} {own:List Own} (hb:Base ρ σ w) (hp:placed σ.own ks own) (hnd:ks.Nodup) (hf:own.all freeO=true):Lie own w:=by
 obtain⟨hkl,hget⟩:=placed_get hp
 have hfk:∀ (k:Nat) (o:Own),own[k]?=some o→freeO o=true:=fun k o hk=>List.all_eq_true.1 hf o (List.mem_of_getElem? hk)
 have hks:∀ (i:Nat) (o:Own),own[i]?=some o→∃ k,ks[i]?=some k∧σ.own[k]?=some o:=fun i o h=>by
  have h1:=(List.getElem?_eq_some_iff.1 h).1
  exact⟨ks[i]'(by omega),List.getElem?_eq_getElem _,hget i _ o (List.getElem?_eq_getElem _) h⟩
 refine⟨fun i o h=>?_,fun i j oi oj b h1 h2 h3 h4=>?_⟩
 ·
  obtain⟨k,_,hk⟩:=hks i o h
  exact freeO_holds (hfk i o h) (hb.own k o hk ρ (Agree.refl _ _))
 ·
  obtain⟨k,g1,hk⟩:=hks i oi h1
  obtain⟨k',g2,hk'⟩:=hks j oj h2
  have:=hb.apart k k' oi oj b hk hk' (by rw[freeO_num (hfk i oi h1) ρ (fun _=>0) k 0];exact h3) (by rw[freeO_num (hfk j oj h2) ρ (fun _=>0) k' 0];exact h4)
  subst this
  have e1:=(List.getElem?_eq_some_iff.1 g1).1
  have e2:=(List.getElem?_eq_some_iff.1 g2).1
  exact(List.getElem?_inj e1 hnd).1 (g1.trans g2.symm)
theorem WO.callL {f:FuncId} {ss:List SV} {X:Type} {own:List Own} (ks:List Nat) (val:X→Value) (own':X→List Own) (p:Nat→X→World→Prop) (hds:dsOk ds ops.toList=true) (hg:gd ds σ o.guard=some true) (hd:dOk σ o.dst=true)
  (hc:callS σ o.op=some (f,ss)) (hf:callOk P f=true) (hp:placed σ.own ks own) (hnd:ks.Nodup) (hfo:own.all freeO=true) (hf':∀ x,(own' x).all freeO=true) (hl:∀ x,(own' x).length=own.length)
  (h:∀ ρ w,Base ρ σ w→Lie own w→GivesB P f (denL ρ ss).toArray w (ofOwn own) fun v w'=>∃ x,v=val x∧p w.heap.size x w'∧TurnL own (own' x) w w')
  (k:∀ x lo s,p lo x s→WO P ops Q rest ((({ σ with own:=setOL σ.own ks (own' x) }:St).put o.dst (.val (val x))).snap (fun b=>lo≤b∧¬ ofOwn (own' x) b) s)):WO P ops Q (o::rest) σ:=fun ρ a w hs=>by
 simp only[wpList,gd_sound hs hds hg,if_true]
 refine .inl ?_
 unfold Oper.wp
 rw[callS_run hs hf hc,Oper.upon_enter]
 refine Calls.mono (h ρ w hs.base (lie_of hs.base hp hnd hfo)) fun e w' ⟨v,he,hkp,x,hv,hpx,ht⟩=>?_
 subst he
 subst hv
 have hlen:=setOL_len ks (own' x) σ.own
 have hs':Sat ρ { σ with own:=setOL σ.own ks (own' x) } a w':=⟨hs.size,hs.defers,fun i s hi=>⟨(hs.env i s hi).1,fun ρ' hρ=>(hs.env i s hi).2 ρ' (by rw[← hlen];exact hρ)⟩,hs.base.turnL hp hnd hfo (hf' x) (hl x) hkp ht⟩
 refine k x _ w' hpx ρ _ w' ((hs'.put _ _ _ (dOk_lt (σ:={ σ with own:=setOL σ.own ks (own' x) }) (by simpa [dOk] using hd)) fun _ _=>rfl).snap _ fun j oj b hj hn hS=>?_)
 have hj':(setOL σ.own ks (own' x))[j]?=some oj:=by cases hdst:o.dst<;>simpa [hdst,St.put] using hj
 obtain⟨hkl,hget⟩:=placed_get hp
 have hlt:∀ k,k∈ks→k<σ.own.length:=fun k hk=>by
  obtain⟨i,hi⟩:=List.getElem?_of_mem hk
  have h1:=(List.getElem?_eq_some_iff.1 hi).1
  exact(List.getElem?_eq_some_iff.1 (hget i k _ hi (List.getElem?_eq_getElem (show i<own.length by omega)))).1
 rcases setOL_get ks (own' x) σ.own j oj hnd hlt (by rw[hl x];exact hkl) hj' with⟨i,h1,h2⟩ | ⟨_,h2⟩
 · exact hS.2 ⟨i,oj,h2,by rw[← freeO_num (List.all_eq_true.1 (hf' x) oj (List.mem_of_getElem? h2)) ρ (fun _=>0) j 0];exact hn⟩
 · exact absurd (Own.lt (hs.base.own j oj h2 ρ (Agree.refl _ _)) hn) (by have:=hS.1;omega)
end
section
variable {P:Program} {ops:Array Oper} {Q:Exit→St→Prop} {σ:St} {l:List Oper} {o:Oper} {rest:List Oper} {ds:List (Option Nat)} {K:St→Prop}
def cntF (g:TypeId→Option Nat):Nat→List Field→Option Nat
 | i,[]=>some i
 |
  i,f::fs=>if (f.name != "_") && (f.offset == i) then (match g f.type with
  | some n=>cntF g (i+n) fs
  | none=>none) else none
def cntT (P:Program):Nat→TypeId→Option Nat
 | 0,_=>none
 |
  d+1,t=>match P.underlying t with
  | some (.int _)=>if aggB P t == some false then some 1 else none
  |
   some (.struct fs)=>if aggB P t == some true && P.stoodInHeld t == false then (match cntF (cntT P d) 0 fs.toList with
   | some n=>if szOf P t == some n then some n else none
   | none=>none) else none
  | _=>none
def intsN (P:Program) (t:TypeId):Option Nat:=if P.eqGuardType P.depth t == false && aggB P t == some true then cntT P 9 t else none
def mkV (P:Program) (t:TypeId) (as_:List Int):Value:=if aggB P t=some true then .agg (as_.map (Value.int .i64)).toArray else .int .i64 (as_.headD 0)
theorem cntF_le {g:TypeId→Option Nat}:∀ {fs:List Field} {i n:Nat},cntF g i fs=some n→i≤n
 | [],i,n,h=>by simp only[cntF,Option.some.injEq] at h;omega
 |
  f::fs,i,n,h=>by
  simp only[cntF] at h
  split at h
  ·
   split at h
   · have:=cntF_le h;omega
   · cases h
  · cases h
theorem cntT_spec {d:Nat} {t:TypeId} {n:Nat} (h:cntT P d t=some n):(aggB P t=some true∧szOf P t=some n)∨(aggB P t=some false∧n=1):=by
 cases d with
 | zero=>cases h
 |
  succ d=>
  simp only[cntT] at h
  split at h
  ·
   split at h
   · rename_i h1;simp only[Option.some.injEq] at h;exact .inr ⟨by simpa using h1,h.symm⟩
   · cases h
  ·
   split at h
   ·
    rename_i h1
    simp only[Bool.and_eq_true,beq_iff_eq] at h1
    split at h
    ·
     split at h
     ·
      rename_i h2
      simp only[Option.some.injEq] at h
      subst h
      exact .inl ⟨h1.1,by simpa using h2⟩
     · cases h
    · cases h
   · cases h
  · cases h
theorem run_partN {d:Nat} {t:TypeId} {n i:Nat} {as_:List Int} {w:World} (h:cntT P d t=some n) (hi:i+n≤as_.length):(part t (as_.map (Value.int .i64)).toArray i).run P w=.ok (mkV P t ((as_.drop i).take n)) w:=by
 unfold part
 rw[Sem.run_bind]
 rcases cntT_spec h with⟨h1,h2⟩ | ⟨h1,rfl⟩
 ·
  rw[run_aggB h1,Result.andThen_ok]
  simp only[if_true,Sem.run_bind,run_szOf h2,Result.andThen_ok,Sem.run_pure]
  simp only[mkV,h1,if_true]
  congr 2
  apply Array.ext'
  simp[List.map_take,List.map_drop]
 ·
  rw[run_aggB h1,Result.andThen_ok]
  have hlt:i<as_.length:=by omega
  simp only[Bool.false_eq_true,if_false]
  rw[show(as_.map (Value.int .i64)).toArray[i]?=some (.int .i64 as_[i]) by simp[hlt]]
  simp only[Sem.run_pure,mkV,h1]
  rw[if_neg (by simp)]
  congr 2
  rw[List.drop_eq_getElem_cons hlt];rfl
theorem beq_split {a b:List Int} (n:Nat) (hl:a.length=b.length):(a == b)=((a.take n == b.take n) && (a.drop n == b.drop n)):=by
 rw[Bool.eq_iff_iff,Bool.and_eq_true,beq_iff_eq,beq_iff_eq,beq_iff_eq]
 constructor
 · rintro rfl;exact⟨rfl,rfl⟩
 ·
  rintro⟨h1,h2⟩
  rw[← List.take_append_drop n a,← List.take_append_drop n b,h1,h2]
theorem run_eqFieldsN {d D:Nat} (ih:∀ (t:TypeId) (n:Nat) (as_ bs:List Int) (w:World),cntT P d t=some n→as_.length=n→bs.length=n→(Op.equalIn (D+d) t (mkV P t as_) (mkV P t bs)).run P w=.ok (as_ == bs) w) {as_ bs:List Int} {w:World} :
  ∀ (fs:List Field) (i total:Nat),cntF (cntT P d) i fs=some total→as_.length=total→bs.length=total→(Op.eqFields (D+d) (as_.map (Value.int .i64)).toArray (bs.map (Value.int .i64)).toArray fs).run P w=.ok (as_.drop i == bs.drop i) w
 |
  [],i,total,h,ha,hb=>by
  simp only[cntF,Option.some.injEq] at h
  subst h
  rw[List.drop_of_length_le (by omega),List.drop_of_length_le (by omega)]
  simp[Op.eqFields]
 |
  f::fs,i,total,h,ha,hb=>by
  simp only[cntF] at h
  split at h
  ·
   rename_i h1
   simp only[Bool.and_eq_true,bne_iff_ne,ne_eq,beq_iff_eq] at h1
   split at h
   ·
    rename_i n hn
    have hle:=cntF_le h
    have h2:=run_eqFieldsN ih (w:=w) fs (i+n) total h ha hb
    have h3:=ih f.type n ((as_.drop i).take n) ((bs.drop i).take n) w hn (by simp;omega) (by simp;omega)
    simp only[Op.eqFields,ne_eq,h1.1,not_false_eq_true,if_true,Sem.run_bind,h1.2,run_partN hn (show i+n≤as_.length by omega),run_partN hn (show i+n≤bs.length by omega),Result.andThen_ok,h3]
    rw[beq_split n (show(as_.drop i).length=(bs.drop i).length by simp;omega),List.drop_drop,List.drop_drop]
    cases hab:((as_.drop i).take n == (bs.drop i).take n)
    · simp
    · simp only[Bool.not_true,Bool.false_eq_true,if_false,h2,Bool.true_and]
   · cases h
  · cases h
theorem run_eqN:∀ (d D:Nat) (t:TypeId) (n:Nat) (as_ bs:List Int) (w:World),cntT P d t=some n→as_.length=n→bs.length=n→(Op.equalIn (D+d) t (mkV P t as_) (mkV P t bs)).run P w=.ok (as_ == bs) w
 | 0,_,_,_,_,_,_,h,_,_=>by cases h
 |
  d+1,D,t,n,as_,bs,w,h,ha,hb=>by
  have hsp:=cntT_spec h
  simp only[cntT] at h
  split at h
  ·
   rename_i k hu
   split at h
   ·
    rename_i h1
    simp only[Option.some.injEq] at h
    subst h
    obtain⟨a,rfl⟩:=List.length_eq_one_iff.1 ha
    obtain⟨b,rfl⟩:=List.length_eq_one_iff.1 hb
    have h1:aggB P t=some false:=by simpa using h1
    simp only[mkV,h1]
    rw[if_neg (by simp),if_neg (by simp)]
    show(Op.equalIn (D+d+1) t (.int .i64 a) (.int .i64 b)).run P w=_
    rw[run_equalIn_int w (D+d) t .i64 k a b hu]
    simp
   · cases h
  ·
   rename_i fs hu
   split at h
   ·
    rename_i h1
    simp only[Bool.and_eq_true,beq_iff_eq] at h1
    split at h
    ·
     rename_i m hm
     split at h
     ·
      simp only[Option.some.injEq] at h
      subst h
      have hfo:P.fieldsOf t=fs:=by unfold Program.fieldsOf;rw[hu]
      simp only[mkV,h1.1,if_true]
      show(Op.equalIn (D+d+1) t _ _).run P w=_
      rw[run_equalIn_struct w (D+d) t _ _ (by rw[hfo];exact hu) h1.2,hfo]
      have:=run_eqFieldsN (run_eqN d D) (w:=w) fs.toList 0 m hm ha hb
      simpa using this
     · cases h
    · cases h
   · cases h
  · cases h
theorem run_aggCmpN {op:BinOp} {t:TypeId} {x y:Operand} {n:Nat} {as_ bs:List Int} {r:Bool} {w:World} (ht:intsN P t=some n) (ha:as_.length=n) (hb:bs.length=n) (hr:eqRes op (as_ == bs)=some r) :
  (do eqGuard op t x y (.agg (as_.map (Value.int .i64)).toArray) (.agg (bs.map (Value.int .i64)).toArray);binOp op t (.agg (as_.map (Value.int .i64)).toArray) (.agg (bs.map (Value.int .i64)).toArray):Sem Value).run P w=.ok (.bool r) w:=by
 unfold intsN at ht
 split at ht
 ·
  rename_i h1
  simp only[Bool.and_eq_true,beq_iff_eq] at h1
  have he:=run_eqN (P:=P) 9 9991 t n as_ bs w ht ha hb
  simp only[mkV,h1.2,if_true] at he
  rw[Sem.run_bind,run_eqGuard_agg h1.1,Result.andThen_ok]
  unfold eqRes at hr
  split at hr
  ·
   simp only[Option.some.injEq] at hr;subst hr
   rw[run_eql_struct]
   have he':(Op.equalIn 10000 t (.agg (as_.map (Value.int .i64)).toArray) (.agg (bs.map (Value.int .i64)).toArray)).run P w=.ok (as_ == bs) w:=he
   rw[he'];rfl
  ·
   simp only[Option.some.injEq] at hr;subst hr
   rw[run_neq_struct]
   have he':(Op.equalIn 10000 t (.agg (as_.map (Value.int .i64)).toArray) (.agg (bs.map (Value.int .i64)).toArray)).run P w=.ok (as_ == bs) w:=he
   rw[he'];rfl
  · cases hr
 · cases ht
theorem WO.aggCmpN {op:BinOp} {t ty:TypeId} {x y:Operand} {n:Nat} {r:Bool} (as_ bs:List Int) (hds:dsOk ds ops.toList=true) (hg:gd ds σ o.guard=some true) (hd:dOk σ o.dst=true)
  (hop:o.op=.binOp op t x y ty) (hx:∃ s,ev σ x=some s∧∀ ρ,den ρ s=.agg (as_.map (Value.int .i64)).toArray) (hy:∃ s,ev σ y=some s∧∀ ρ,den ρ s=.agg (bs.map (Value.int .i64)).toArray)
  (ht:intsN P t=some n) (ha:as_.length=n) (hb:bs.length=n) (hr:eqRes op (as_ == bs)=some r) (hk:WO P ops Q rest (σ.put o.dst (.val (.bool r)))):WO P ops Q (o::rest) σ:=
 WO.one hds hg fun ρ a w hs=>by
  obtain⟨s1,e1,d1⟩:=hx
  obtain⟨s2,e2,d2⟩:=hy
  refine⟨ρ,_,.bool r,w,.inl ?_,hs.put _ _ _ (dOk_lt hd) (fun ρ' hρ=>rfl),hk⟩
  unfold execOp
  rw[hop]
  simp only[hs.ev e1 ρ (Agree.refl _ _),hs.ev e2 ρ (Agree.refl _ _),d1,d2]
  rw[Sem.run_bind,run_aggCmpN ht ha hb hr]
  rfl
theorem WQ.aggCmpN {op:BinOp} {t ty:TypeId} {x y:Operand} {n:Nat} {r:Bool} (as_ bs:List Int) (hds:dsOk ds ops.toList=true) (hg:gd ds σ o.guard=some true) (hd:dOk σ o.dst=true)
  (hop:o.op=.binOp op t x y ty) (hx:∃ s,ev σ x=some s∧∀ ρ,den ρ s=.agg (as_.map (Value.int .i64)).toArray) (hy:∃ s,ev σ y=some s∧∀ ρ,den ρ s=.agg (bs.map (Value.int .i64)).toArray)
  (ht:intsN P t=some n) (ha:as_.length=n) (hb:bs.length=n) (hr:eqRes op (as_ == bs)=some r) (hk:WQ P ops K rest (σ.put o.dst (.val (.bool r)))):WQ P ops K (o::rest) σ:=
 WQ.one hds hg hd _ (fun ρ a w hs=>by
  obtain⟨s1,e1,d1⟩:=hx
  obtain⟨s2,e2,d2⟩:=hy
  refine⟨_,?_,fun _ _=>rfl⟩
  unfold execOp
  rw[hop]
  simp only[hs.ev e1 ρ (Agree.refl _ _),hs.ev e2 ρ (Agree.refl _ _),d1,d2]
  rw[Sem.run_bind,run_aggCmpN ht ha hb hr]
  rfl) hk
end
end Go.SX
namespace Go.Proofs.YtolmeekbjonbcaaGreatDoor
set_option maxRecDepth 100000
open Go Go.SX
theorem agg101:aggB Tryz.prog 101=some true:=by kernel_rfl
theorem agg112:aggB Tryz.prog 112=some true:=by kernel_rfl
theorem agg120:aggB Tryz.prog 120=some false:=by kernel_rfl
theorem agg121:aggB Tryz.prog 121=some false:=by kernel_rfl
theorem agg123:aggB Tryz.prog 123=some true:=by kernel_rfl
theorem agg124:aggB Tryz.prog 124=some false:=by kernel_rfl
theorem agg126:aggB Tryz.prog 126=some true:=by kernel_rfl
theorem agg127:aggB Tryz.prog 127=some false:=by kernel_rfl
theorem agg129:aggB Tryz.prog 129=some true:=by kernel_rfl
theorem agg131:aggB Tryz.prog 131=some true:=by kernel_rfl
theorem agg134:aggB Tryz.prog 134=some true:=by kernel_rfl
theorem agg162:aggB Tryz.prog 162=some false:=by kernel_rfl
theorem agg176:aggB Tryz.prog 176=some false:=by kernel_rfl
theorem agg177:aggB Tryz.prog 177=some false:=by kernel_rfl
theorem agg179:aggB Tryz.prog 179=some true:=by kernel_rfl
theorem agg185:aggB Tryz.prog 185=some true:=by kernel_rfl
theorem agg194:aggB Tryz.prog 194=some false:=by kernel_rfl
theorem agg203:aggB Tryz.prog 203=some false:=by kernel_rfl
theorem agg206:aggB Tryz.prog 206=some false:=by kernel_rfl
theorem agg22:aggB Tryz.prog 22=some false:=by kernel_rfl
theorem agg223:aggB Tryz.prog 223=some true:=by kernel_rfl
theorem agg229:aggB Tryz.prog 229=some true:=by kernel_rfl
theorem agg23:aggB Tryz.prog 23=some false:=by kernel_rfl
theorem agg24:aggB Tryz.prog 24=some false:=by kernel_rfl
theorem agg256:aggB Tryz.prog 256=some true:=by kernel_rfl
theorem agg257:aggB Tryz.prog 257=some true:=by kernel_rfl
theorem agg26:aggB Tryz.prog 26=some true:=by kernel_rfl
theorem agg262:aggB Tryz.prog 262=some true:=by kernel_rfl
theorem agg265:aggB Tryz.prog 265=some true:=by kernel_rfl
theorem agg267:aggB Tryz.prog 267=some true:=by kernel_rfl
theorem agg27:aggB Tryz.prog 27=some false:=by kernel_rfl
theorem agg270:aggB Tryz.prog 270=some false:=by kernel_rfl
theorem agg29:aggB Tryz.prog 29=some true:=by kernel_rfl
theorem agg3:aggB Tryz.prog 3=some false:=by kernel_rfl
theorem agg34:aggB Tryz.prog 34=some false:=by kernel_rfl
theorem agg37:aggB Tryz.prog 37=some false:=by kernel_rfl
theorem agg41:aggB Tryz.prog 41=some false:=by kernel_rfl
theorem agg46:aggB Tryz.prog 46=some true:=by kernel_rfl
theorem agg48:aggB Tryz.prog 48=some true:=by kernel_rfl
theorem agg50:aggB Tryz.prog 50=some true:=by kernel_rfl
theorem agg52:aggB Tryz.prog 52=some false:=by kernel_rfl
theorem agg57:aggB Tryz.prog 57=some true:=by kernel_rfl
theorem agg58:aggB Tryz.prog 58=some false:=by kernel_rfl
theorem agg60:aggB Tryz.prog 60=some true:=by kernel_rfl
theorem agg62:aggB Tryz.prog 62=some true:=by kernel_rfl
theorem agg64:aggB Tryz.prog 64=some false:=by kernel_rfl
theorem agg65:aggB Tryz.prog 65=some false:=by kernel_rfl
theorem agg66:aggB Tryz.prog 66=some false:=by kernel_rfl
theorem agg67:aggB Tryz.prog 67=some false:=by kernel_rfl
theorem agg69:aggB Tryz.prog 69=some true:=by kernel_rfl
theorem agg75:aggB Tryz.prog 75=some true:=by kernel_rfl
theorem agg80:aggB Tryz.prog 80=some true:=by kernel_rfl
theorem agg82:aggB Tryz.prog 82=some false:=by kernel_rfl
theorem agg89:aggB Tryz.prog 89=some true:=by kernel_rfl
theorem agg9:aggB Tryz.prog 9=some false:=by kernel_rfl
theorem agg92:aggB Tryz.prog 92=some false:=by kernel_rfl
theorem agg94:aggB Tryz.prog 94=some false:=by kernel_rfl
theorem ar265:arrP Tryz.prog 265=some (7,3,1):=by kernel_rfl
theorem bo4:boolT Tryz.prog 4=true:=by kernel_rfl
theorem co10:callOk Tryz.prog 10=true:=by kernel_rfl
theorem co101:callOk Tryz.prog 101=true:=by kernel_rfl
theorem co102:callOk Tryz.prog 102=true:=by kernel_rfl
theorem co103:callOk Tryz.prog 103=true:=by kernel_rfl
theorem co104:callOk Tryz.prog 104=true:=by kernel_rfl
theorem co105:callOk Tryz.prog 105=true:=by kernel_rfl
theorem co106:callOk Tryz.prog 106=true:=by kernel_rfl
theorem co107:callOk Tryz.prog 107=true:=by kernel_rfl
theorem co108:callOk Tryz.prog 108=true:=by kernel_rfl
theorem co109:callOk Tryz.prog 109=true:=by kernel_rfl
theorem co11:callOk Tryz.prog 11=true:=by kernel_rfl
theorem co110:callOk Tryz.prog 110=true:=by kernel_rfl
theorem co111:callOk Tryz.prog 111=true:=by kernel_rfl
theorem co112:callOk Tryz.prog 112=true:=by kernel_rfl
theorem co114:callOk Tryz.prog 114=true:=by kernel_rfl
theorem co115:callOk Tryz.prog 115=true:=by kernel_rfl
theorem co116:callOk Tryz.prog 116=true:=by kernel_rfl
theorem co117:callOk Tryz.prog 117=true:=by kernel_rfl
theorem co118:callOk Tryz.prog 118=true:=by kernel_rfl
theorem co119:callOk Tryz.prog 119=true:=by kernel_rfl
theorem co12:callOk Tryz.prog 12=true:=by kernel_rfl
theorem co120:callOk Tryz.prog 120=true:=by kernel_rfl
theorem co121:callOk Tryz.prog 121=true:=by kernel_rfl
theorem co122:callOk Tryz.prog 122=true:=by kernel_rfl
theorem co123:callOk Tryz.prog 123=true:=by kernel_rfl
theorem co124:callOk Tryz.prog 124=true:=by kernel_rfl
theorem co125:callOk Tryz.prog 125=true:=by kernel_rfl
theorem co126:callOk Tryz.prog 126=true:=by kernel_rfl
theorem co127:callOk Tryz.prog 127=true:=by kernel_rfl
theorem co128:callOk Tryz.prog 128=true:=by kernel_rfl
theorem co129:callOk Tryz.prog 129=true:=by kernel_rfl
theorem co13:callOk Tryz.prog 13=true:=by kernel_rfl
theorem co130:callOk Tryz.prog 130=true:=by kernel_rfl
theorem co134:callOk Tryz.prog 134=true:=by kernel_rfl
theorem co135:callOk Tryz.prog 135=true:=by kernel_rfl
theorem co136:callOk Tryz.prog 136=true:=by kernel_rfl
theorem co137:callOk Tryz.prog 137=true:=by kernel_rfl
theorem co138:callOk Tryz.prog 138=true:=by kernel_rfl
theorem co139:callOk Tryz.prog 139=true:=by kernel_rfl
theorem co14:callOk Tryz.prog 14=true:=by kernel_rfl
theorem co140:callOk Tryz.prog 140=true:=by kernel_rfl
theorem co141:callOk Tryz.prog 141=true:=by kernel_rfl
theorem co143:callOk Tryz.prog 143=true:=by kernel_rfl
theorem co144:callOk Tryz.prog 144=true:=by kernel_rfl
theorem co145:callOk Tryz.prog 145=true:=by kernel_rfl
theorem co146:callOk Tryz.prog 146=true:=by kernel_rfl
theorem co149:callOk Tryz.prog 149=true:=by kernel_rfl
theorem co15:callOk Tryz.prog 15=true:=by kernel_rfl
theorem co150:callOk Tryz.prog 150=true:=by kernel_rfl
theorem co152:callOk Tryz.prog 152=true:=by kernel_rfl
theorem co157:callOk Tryz.prog 157=true:=by kernel_rfl
theorem co158:callOk Tryz.prog 158=true:=by kernel_rfl
theorem co159:callOk Tryz.prog 159=true:=by kernel_rfl
theorem co16:callOk Tryz.prog 16=true:=by kernel_rfl
theorem co160:callOk Tryz.prog 160=true:=by kernel_rfl
theorem co161:callOk Tryz.prog 161=true:=by kernel_rfl
theorem co162:callOk Tryz.prog 162=true:=by kernel_rfl
theorem co163:callOk Tryz.prog 163=true:=by kernel_rfl
theorem co164:callOk Tryz.prog 164=true:=by kernel_rfl
theorem co165:callOk Tryz.prog 165=true:=by kernel_rfl
theorem co166:callOk Tryz.prog 166=true:=by kernel_rfl
theorem co167:callOk Tryz.prog 167=true:=by kernel_rfl
theorem co168:callOk Tryz.prog 168=true:=by kernel_rfl
theorem co169:callOk Tryz.prog 169=true:=by kernel_rfl
theorem co17:callOk Tryz.prog 17=true:=by kernel_rfl
theorem co170:callOk Tryz.prog 170=true:=by kernel_rfl
theorem co171:callOk Tryz.prog 171=true:=by kernel_rfl
theorem co172:callOk Tryz.prog 172=true:=by kernel_rfl
theorem co173:callOk Tryz.prog 173=true:=by kernel_rfl
theorem co174:callOk Tryz.prog 174=true:=by kernel_rfl
theorem co175:callOk Tryz.prog 175=true:=by kernel_rfl
theorem co18:callOk Tryz.prog 18=true:=by kernel_rfl
theorem co188:callOk Tryz.prog 188=true:=by kernel_rfl
theorem co189:callOk Tryz.prog 189=true:=by kernel_rfl
theorem co19:callOk Tryz.prog 19=true:=by kernel_rfl
theorem co190:callOk Tryz.prog 190=true:=by kernel_rfl
theorem co191:callOk Tryz.prog 191=true:=by kernel_rfl
theorem co194:callOk Tryz.prog 194=true:=by kernel_rfl
theorem co195:callOk Tryz.prog 195=true:=by kernel_rfl
theorem co199:callOk Tryz.prog 199=true:=by kernel_rfl
theorem co20:callOk Tryz.prog 20=true:=by kernel_rfl
theorem co200:callOk Tryz.prog 200=true:=by kernel_rfl
theorem co201:callOk Tryz.prog 201=true:=by kernel_rfl
theorem co202:callOk Tryz.prog 202=true:=by kernel_rfl
theorem co203:callOk Tryz.prog 203=true:=by kernel_rfl
theorem co204:callOk Tryz.prog 204=true:=by kernel_rfl
theorem co205:callOk Tryz.prog 205=true:=by kernel_rfl
theorem co206:callOk Tryz.prog 206=true:=by kernel_rfl
theorem co21:callOk Tryz.prog 21=true:=by kernel_rfl
theorem co213:callOk Tryz.prog 213=true:=by kernel_rfl
theorem co214:callOk Tryz.prog 214=true:=by kernel_rfl
theorem co215:callOk Tryz.prog 215=true:=by kernel_rfl
theorem co216:callOk Tryz.prog 216=true:=by kernel_rfl
theorem co217:callOk Tryz.prog 217=true:=by kernel_rfl
theorem co219:callOk Tryz.prog 219=true:=by kernel_rfl
theorem co22:callOk Tryz.prog 22=true:=by kernel_rfl
theorem co220:callOk Tryz.prog 220=true:=by kernel_rfl
theorem co221:callOk Tryz.prog 221=true:=by kernel_rfl
theorem co222:callOk Tryz.prog 222=true:=by kernel_rfl
theorem co223:callOk Tryz.prog 223=true:=by kernel_rfl
theorem co224:callOk Tryz.prog 224=true:=by kernel_rfl
theorem co225:callOk Tryz.prog 225=true:=by kernel_rfl
theorem co226:callOk Tryz.prog 226=true:=by kernel_rfl
theorem co23:callOk Tryz.prog 23=true:=by kernel_rfl
theorem co236:callOk Tryz.prog 236=true:=by kernel_rfl
theorem co237:callOk Tryz.prog 237=true:=by kernel_rfl
theorem co24:callOk Tryz.prog 24=true:=by kernel_rfl
theorem co25:callOk Tryz.prog 25=true:=by kernel_rfl
theorem co26:callOk Tryz.prog 26=true:=by kernel_rfl
theorem co27:callOk Tryz.prog 27=true:=by kernel_rfl
theorem co28:callOk Tryz.prog 28=true:=by kernel_rfl
theorem co29:callOk Tryz.prog 29=true:=by kernel_rfl
theorem co30:callOk Tryz.prog 30=true:=by kernel_rfl
theorem co31:callOk Tryz.prog 31=true:=by kernel_rfl
theorem co32:callOk Tryz.prog 32=true:=by kernel_rfl
theorem co33:callOk Tryz.prog 33=true:=by kernel_rfl
theorem co34:callOk Tryz.prog 34=true:=by kernel_rfl
theorem co35:callOk Tryz.prog 35=true:=by kernel_rfl
theorem co36:callOk Tryz.prog 36=true:=by kernel_rfl
theorem co37:callOk Tryz.prog 37=true:=by kernel_rfl
theorem co38:callOk Tryz.prog 38=true:=by kernel_rfl
theorem co39:callOk Tryz.prog 39=true:=by kernel_rfl
theorem co4:callOk Tryz.prog 4=true:=by kernel_rfl
theorem co40:callOk Tryz.prog 40=true:=by kernel_rfl
theorem co41:callOk Tryz.prog 41=true:=by kernel_rfl
theorem co42:callOk Tryz.prog 42=true:=by kernel_rfl
theorem co43:callOk Tryz.prog 43=true:=by kernel_rfl
theorem co44:callOk Tryz.prog 44=true:=by kernel_rfl
theorem co45:callOk Tryz.prog 45=true:=by kernel_rfl
theorem co46:callOk Tryz.prog 46=true:=by kernel_rfl
theorem co47:callOk Tryz.prog 47=true:=by kernel_rfl
theorem co48:callOk Tryz.prog 48=true:=by kernel_rfl
theorem co49:callOk Tryz.prog 49=true:=by kernel_rfl
theorem co5:callOk Tryz.prog 5=true:=by kernel_rfl
theorem co50:callOk Tryz.prog 50=true:=by kernel_rfl
theorem co51:callOk Tryz.prog 51=true:=by kernel_rfl
theorem co52:callOk Tryz.prog 52=true:=by kernel_rfl
theorem co53:callOk Tryz.prog 53=true:=by kernel_rfl
theorem co54:callOk Tryz.prog 54=true:=by kernel_rfl
theorem co55:callOk Tryz.prog 55=true:=by kernel_rfl
theorem co56:callOk Tryz.prog 56=true:=by kernel_rfl
theorem co57:callOk Tryz.prog 57=true:=by kernel_rfl
theorem co58:callOk Tryz.prog 58=true:=by kernel_rfl
theorem co59:callOk Tryz.prog 59=true:=by kernel_rfl
theorem co6:callOk Tryz.prog 6=true:=by kernel_rfl
theorem co60:callOk Tryz.prog 60=true:=by kernel_rfl
theorem co61:callOk Tryz.prog 61=true:=by kernel_rfl
theorem co62:callOk Tryz.prog 62=true:=by kernel_rfl
theorem co63:callOk Tryz.prog 63=true:=by kernel_rfl
theorem co64:callOk Tryz.prog 64=true:=by kernel_rfl
theorem co65:callOk Tryz.prog 65=true:=by kernel_rfl
theorem co66:callOk Tryz.prog 66=true:=by kernel_rfl
theorem co68:callOk Tryz.prog 68=true:=by kernel_rfl
theorem co69:callOk Tryz.prog 69=true:=by kernel_rfl
theorem co7:callOk Tryz.prog 7=true:=by kernel_rfl
theorem co70:callOk Tryz.prog 70=true:=by kernel_rfl
theorem co71:callOk Tryz.prog 71=true:=by kernel_rfl
theorem co72:callOk Tryz.prog 72=true:=by kernel_rfl
theorem co73:callOk Tryz.prog 73=true:=by kernel_rfl
theorem co74:callOk Tryz.prog 74=true:=by kernel_rfl
theorem co78:callOk Tryz.prog 78=true:=by kernel_rfl
theorem co79:callOk Tryz.prog 79=true:=by kernel_rfl
theorem co8:callOk Tryz.prog 8=true:=by kernel_rfl
theorem co80:callOk Tryz.prog 80=true:=by kernel_rfl
theorem co81:callOk Tryz.prog 81=true:=by kernel_rfl
theorem co82:callOk Tryz.prog 82=true:=by kernel_rfl
theorem co83:callOk Tryz.prog 83=true:=by kernel_rfl
theorem co84:callOk Tryz.prog 84=true:=by kernel_rfl
theorem co85:callOk Tryz.prog 85=true:=by kernel_rfl
theorem co86:callOk Tryz.prog 86=true:=by kernel_rfl
theorem co87:callOk Tryz.prog 87=true:=by kernel_rfl
theorem co88:callOk Tryz.prog 88=true:=by kernel_rfl
theorem co89:callOk Tryz.prog 89=true:=by kernel_rfl
theorem co9:callOk Tryz.prog 9=true:=by kernel_rfl
theorem co90:callOk Tryz.prog 90=true:=by kernel_rfl
theorem co92:callOk Tryz.prog 92=true:=by kernel_rfl
theorem co93:callOk Tryz.prog 93=true:=by kernel_rfl
theorem co94:callOk Tryz.prog 94=true:=by kernel_rfl
theorem cv183_5:convTo Tryz.prog 183 5=some .u8:=by kernel_rfl
theorem cv213_251:convTo Tryz.prog 213 251=some .u32:=by kernel_rfl
theorem cv213_3:convTo Tryz.prog 213 3=some .i64:=by kernel_rfl
theorem cv251_5:convTo Tryz.prog 251 5=some .u8:=by kernel_rfl
theorem cv3_213:convTo Tryz.prog 3 213=some .u64:=by kernel_rfl
theorem cv3_270:convTo Tryz.prog 3 270=some .u64:=by kernel_rfl
theorem cv5_3:convTo Tryz.prog 5 3=some .i64:=by kernel_rfl
theorem ek22:elemK Tryz.prog 22=some (75,4,32,[.int .i64 0,.int .i64 0,.int .i64 0,.int .i64 0]):=by kernel_rfl
theorem ek23:elemK Tryz.prog 23=some (50,13,104,[.int .i64 0,.int .i64 0,.int .i64 0,.int .i64 0,.int .i64 0,.int .i64 0,.int .i64 0,.int .i64 0,.int .i64 0,.int .i64 0,.int .i64 0,.int .i64 0,.int .i64 0]):=by kernel_rfl
theorem ek24:elemK Tryz.prog 24=some (89,12,96,[.int .i64 0,.int .i64 0,.int .i64 0,.int .i64 0,.int .i64 0,.int .i64 0,.int .i64 0,.int .i64 0,.int .i64 0,.int .i64 0,.int .i64 0,.int .i64 0]):=by kernel_rfl
theorem ek27:elemK Tryz.prog 27=some (60,5,56,[.int .i64 0,.int .i64 0,.int .i64 0,.int .i64 0,.slice none 0 0]):=by kernel_rfl
theorem ek37:elemK Tryz.prog 37=some (101,15,120,[.int .i64 0,.int .i64 0,.int .i64 0,.int .i64 0,.int .i64 0,.int .i64 0,.int .i64 0,.int .i64 0,.int .i64 0,.int .i64 0,.int .i64 0,.int .i64 0,.int .i64 0,.int .i64 0,.int .i64 0]):=by kernel_rfl
theorem ek41:elemK Tryz.prog 41=some (34,1,8,[.int .i64 0]):=by kernel_rfl
theorem ek58:elemK Tryz.prog 58=some (62,10,80,[.int .i64 0,.int .i64 0,.int .i64 0,.int .i64 0,.int .i64 0,.int .i64 0,.int .i64 0,.int .i64 0,.int .i64 0,.int .i64 0]):=by kernel_rfl
theorem ek94:elemK Tryz.prog 94=some (3,1,8,[.int .i64 0]):=by kernel_rfl
theorem el120:elemSz Tryz.prog 120=some (256,3):=by kernel_rfl
theorem el121:elemSz Tryz.prog 121=some (257,3):=by kernel_rfl
theorem el124:elemSz Tryz.prog 124=some (223,3):=by kernel_rfl
theorem el127:elemSz Tryz.prog 127=some (134,3):=by kernel_rfl
theorem el176:elemSz Tryz.prog 176=some (229,3):=by kernel_rfl
theorem el177:elemSz Tryz.prog 177=some (262,2):=by kernel_rfl
theorem el22:elemSz Tryz.prog 22=some (75,4):=by kernel_rfl
theorem el23:elemSz Tryz.prog 23=some (50,13):=by kernel_rfl
theorem el24:elemSz Tryz.prog 24=some (89,12):=by kernel_rfl
theorem el27:elemSz Tryz.prog 27=some (60,5):=by kernel_rfl
theorem el37:elemSz Tryz.prog 37=some (101,15):=by kernel_rfl
theorem el41:elemSz Tryz.prog 41=some (34,1):=by kernel_rfl
theorem el58:elemSz Tryz.prog 58=some (62,10):=by kernel_rfl
theorem el64:elemSz Tryz.prog 64=some (129,12):=by kernel_rfl
theorem el65:elemSz Tryz.prog 65=some (179,4):=by kernel_rfl
theorem el66:elemSz Tryz.prog 66=some (185,6):=by kernel_rfl
theorem el67:elemSz Tryz.prog 67=some (131,5):=by kernel_rfl
theorem el94:elemSz Tryz.prog 94=some (3,1):=by kernel_rfl
theorem fo101_0:fieldOff Tryz.prog 101 0=some 0:=by kernel_rfl
theorem fo101_1:fieldOff Tryz.prog 101 1=some 1:=by kernel_rfl
theorem fo101_2:fieldOff Tryz.prog 101 2=some 2:=by kernel_rfl
theorem fo101_3:fieldOff Tryz.prog 101 3=some 3:=by kernel_rfl
theorem fo112_0:fieldOff Tryz.prog 112 0=some 0:=by kernel_rfl
theorem fo123_0:fieldOff Tryz.prog 123 0=some 0:=by kernel_rfl
theorem fo123_1:fieldOff Tryz.prog 123 1=some 1:=by kernel_rfl
theorem fo123_2:fieldOff Tryz.prog 123 2=some 2:=by kernel_rfl
theorem fo126_0:fieldOff Tryz.prog 126 0=some 0:=by kernel_rfl
theorem fo126_1:fieldOff Tryz.prog 126 1=some 1:=by kernel_rfl
theorem fo126_2:fieldOff Tryz.prog 126 2=some 2:=by kernel_rfl
theorem fo126_3:fieldOff Tryz.prog 126 3=some 3:=by kernel_rfl
theorem fo126_4:fieldOff Tryz.prog 126 4=some 6:=by kernel_rfl
theorem fo129_0:fieldOff Tryz.prog 129 0=some 0:=by kernel_rfl
theorem fo129_1:fieldOff Tryz.prog 129 1=some 4:=by kernel_rfl
theorem fo129_2:fieldOff Tryz.prog 129 2=some 11:=by kernel_rfl
theorem fo131_0:fieldOff Tryz.prog 131 0=some 0:=by kernel_rfl
theorem fo131_1:fieldOff Tryz.prog 131 1=some 1:=by kernel_rfl
theorem fo131_2:fieldOff Tryz.prog 131 2=some 2:=by kernel_rfl
theorem fo131_3:fieldOff Tryz.prog 131 3=some 3:=by kernel_rfl
theorem fo131_4:fieldOff Tryz.prog 131 4=some 4:=by kernel_rfl
theorem fo134_0:fieldOff Tryz.prog 134 0=some 0:=by kernel_rfl
theorem fo134_1:fieldOff Tryz.prog 134 1=some 1:=by kernel_rfl
theorem fo179_0:fieldOff Tryz.prog 179 0=some 0:=by kernel_rfl
theorem fo179_1:fieldOff Tryz.prog 179 1=some 1:=by kernel_rfl
theorem fo179_2:fieldOff Tryz.prog 179 2=some 2:=by kernel_rfl
theorem fo179_3:fieldOff Tryz.prog 179 3=some 3:=by kernel_rfl
theorem fo185_0:fieldOff Tryz.prog 185 0=some 0:=by kernel_rfl
theorem fo185_1:fieldOff Tryz.prog 185 1=some 1:=by kernel_rfl
theorem fo185_2:fieldOff Tryz.prog 185 2=some 2:=by kernel_rfl
theorem fo185_3:fieldOff Tryz.prog 185 3=some 3:=by kernel_rfl
theorem fo185_4:fieldOff Tryz.prog 185 4=some 4:=by kernel_rfl
theorem fo223_0:fieldOff Tryz.prog 223 0=some 0:=by kernel_rfl
theorem fo223_1:fieldOff Tryz.prog 223 1=some 1:=by kernel_rfl
theorem fo223_2:fieldOff Tryz.prog 223 2=some 2:=by kernel_rfl
theorem fo229_0:fieldOff Tryz.prog 229 0=some 0:=by kernel_rfl
theorem fo229_1:fieldOff Tryz.prog 229 1=some 1:=by kernel_rfl
theorem fo229_2:fieldOff Tryz.prog 229 2=some 2:=by kernel_rfl
theorem fo256_0:fieldOff Tryz.prog 256 0=some 0:=by kernel_rfl
theorem fo256_1:fieldOff Tryz.prog 256 1=some 1:=by kernel_rfl
theorem fo256_2:fieldOff Tryz.prog 256 2=some 2:=by kernel_rfl
theorem fo257_0:fieldOff Tryz.prog 257 0=some 0:=by kernel_rfl
theorem fo257_1:fieldOff Tryz.prog 257 1=some 1:=by kernel_rfl
theorem fo257_2:fieldOff Tryz.prog 257 2=some 2:=by kernel_rfl
theorem fo262_0:fieldOff Tryz.prog 262 0=some 0:=by kernel_rfl
theorem fo262_1:fieldOff Tryz.prog 262 1=some 1:=by kernel_rfl
theorem fo267_0:fieldOff Tryz.prog 267 0=some 0:=by kernel_rfl
theorem fo267_1:fieldOff Tryz.prog 267 1=some 1:=by kernel_rfl
theorem fo26_0:fieldOff Tryz.prog 26 0=some 0:=by kernel_rfl
theorem fo26_1:fieldOff Tryz.prog 26 1=some 1:=by kernel_rfl
theorem fo26_2:fieldOff Tryz.prog 26 2=some 2:=by kernel_rfl
theorem fo26_3:fieldOff Tryz.prog 26 3=some 3:=by kernel_rfl
theorem fo29_0:fieldOff Tryz.prog 29 0=some 0:=by kernel_rfl
theorem fo29_1:fieldOff Tryz.prog 29 1=some 1:=by kernel_rfl
theorem fo46_0:fieldOff Tryz.prog 46 0=some 0:=by kernel_rfl
theorem fo46_1:fieldOff Tryz.prog 46 1=some 1:=by kernel_rfl
theorem fo48_0:fieldOff Tryz.prog 48 0=some 0:=by kernel_rfl
theorem fo48_1:fieldOff Tryz.prog 48 1=some 1:=by kernel_rfl
theorem fo48_2:fieldOff Tryz.prog 48 2=some 2:=by kernel_rfl
theorem fo50_0:fieldOff Tryz.prog 50 0=some 0:=by kernel_rfl
theorem fo50_1:fieldOff Tryz.prog 50 1=some 1:=by kernel_rfl
theorem fo50_2:fieldOff Tryz.prog 50 2=some 2:=by kernel_rfl
theorem fo50_3:fieldOff Tryz.prog 50 3=some 3:=by kernel_rfl
theorem fo50_4:fieldOff Tryz.prog 50 4=some 4:=by kernel_rfl
theorem fo50_5:fieldOff Tryz.prog 50 5=some 5:=by kernel_rfl
theorem fo50_6:fieldOff Tryz.prog 50 6=some 7:=by kernel_rfl
theorem fo50_7:fieldOff Tryz.prog 50 7=some 10:=by kernel_rfl
theorem fo57_0:fieldOff Tryz.prog 57 0=some 0:=by kernel_rfl
theorem fo57_1:fieldOff Tryz.prog 57 1=some 1:=by kernel_rfl
theorem fo60_0:fieldOff Tryz.prog 60 0=some 0:=by kernel_rfl
theorem fo60_1:fieldOff Tryz.prog 60 1=some 1:=by kernel_rfl
theorem fo60_2:fieldOff Tryz.prog 60 2=some 2:=by kernel_rfl
theorem fo60_3:fieldOff Tryz.prog 60 3=some 4:=by kernel_rfl
theorem fo62_0:fieldOff Tryz.prog 62 0=some 0:=by kernel_rfl
theorem fo62_1:fieldOff Tryz.prog 62 1=some 1:=by kernel_rfl
theorem fo62_2:fieldOff Tryz.prog 62 2=some 2:=by kernel_rfl
theorem fo62_3:fieldOff Tryz.prog 62 3=some 3:=by kernel_rfl
theorem fo62_4:fieldOff Tryz.prog 62 4=some 5:=by kernel_rfl
theorem fo62_5:fieldOff Tryz.prog 62 5=some 7:=by kernel_rfl
theorem fo69_0:fieldOff Tryz.prog 69 0=some 0:=by kernel_rfl
theorem fo69_1:fieldOff Tryz.prog 69 1=some 1:=by kernel_rfl
theorem fo69_2:fieldOff Tryz.prog 69 2=some 2:=by kernel_rfl
theorem fo69_3:fieldOff Tryz.prog 69 3=some 3:=by kernel_rfl
theorem fo75_0:fieldOff Tryz.prog 75 0=some 0:=by kernel_rfl
theorem fo75_1:fieldOff Tryz.prog 75 1=some 1:=by kernel_rfl
theorem fo75_2:fieldOff Tryz.prog 75 2=some 3:=by kernel_rfl
theorem fo80_0:fieldOff Tryz.prog 80 0=some 0:=by kernel_rfl
theorem fo80_1:fieldOff Tryz.prog 80 1=some 13:=by kernel_rfl
theorem fo80_2:fieldOff Tryz.prog 80 2=some 17:=by kernel_rfl
theorem fo89_0:fieldOff Tryz.prog 89 0=some 0:=by kernel_rfl
theorem fo89_1:fieldOff Tryz.prog 89 1=some 1:=by kernel_rfl
theorem fo89_2:fieldOff Tryz.prog 89 2=some 2:=by kernel_rfl
theorem fo89_3:fieldOff Tryz.prog 89 3=some 3:=by kernel_rfl
theorem fo89_4:fieldOff Tryz.prog 89 4=some 4:=by kernel_rfl
theorem fo89_5:fieldOff Tryz.prog 89 5=some 5:=by kernel_rfl
theorem fo89_6:fieldOff Tryz.prog 89 6=some 7:=by kernel_rfl
theorem fo89_7:fieldOff Tryz.prog 89 7=some 9:=by kernel_rfl
theorem fs101:fieldsS Tryz.prog 101=some [(0,1),(1,1),(2,1),(3,12)]:=by kernel_rfl
theorem fs112:fieldsS Tryz.prog 112=some [(0,13)]:=by kernel_rfl
theorem fs123:fieldsS Tryz.prog 123=some [(0,1),(1,1),(2,1)]:=by kernel_rfl
theorem fs126:fieldsS Tryz.prog 126=some [(0,1),(1,1),(2,1),(3,3),(6,1)]:=by kernel_rfl
theorem fs129:fieldsS Tryz.prog 129=some [(0,4),(4,7),(11,1)]:=by kernel_rfl
theorem fs134:fieldsS Tryz.prog 134=some [(0,1),(1,2)]:=by kernel_rfl
theorem fs26:fieldsS Tryz.prog 26=some [(0,1),(1,1),(2,1),(3,1)]:=by kernel_rfl
theorem fs265:fieldsS Tryz.prog 265=some [(0,1),(1,1),(2,1),(3,1),(4,1),(5,1),(6,1)]:=by kernel_rfl
theorem fs267:fieldsS Tryz.prog 267=some [(0,1),(1,1)]:=by kernel_rfl
theorem fs29:fieldsS Tryz.prog 29=some [(0,1),(1,1)]:=by kernel_rfl
theorem fs46:fieldsS Tryz.prog 46=some [(0,1),(1,1)]:=by kernel_rfl
theorem fs48:fieldsS Tryz.prog 48=some [(0,1),(1,1),(2,1)]:=by kernel_rfl
theorem fs50:fieldsS Tryz.prog 50=some [(0,1),(1,1),(2,1),(3,1),(4,1),(5,2),(7,3),(10,3)]:=by kernel_rfl
theorem fs57:fieldsS Tryz.prog 57=some [(0,1),(1,1)]:=by kernel_rfl
theorem fs60:fieldsS Tryz.prog 60=some [(0,1),(1,1),(2,2),(4,1)]:=by kernel_rfl
theorem fs62:fieldsS Tryz.prog 62=some [(0,1),(1,1),(2,1),(3,2),(5,2),(7,3)]:=by kernel_rfl
theorem fs69:fieldsS Tryz.prog 69=some [(0,1),(1,1),(2,1),(3,1)]:=by kernel_rfl
theorem fs75:fieldsS Tryz.prog 75=some [(0,1),(1,2),(3,1)]:=by kernel_rfl
theorem fs80:fieldsS Tryz.prog 80=some [(0,13),(13,4),(17,13)]:=by kernel_rfl
theorem fs89:fieldsS Tryz.prog 89=some [(0,1),(1,1),(2,1),(3,1),(4,1),(5,2),(7,2),(9,3)]:=by kernel_rfl
theorem it123:intsT Tryz.prog 123=some 3:=by kernel_rfl
theorem it267:intsT Tryz.prog 267=some 2:=by kernel_rfl
theorem it46:intsT Tryz.prog 46=some 2:=by kernel_rfl
theorem it48:intsT Tryz.prog 48=some 3:=by kernel_rfl
theorem it57:intsT Tryz.prog 57=some 2:=by kernel_rfl
theorem itn50:intsN Tryz.prog 50=some 13:=by kernel_rfl
theorem itn75:intsN Tryz.prog 75=some 4:=by kernel_rfl
theorem itn89:intsN Tryz.prog 89=some 12:=by kernel_rfl
theorem len120:lenKd Tryz.prog 120=.slice:=by kernel_rfl
theorem len121:lenKd Tryz.prog 121=.slice:=by kernel_rfl
theorem len124:lenKd Tryz.prog 124=.slice:=by kernel_rfl
theorem len127:lenKd Tryz.prog 127=.slice:=by kernel_rfl
theorem len176:lenKd Tryz.prog 176=.slice:=by kernel_rfl
theorem len177:lenKd Tryz.prog 177=.slice:=by kernel_rfl
theorem len22:lenKd Tryz.prog 22=.slice:=by kernel_rfl
theorem len23:lenKd Tryz.prog 23=.slice:=by kernel_rfl
theorem len24:lenKd Tryz.prog 24=.slice:=by kernel_rfl
theorem len27:lenKd Tryz.prog 27=.slice:=by kernel_rfl
theorem len37:lenKd Tryz.prog 37=.slice:=by kernel_rfl
theorem len41:lenKd Tryz.prog 41=.slice:=by kernel_rfl
theorem len58:lenKd Tryz.prog 58=.slice:=by kernel_rfl
theorem len64:lenKd Tryz.prog 64=.slice:=by kernel_rfl
theorem len65:lenKd Tryz.prog 65=.slice:=by kernel_rfl
theorem len66:lenKd Tryz.prog 66=.slice:=by kernel_rfl
theorem len67:lenKd Tryz.prog 67=.slice:=by kernel_rfl
theorem len9:lenKd Tryz.prog 9=.string:=by kernel_rfl
theorem len94:lenKd Tryz.prog 94=.slice:=by kernel_rfl
theorem sz101:szOf Tryz.prog 101=some 15:=by kernel_rfl
theorem sz112:szOf Tryz.prog 112=some 13:=by kernel_rfl
theorem sz120:szOf Tryz.prog 120=some 1:=by kernel_rfl
theorem sz121:szOf Tryz.prog 121=some 1:=by kernel_rfl
theorem sz123:szOf Tryz.prog 123=some 3:=by kernel_rfl
theorem sz124:szOf Tryz.prog 124=some 1:=by kernel_rfl
theorem sz126:szOf Tryz.prog 126=some 7:=by kernel_rfl
theorem sz127:szOf Tryz.prog 127=some 1:=by kernel_rfl
theorem sz129:szOf Tryz.prog 129=some 12:=by kernel_rfl
theorem sz131:szOf Tryz.prog 131=some 5:=by kernel_rfl
theorem sz134:szOf Tryz.prog 134=some 3:=by kernel_rfl
theorem sz162:szOf Tryz.prog 162=some 1:=by kernel_rfl
theorem sz176:szOf Tryz.prog 176=some 1:=by kernel_rfl
theorem sz177:szOf Tryz.prog 177=some 1:=by kernel_rfl
theorem sz179:szOf Tryz.prog 179=some 4:=by kernel_rfl
theorem sz185:szOf Tryz.prog 185=some 6:=by kernel_rfl
theorem sz194:szOf Tryz.prog 194=some 1:=by kernel_rfl
theorem sz203:szOf Tryz.prog 203=some 1:=by kernel_rfl
theorem sz206:szOf Tryz.prog 206=some 1:=by kernel_rfl
theorem sz22:szOf Tryz.prog 22=some 1:=by kernel_rfl
theorem sz223:szOf Tryz.prog 223=some 3:=by kernel_rfl
theorem sz229:szOf Tryz.prog 229=some 3:=by kernel_rfl
theorem sz23:szOf Tryz.prog 23=some 1:=by kernel_rfl
theorem sz24:szOf Tryz.prog 24=some 1:=by kernel_rfl
theorem sz256:szOf Tryz.prog 256=some 3:=by kernel_rfl
theorem sz257:szOf Tryz.prog 257=some 3:=by kernel_rfl
theorem sz26:szOf Tryz.prog 26=some 4:=by kernel_rfl
theorem sz262:szOf Tryz.prog 262=some 2:=by kernel_rfl
theorem sz265:szOf Tryz.prog 265=some 7:=by kernel_rfl
theorem sz267:szOf Tryz.prog 267=some 2:=by kernel_rfl
theorem sz27:szOf Tryz.prog 27=some 1:=by kernel_rfl
theorem sz270:szOf Tryz.prog 270=some 1:=by kernel_rfl
theorem sz29:szOf Tryz.prog 29=some 2:=by kernel_rfl
theorem sz3:szOf Tryz.prog 3=some 1:=by kernel_rfl
theorem sz34:szOf Tryz.prog 34=some 1:=by kernel_rfl
theorem sz37:szOf Tryz.prog 37=some 1:=by kernel_rfl
theorem sz41:szOf Tryz.prog 41=some 1:=by kernel_rfl
theorem sz46:szOf Tryz.prog 46=some 2:=by kernel_rfl
theorem sz48:szOf Tryz.prog 48=some 3:=by kernel_rfl
theorem sz50:szOf Tryz.prog 50=some 13:=by kernel_rfl
theorem sz52:szOf Tryz.prog 52=some 1:=by kernel_rfl
theorem sz57:szOf Tryz.prog 57=some 2:=by kernel_rfl
theorem sz58:szOf Tryz.prog 58=some 1:=by kernel_rfl
theorem sz60:szOf Tryz.prog 60=some 5:=by kernel_rfl
theorem sz62:szOf Tryz.prog 62=some 10:=by kernel_rfl
theorem sz64:szOf Tryz.prog 64=some 1:=by kernel_rfl
theorem sz65:szOf Tryz.prog 65=some 1:=by kernel_rfl
theorem sz66:szOf Tryz.prog 66=some 1:=by kernel_rfl
theorem sz67:szOf Tryz.prog 67=some 1:=by kernel_rfl
theorem sz69:szOf Tryz.prog 69=some 4:=by kernel_rfl
theorem sz75:szOf Tryz.prog 75=some 4:=by kernel_rfl
theorem sz80:szOf Tryz.prog 80=some 30:=by kernel_rfl
theorem sz82:szOf Tryz.prog 82=some 1:=by kernel_rfl
theorem sz89:szOf Tryz.prog 89=some 12:=by kernel_rfl
theorem sz9:szOf Tryz.prog 9=some 1:=by kernel_rfl
theorem sz92:szOf Tryz.prog 92=some 1:=by kernel_rfl
theorem sz94:szOf Tryz.prog 94=some 1:=by kernel_rfl
theorem ze101:zeroS Tryz.prog 101=some [.val (.int .i64 0),.val (.int .i64 0),.val (.int .i64 0),.val (.int .i64 0),.val (.int .i64 0),.val (.int .i64 0),.val (.int .i64 0),.val (.int .i64 0),.val (.int .i64 0),.val (.int .i64 0),.val (.int .i64 0),.val (.int .i64 0),.val (.int .i64 0),.val (.int .i64 0),.val (.int .i64 0)]:=by kernel_rfl
theorem ze112:zeroS Tryz.prog 112=some [.val (.int .i64 0),.val (.int .i64 0),.val (.int .i64 0),.val (.int .i64 0),.val (.int .i64 0),.val (.int .i64 0),.val (.int .i64 0),.val (.int .i64 0),.val (.int .i64 0),.val (.int .i64 0),.val (.int .i64 0),.val (.int .i64 0),.val (.int .i64 0)]:=by kernel_rfl
theorem ze123:zeroS Tryz.prog 123=some [.val (.int .i64 0),.val (.int .i64 0),.val (.int .i64 0)]:=by kernel_rfl
theorem ze126:zeroS Tryz.prog 126=some [.val (.int .i64 0),.val (.slice none 0 0),.val (.slice none 0 0),.val (.int .i64 0),.val (.int .i64 0),.val (.int .i64 0),.val (.slice none 0 0)]:=by kernel_rfl
theorem ze129:zeroS Tryz.prog 129=some [.val (.int .i64 0),.val (.slice none 0 0),.val (.slice none 0 0),.val (.slice none 0 0),.val (.int .i64 0),.val (.slice none 0 0),.val (.slice none 0 0),.val (.int .i64 0),.val (.int .i64 0),.val (.int .i64 0),.val (.slice none 0 0),.val (.slice none 0 0)]:=by kernel_rfl
theorem ze134:zeroS Tryz.prog 134=some [.val (.int .i64 0),.val (.int .i64 0),.val (.int .i64 0)]:=by kernel_rfl
theorem ze179:zeroS Tryz.prog 179=some [.val (.int .i64 0),.val (.int .i64 0),.val (.slice none 0 0),.val (.slice none 0 0)]:=by kernel_rfl
theorem ze185:zeroS Tryz.prog 185=some [.val (.int .i64 0),.val (.int .i64 0),.val (.int .i64 0),.val (.int .i64 0),.val (.int .i64 0),.val (.int .u64 0)]:=by kernel_rfl
theorem ze194:zeroS Tryz.prog 194=some [.val (.nilFunc)]:=by kernel_rfl
theorem ze203:zeroS Tryz.prog 203=some [.val (.map none)]:=by kernel_rfl
theorem ze206:zeroS Tryz.prog 206=some [.val (.map none)]:=by kernel_rfl
theorem ze24:zeroS Tryz.prog 24=some [.val (.slice none 0 0)]:=by kernel_rfl
theorem ze256:zeroS Tryz.prog 256=some [.val (.int .i64 0),.val (.int .i64 0),.val (.int .i64 0)]:=by kernel_rfl
theorem ze257:zeroS Tryz.prog 257=some [.val (.int .i64 0),.val (.int .i64 0),.val (.int .i64 0)]:=by kernel_rfl
theorem ze26:zeroS Tryz.prog 26=some [.val (.int .i64 0),.val (.slice none 0 0),.val (.slice none 0 0),.val (.slice none 0 0)]:=by kernel_rfl
theorem ze265:zeroS Tryz.prog 265=some [.val (.int .i64 0),.val (.int .i64 0),.val (.int .i64 0),.val (.int .i64 0),.val (.int .i64 0),.val (.int .i64 0),.val (.int .i64 0)]:=by kernel_rfl
theorem ze267:zeroS Tryz.prog 267=some [.val (.int .i64 0),.val (.int .i64 0)]:=by kernel_rfl
theorem ze270:zeroS Tryz.prog 270=some [.val (.int .u64 0)]:=by kernel_rfl
theorem ze29:zeroS Tryz.prog 29=some [.val (.int .i64 0),.val (.slice none 0 0)]:=by kernel_rfl
theorem ze3:zeroS Tryz.prog 3=some [.val (.int .i64 0)]:=by kernel_rfl
theorem ze34:zeroS Tryz.prog 34=some [.val (.int .i64 0)]:=by kernel_rfl
theorem ze37:zeroS Tryz.prog 37=some [.val (.slice none 0 0)]:=by kernel_rfl
theorem ze41:zeroS Tryz.prog 41=some [.val (.slice none 0 0)]:=by kernel_rfl
theorem ze46:zeroS Tryz.prog 46=some [.val (.int .i64 0),.val (.int .i64 0)]:=by kernel_rfl
theorem ze48:zeroS Tryz.prog 48=some [.val (.int .i64 0),.val (.int .i64 0),.val (.int .i64 0)]:=by kernel_rfl
theorem ze50:zeroS Tryz.prog 50=some [.val (.int .i64 0),.val (.int .i64 0),.val (.int .i64 0),.val (.int .i64 0),.val (.int .i64 0),.val (.int .i64 0),.val (.int .i64 0),.val (.int .i64 0),.val (.int .i64 0),.val (.int .i64 0),.val (.int .i64 0),.val (.int .i64 0),.val (.int .i64 0)]:=by kernel_rfl
theorem ze57:zeroS Tryz.prog 57=some [.val (.int .i64 0),.val (.int .i64 0)]:=by kernel_rfl
theorem ze60:zeroS Tryz.prog 60=some [.val (.int .i64 0),.val (.int .i64 0),.val (.int .i64 0),.val (.int .i64 0),.val (.slice none 0 0)]:=by kernel_rfl
theorem ze62:zeroS Tryz.prog 62=some [.val (.int .i64 0),.val (.int .i64 0),.val (.int .i64 0),.val (.int .i64 0),.val (.int .i64 0),.val (.int .i64 0),.val (.int .i64 0),.val (.int .i64 0),.val (.int .i64 0),.val (.int .i64 0)]:=by kernel_rfl
theorem ze69:zeroS Tryz.prog 69=some [.val (.slice none 0 0),.val (.slice none 0 0),.val (.slice none 0 0),.val (.slice none 0 0)]:=by kernel_rfl
theorem ze75:zeroS Tryz.prog 75=some [.val (.int .i64 0),.val (.int .i64 0),.val (.int .i64 0),.val (.int .i64 0)]:=by kernel_rfl
theorem ze80:zeroS Tryz.prog 80=some [.val (.int .i64 0),.val (.int .i64 0),.val (.int .i64 0),.val (.int .i64 0),.val (.int .i64 0),.val (.int .i64 0),.val (.int .i64 0),.val (.int .i64 0),.val (.int .i64 0),.val (.int .i64 0),.val (.int .i64 0),.val (.int .i64 0),.val (.int .i64 0),.val (.int .i64 0),.val (.slice none 0 0),.val (.slice none 0 0),.val (.slice none 0 0),.val (.int .i64 0),.val (.int .i64 0),.val (.int .i64 0),.val (.int .i64 0),.val (.int .i64 0),.val (.int .i64 0),.val (.int .i64 0),.val (.int .i64 0),.val (.int .i64 0),.val (.int .i64 0),.val (.int .i64 0),.val (.int .i64 0),.val (.int .i64 0)]:=by kernel_rfl
theorem ze89:zeroS Tryz.prog 89=some [.val (.int .i64 0),.val (.int .i64 0),.val (.int .i64 0),.val (.int .i64 0),.val (.int .i64 0),.val (.int .i64 0),.val (.int .i64 0),.val (.int .i64 0),.val (.int .i64 0),.val (.int .i64 0),.val (.int .i64 0),.val (.int .i64 0)]:=by kernel_rfl
def ty:=
 And.intro agg101 <|
 And.intro agg112 <|
 And.intro agg120 <|
 And.intro agg121 <|
 And.intro agg123 <|
 And.intro agg124 <|
 And.intro agg126 <|
 And.intro agg127 <|
 And.intro agg129 <|
 And.intro agg131 <|
 And.intro agg134 <|
 And.intro agg162 <|
 And.intro agg176 <|
 And.intro agg177 <|
 And.intro agg179 <|
 And.intro agg185 <|
 And.intro agg194 <|
 And.intro agg203 <|
 And.intro agg206 <|
 And.intro agg22 <|
 And.intro agg223 <|
 And.intro agg229 <|
 And.intro agg23 <|
 And.intro agg24 <|
 And.intro agg256 <|
 And.intro agg257 <|
 And.intro agg26 <|
 And.intro agg262 <|
 And.intro agg265 <|
 And.intro agg267 <|
 And.intro agg27 <|
 And.intro agg270 <|
 And.intro agg29 <|
 And.intro agg3 <|
 And.intro agg34 <|
 And.intro agg37 <|
 And.intro agg41 <|
 And.intro agg46 <|
 And.intro agg48 <|
 And.intro agg50 <|
 And.intro agg52 <|
 And.intro agg57 <|
 And.intro agg58 <|
 And.intro agg60 <|
 And.intro agg62 <|
 And.intro agg64 <|
 And.intro agg65 <|
 And.intro agg66 <|
 And.intro agg67 <|
 And.intro agg69 <|
 And.intro agg75 <|
 And.intro agg80 <|
 And.intro agg82 <|
 And.intro agg89 <|
 And.intro agg9 <|
 And.intro agg92 <|
 And.intro agg94 <|
 And.intro bo4 <|
 And.intro cv183_5 <|
 And.intro cv213_251 <|
 And.intro cv213_3 <|
 And.intro cv251_5 <|
 And.intro cv3_213 <|
 And.intro cv3_270 <|
 And.intro cv5_3 <|
 And.intro el120 <|
 And.intro el121 <|
 And.intro el124 <|
 And.intro el127 <|
 And.intro el176 <|
 And.intro el177 <|
 And.intro el22 <|
 And.intro el23 <|
 And.intro el24 <|
 And.intro el27 <|
 And.intro el37 <|
 And.intro el41 <|
 And.intro el58 <|
 And.intro el64 <|
 And.intro el65 <|
 And.intro el66 <|
 And.intro el67 <|
 And.intro el94 <|
 And.intro fo101_0 <|
 And.intro fo101_1 <|
 And.intro fo101_2 <|
 And.intro fo101_3 <|
 And.intro fo112_0 <|
 And.intro fo123_0 <|
 And.intro fo123_1 <|
 And.intro fo123_2 <|
 And.intro fo126_0 <|
 And.intro fo126_1 <|
 And.intro fo126_2 <|
 And.intro fo126_3 <|
 And.intro fo126_4 <|
 And.intro fo129_0 <|
 And.intro fo129_1 <|
 And.intro fo129_2 <|
 And.intro fo131_0 <|
 And.intro fo131_1 <|
 And.intro fo131_2 <|
 And.intro fo131_3 <|
 And.intro fo131_4 <|
 And.intro fo134_0 <|
 And.intro fo134_1 <|
 And.intro fo179_0 <|
 And.intro fo179_1 <|
 And.intro fo179_2 <|
 And.intro fo179_3 <|
 And.intro fo185_0 <|
 And.intro fo185_1 <|
 And.intro fo185_2 <|
 And.intro fo185_3 <|
 And.intro fo185_4 <|
 And.intro fo223_0 <|
 And.intro fo223_1 <|
 And.intro fo223_2 <|
 And.intro fo229_0 <|
 And.intro fo229_1 <|
 And.intro fo229_2 <|
 And.intro fo256_0 <|
 And.intro fo256_1 <|
 And.intro fo256_2 <|
 And.intro fo257_0 <|
 And.intro fo257_1 <|
 And.intro fo257_2 <|
 And.intro fo262_0 <|
 And.intro fo262_1 <|
 And.intro fo267_0 <|
 And.intro fo267_1 <|
 And.intro fo26_0 <|
 And.intro fo26_1 <|
 And.intro fo26_2 <|
 And.intro fo26_3 <|
 And.intro fo29_0 <|
 And.intro fo29_1 <|
 And.intro fo46_0 <|
 And.intro fo46_1 <|
 And.intro fo48_0 <|
 And.intro fo48_1 <|
 And.intro fo48_2 <|
 And.intro fo50_0 <|
 And.intro fo50_1 <|
 And.intro fo50_2 <|
 And.intro fo50_3 <|
 And.intro fo50_4 <|
 And.intro fo50_5 <|
 And.intro fo50_6 <|
 And.intro fo50_7 <|
 And.intro fo57_0 <|
 And.intro fo57_1 <|
 And.intro fo60_0 <|
 And.intro fo60_1 <|
 And.intro fo60_2 <|
 And.intro fo60_3 <|
 And.intro fo62_0 <|
 And.intro fo62_1 <|
 And.intro fo62_2 <|
 And.intro fo62_3 <|
 And.intro fo62_4 <|
 And.intro fo62_5 <|
 And.intro fo69_0 <|
 And.intro fo69_1 <|
 And.intro fo69_2 <|
 And.intro fo69_3 <|
 And.intro fo75_0 <|
 And.intro fo75_1 <|
 And.intro fo75_2 <|
 And.intro fo80_0 <|
 And.intro fo80_1 <|
 And.intro fo80_2 <|
 And.intro fo89_0 <|
 And.intro fo89_1 <|
 And.intro fo89_2 <|
 And.intro fo89_3 <|
 And.intro fo89_4 <|
 And.intro fo89_5 <|
 And.intro fo89_6 <|
 And.intro fo89_7 <|
 And.intro fs101 <|
 And.intro fs112 <|
 And.intro fs123 <|
 And.intro fs126 <|
 And.intro fs129 <|
 And.intro fs134 <|
 And.intro fs26 <|
 And.intro fs265 <|
 And.intro fs267 <|
 And.intro fs29 <|
 And.intro fs46 <|
 And.intro fs48 <|
 And.intro fs50 <|
 And.intro fs57 <|
 And.intro fs60 <|
 And.intro fs62 <|
 And.intro fs69 <|
 And.intro fs75 <|
 And.intro fs80 <|
 And.intro fs89 <|
 And.intro len120 <|
 And.intro len121 <|
 And.intro len124 <|
 And.intro len127 <|
 And.intro len176 <|
 And.intro len177 <|
 And.intro len22 <|
 And.intro len23 <|
 And.intro len24 <|
 And.intro len27 <|
 And.intro len37 <|
 And.intro len41 <|
 And.intro len58 <|
 And.intro len64 <|
 And.intro len65 <|
 And.intro len66 <|
 And.intro len67 <|
 And.intro len9 <|
 And.intro len94 <|
 And.intro sz101 <|
 And.intro sz112 <|
 And.intro sz120 <|
 And.intro sz121 <|
 And.intro sz123 <|
 And.intro sz124 <|
 And.intro sz126 <|
 And.intro sz127 <|
 And.intro sz129 <|
 And.intro sz131 <|
 And.intro sz134 <|
 And.intro sz162 <|
 And.intro sz176 <|
 And.intro sz177 <|
 And.intro sz179 <|
 And.intro sz185 <|
 And.intro sz194 <|
 And.intro sz203 <|
 And.intro sz206 <|
 And.intro sz22 <|
 And.intro sz223 <|
 And.intro sz229 <|
 And.intro sz23 <|
 And.intro sz24 <|
 And.intro sz256 <|
 And.intro sz257 <|
 And.intro sz26 <|
 And.intro sz262 <|
 And.intro sz265 <|
 And.intro sz267 <|
 And.intro sz27 <|
 And.intro sz270 <|
 And.intro sz29 <|
 And.intro sz3 <|
 And.intro sz34 <|
 And.intro sz37 <|
 And.intro sz41 <|
 And.intro sz46 <|
 And.intro sz48 <|
 And.intro sz50 <|
 And.intro sz52 <|
 And.intro sz57 <|
 And.intro sz58 <|
 And.intro sz60 <|
 And.intro sz62 <|
 And.intro sz64 <|
 And.intro sz65 <|
 And.intro sz66 <|
 And.intro sz67 <|
 And.intro sz69 <|
 And.intro sz75 <|
 And.intro sz80 <|
 And.intro sz82 <|
 And.intro sz89 <|
 And.intro sz9 <|
 And.intro sz92 <|
 And.intro sz94 <|
 And.intro ze101 <|
 And.intro ze112 <|
 And.intro ze123 <|
 And.intro ze126 <|
 And.intro ze129 <|
 And.intro ze134 <|
 And.intro ze179 <|
 And.intro ze185 <|
 And.intro ze194 <|
 And.intro ze203 <|
 And.intro ze206 <|
 And.intro ze24 <|
 And.intro ze256 <|
 And.intro ze257 <|
 And.intro ze26 <|
 And.intro ze265 <|
 And.intro ze267 <|
 And.intro ze270 <|
 And.intro ze29 <|
 And.intro ze3 <|
 And.intro ze34 <|
 And.intro ze37 <|
 And.intro ze41 <|
 And.intro ze46 <|
 And.intro ze48 <|
 And.intro ze50 <|
 And.intro ze57 <|
 And.intro ze60 <|
 And.intro ze62 <|
 And.intro ze69 <|
 And.intro ze75 <|
 And.intro ze80 <|
 ze89
theorem mixed:Tryz.prog.follows .mixedOrders=true:=by kernel_rfl
end Go.Proofs.YtolmeekbjonbcaaGreatDoor
namespace Go.Proofs.YtolmeekbjonbcaaGreatDoor
open Go Go.SX Go.RowKit
variable [Drw]
open Int renaming reduceEq → E, reduceLT → F, reduceBEq → G, reduceBNe → H, reduceNeg → Z1, reduceGT → Z2, reduceLE → Z3, reduceGE → Z4, reduceMul → Z5, reduceMod → Z6, reduceAdd → Z7, reduceTMod → Z8, reduceTDiv → Z9
open Nat renaming reduceAdd → J, reduceSub → M, reduceMul → R, reduceLT → Tz, reduceLeDiff → V, reduceEqDiff → X
open List renaming reduceReplicate → Y
theorem sy:(false=true)=False∧(∀ {α:Type} [BEq α] [ReflBEq α] (a:α),(a == a)=true)∧(∀ {α:Type} [BEq α] [LawfulBEq α] (a:α),(a != a)=false)∧(∀ b:Bool,(b || false)=b)∧(∀ b:Bool,(false || b)=b)∧(!false)=true∧(!true)=false∧∀ n:Nat,(n:Int).toNat=n:=
 ⟨Bool.false_eq_true,fun a=>beq_self_eq_true a,fun a=>bne_self_eq_false a,Bool.or_false,Bool.false_or,Bool.not_false,Bool.not_true,fun n=>Int.toNat_natCast n⟩
theorem sa {α:Type}:(∀ l:List α,l.toArray.toList=l)∧(∀ (a:α) (l m:List α),(a::l)++m=a::(l++m))∧(∀ l:List α,[]++l=l)∧∀ l:List α,l++[]=l:=⟨fun _=>rfl,fun _ _ _=>rfl,fun _=>rfl,List.append_nil⟩
theorem sr {α:Type}:(∀ (a:α) (l:List α) (n:Nat),(a::l).drop (n+1)=l.drop n)∧(∀ l:List α,l.drop 0=l)∧(∀ (a:α) (l:List α) (n:Nat),(a::l).take (n+1)=a::l.take n)∧(∀ l:List α,l.take 0=[])∧(∀ (a:α) (l:List α) (d:α),(a::l).headD d=a)∧(∀ {h:Decidable False} (x y:α),@ite α False h x y=y)∧(false=true)=False:=⟨fun _ _ _=>rfl,fun _=>rfl,fun _ _ _=>rfl,fun _=>rfl,fun _ _ _=>rfl,fun _ _=>if_neg id,Bool.false_eq_true⟩
theorem sd:decide True=true∧decide False=false∧((0:Nat):Int)=0∧((1:Nat):Int)=1∧(∀ n:Nat,((OfNat.ofNat n:Nat):Int)=OfNat.ofNat n)∧(∀ a b:Int,(a>b)=(b<a))∧∀ a b:Int,(a≥b)=(b≤a):=⟨rfl,rfl,rfl,rfl,fun _=>rfl,fun _ _=>rfl,fun _ _=>rfl⟩
theorem se:(∀ n:Nat,0+n=n)∧(∀ n:Nat,n+0=n)∧(∀ n:Nat,0*n=0)∧(∀ n:Nat,n*0=0)∧(0:Int).toNat=0:=⟨Nat.zero_add,Nat.add_zero,Nat.zero_mul,Nat.mul_zero,rfl⟩
theorem dn {l:List Oper}:dsOk [] l=true:=by cases l<;>rfl
abbrev iv (x:Int):Value:=.int .i64 x
abbrev wv (x:Int):SV:=.val (.int .i64 x)
def sz:=And.intro @sx (And.intro ty @sy)
abbrev D0_:List (Option Nat):=[some 3,some 4,some 5,some 6,some 7,some 8,some 2]
theorem isKey_spec (w:World) (n:Int):Gives Tryz.prog 223 #[iv n] w fun r _=>r=.bool (isKey n):=by
 refine gives_of [wv n] 9 [.tmp 2] Tryz.func223 rfl rfl rfl (by simp) rfl rfl ?_
 refine W.pure dn fun K1 k1=>?_
 simp only[E,F,J,M,R,Tz,V,X,Y,reduceIte,G,H,sz];refine k1 _ ?_
 refine W.join 2 (.val (.bool (decide (-7≤n) && decide (n≤7)))) [] (W.region ?_) ?_
 ·
  refine WO.go 3 (ds:=D0_) rfl ?_
  simp only[E,F,J,M,R,Tz,V,X,Y,reduceIte,G,H,sz]
  refine WO.cases 5 _ rfl (fun hg5=>?_) fun hg5=>?_
  ·
   refine WO.go 4 (ds:=D0_) rfl ?_
   simp only[E,F,J,M,R,Tz,V,X,Y,reduceIte,G,H,sz]
   refine WO.nil ?_
   refine⟨rfl,?_,⟨_,rfl⟩,by simp[Own.bnd,bndL,bnd,boxO],by simp⟩
   try rw[hg5]
   simp[getE,bnd,keepE]
  ·
   refine WO.go 4 (ds:=D0_) rfl ?_
   simp only[E,F,J,M,R,Tz,V,X,Y,reduceIte,G,H,sz]
   refine WO.nil ?_
   refine⟨rfl,?_,⟨_,rfl⟩,by simp[Own.bnd,bndL,bnd,boxO],by simp⟩
   try rw[hg5]
   simp[getE,bnd,keepE]
 ·
  simp only[E,F,J,M,R,Tz,V,X,Y,reduceIte,sxk,G,H,sz]
  refine W.ret ⟨by simp,_,rfl,fun ρ w1 hb=>?_⟩
  rfl
theorem rKey_spec (w:World) (n:Int):Gives Tryz.prog 107 #[iv n] w fun r _=>r=.bool (isKey n):=by
 refine gives_of [wv n] 9 [.tmp 2] Tryz.func107 rfl rfl rfl (by simp) rfl rfl ?_
 refine W.pure dn fun K1 k1=>?_
 simp only[E,F,J,M,R,Tz,V,X,Y,reduceIte,G,H,sz];refine k1 _ ?_
 refine W.join 2 (.val (.bool (decide (-7≤n) && decide (n≤7)))) [] (W.region ?_) ?_
 ·
  refine WO.go 3 (ds:=D0_) rfl ?_
  simp only[E,F,J,M,R,Tz,V,X,Y,reduceIte,G,H,sz]
  refine WO.cases 5 _ rfl (fun hg5=>?_) fun hg5=>?_
  ·
   refine WO.go 4 (ds:=D0_) rfl ?_
   simp only[E,F,J,M,R,Tz,V,X,Y,reduceIte,G,H,sz]
   refine WO.nil ?_
   refine⟨rfl,?_,⟨_,rfl⟩,by simp[Own.bnd,bndL,bnd,boxO],by simp⟩
   try rw[hg5]
   simp[getE,bnd,keepE]
  ·
   refine WO.go 4 (ds:=D0_) rfl ?_
   simp only[E,F,J,M,R,Tz,V,X,Y,reduceIte,G,H,sz]
   refine WO.nil ?_
   refine⟨rfl,?_,⟨_,rfl⟩,by simp[Own.bnd,bndL,bnd,boxO],by simp⟩
   try rw[hg5]
   simp[getE,bnd,keepE]
 ·
  simp only[E,F,J,M,R,Tz,V,X,Y,reduceIte,sxk,G,H,sz]
  refine W.ret ⟨by simp,_,rfl,fun ρ w1 hb=>?_⟩
  rfl
abbrev D1_:List (Option Nat):=[some 7,some 8,some 9,some 10,some 11,some 12,some 13,some 14,some 6]
theorem within_spec (w:World) (n lo hi:Int):Gives Tryz.prog 168 #[iv n,iv lo,iv hi] w fun r _=>r=.bool (within lo hi n):=by
 refine gives_of [wv n,wv lo,wv hi] 15 [.tmp 6] Tryz.func168 rfl rfl rfl (by simp) rfl rfl ?_
 refine W.pure dn fun K1 k1=>?_
 simp only[E,F,J,M,R,Tz,V,X,Y,reduceIte,G,H,sz];refine k1 _ ?_
 refine W.join 6 (.val (.bool (decide (lo≤n) && decide (n≤hi)))) [] (W.region ?_) ?_
 ·
  refine WO.go 4 (ds:=D1_) rfl ?_
  simp only[E,F,J,M,R,Tz,V,X,Y,reduceIte,G,H,sz]
  refine WO.cases 10 _ rfl (fun hg10=>?_) fun hg10=>?_
  ·
   refine WO.go 5 (ds:=D1_) rfl ?_
   simp only[E,F,J,M,R,Tz,V,X,Y,reduceIte,G,H,sz]
   refine WO.nil ?_
   refine⟨rfl,?_,⟨_,rfl⟩,by simp[Own.bnd,bndL,bnd,boxO],by simp⟩
   try rw[hg10]
   simp[getE,bnd,keepE]
  ·
   refine WO.go 5 (ds:=D1_) rfl ?_
   simp only[E,F,J,M,R,Tz,V,X,Y,reduceIte,G,H,sz]
   refine WO.nil ?_
   refine⟨rfl,?_,⟨_,rfl⟩,by simp[Own.bnd,bndL,bnd,boxO],by simp⟩
   try rw[hg10]
   simp[getE,bnd,keepE]
 ·
  simp only[E,F,J,M,R,Tz,V,X,Y,reduceIte,sxk,G,H,sz]
  refine W.ret ⟨by simp,_,rfl,fun ρ w1 hb=>?_⟩
  rfl
theorem rin_spec (w:World) (n lo hi:Int):Gives Tryz.prog 237 #[iv n,iv lo,iv hi] w fun r _=>r=.bool (within lo hi n):=by
 refine gives_of [wv n,wv lo,wv hi] 15 [.tmp 6] Tryz.func237 rfl rfl rfl (by simp) rfl rfl ?_
 refine W.pure dn fun K1 k1=>?_
 simp only[E,F,J,M,R,Tz,V,X,Y,reduceIte,G,H,sz];refine k1 _ ?_
 refine W.join 6 (.val (.bool (decide (lo≤n) && decide (n≤hi)))) [] (W.region ?_) ?_
 ·
  refine WO.go 4 (ds:=D1_) rfl ?_
  simp only[E,F,J,M,R,Tz,V,X,Y,reduceIte,G,H,sz]
  refine WO.cases 10 _ rfl (fun hg10=>?_) fun hg10=>?_
  ·
   refine WO.go 5 (ds:=D1_) rfl ?_
   simp only[E,F,J,M,R,Tz,V,X,Y,reduceIte,G,H,sz]
   refine WO.nil ?_
   refine⟨rfl,?_,⟨_,rfl⟩,by simp[Own.bnd,bndL,bnd,boxO],by simp⟩
   try rw[hg10]
   simp[getE,bnd,keepE]
  ·
   refine WO.go 5 (ds:=D1_) rfl ?_
   simp only[E,F,J,M,R,Tz,V,X,Y,reduceIte,G,H,sz]
   refine WO.nil ?_
   refine⟨rfl,?_,⟨_,rfl⟩,by simp[Own.bnd,bndL,bnd,boxO],by simp⟩
   try rw[hg10]
   simp[getE,bnd,keepE]
 ·
  simp only[E,F,J,M,R,Tz,V,X,Y,reduceIte,sxk,G,H,sz]
  refine W.ret ⟨by simp,_,rfl,fun ρ w1 hb=>?_⟩
  rfl
abbrev D2_:List (Option Nat):=[some 3,some 4,some 5,some 6,some 7,some 8,some 9,some 10,some 2]
theorem formed_spec (w:World) (a b:Int):Gives Tryz.prog 214 #[.agg #[iv a,iv b]] w fun r _=>r=.bool (formed a b):=by
 refine gives_of [.agg [wv a,wv b]] 11 [.tmp 2] Tryz.func214 rfl rfl rfl (by simp) rfl rfl ?_
 refine W.pure dn fun K1 k1=>?_
 simp only[E,F,J,M,R,Tz,V,X,Y,reduceIte,G,H,sz];refine k1 _ ?_
 refine W.join 2 (.val (.bool (within (-70) 70 a && within (-120) 120 b))) [] (W.region ?_) ?_
 ·
  refine WO.go 2 (ds:=D2_) rfl ?_
  simp only[E,F,J,M,R,Tz,V,X,Y,reduceIte,G,H,sz]
  refine WO.call (.bool (within (-70) 70 a)) (ds:=D2_) rfl rfl rfl rfl co168 (fun ρ w1 hb=>within_spec w1 _ _ _) ?_
  refine WO.go 1 (ds:=D2_) rfl ?_
  simp only[E,F,J,M,R,Tz,V,X,Y,reduceIte,G,H,sz]
  refine WO.cases 6 _ rfl (fun hg6=>?_) fun hg6=>?_
  ·
   refine WO.go 2 (ds:=D2_) rfl ?_
   simp only[E,F,J,M,R,Tz,V,X,Y,reduceIte,G,H,sz]
   refine WO.call (.bool (within (-120) 120 b)) (ds:=D2_) rfl rfl rfl rfl co168 (fun ρ w1 hb=>within_spec w1 _ _ _) ?_
   refine WO.go 2 (ds:=D2_) rfl ?_
   simp only[E,F,J,M,R,Tz,V,X,Y,reduceIte,G,H,sz]
   refine WO.nil ?_
   refine⟨rfl,?_,⟨_,rfl⟩,by simp[Own.bnd,bndL,bnd,boxO],by simp⟩
   try rw[hg6]
   simp[getE,bnd,keepE]
  ·
   refine WO.go 5 (ds:=D2_) rfl ?_
   simp only[E,F,J,M,R,Tz,V,X,Y,reduceIte,G,H,sz]
   refine WO.nil ?_
   refine⟨rfl,?_,⟨_,rfl⟩,by simp[Own.bnd,bndL,bnd,boxO],by simp⟩
   try rw[hg6]
   simp[getE,bnd,keepE]
 ·
  simp only[E,F,J,M,R,Tz,V,X,Y,reduceIte,sxk,G,H,sz]
  refine W.ret ⟨by simp,_,rfl,fun ρ w1 hb=>?_⟩
  rfl
theorem rInterval_spec (w:World) (a b:Int):Gives Tryz.prog 221 #[.agg #[iv a,iv b]] w fun r _=>r=.bool (formed a b):=by
 refine gives_of [.agg [wv a,wv b]] 11 [.tmp 2] Tryz.func221 rfl rfl rfl (by simp) rfl rfl ?_
 refine W.pure dn fun K1 k1=>?_
 simp only[E,F,J,M,R,Tz,V,X,Y,reduceIte,G,H,sz];refine k1 _ ?_
 refine W.join 2 (.val (.bool (within (-70) 70 a && within (-120) 120 b))) [] (W.region ?_) ?_
 ·
  refine WO.go 2 (ds:=D2_) rfl ?_
  simp only[E,F,J,M,R,Tz,V,X,Y,reduceIte,G,H,sz]
  refine WO.call (.bool (within (-70) 70 a)) (ds:=D2_) rfl rfl rfl rfl co237 (fun ρ w1 hb=>rin_spec w1 _ _ _) ?_
  refine WO.go 1 (ds:=D2_) rfl ?_
  simp only[E,F,J,M,R,Tz,V,X,Y,reduceIte,G,H,sz]
  refine WO.cases 6 _ rfl (fun hg6=>?_) fun hg6=>?_
  ·
   refine WO.go 2 (ds:=D2_) rfl ?_
   simp only[E,F,J,M,R,Tz,V,X,Y,reduceIte,G,H,sz]
   refine WO.call (.bool (within (-120) 120 b)) (ds:=D2_) rfl rfl rfl rfl co237 (fun ρ w1 hb=>rin_spec w1 _ _ _) ?_
   refine WO.go 2 (ds:=D2_) rfl ?_
   simp only[E,F,J,M,R,Tz,V,X,Y,reduceIte,G,H,sz]
   refine WO.nil ?_
   refine⟨rfl,?_,⟨_,rfl⟩,by simp[Own.bnd,bndL,bnd,boxO],by simp⟩
   try rw[hg6]
   simp[getE,bnd,keepE]
  ·
   refine WO.go 5 (ds:=D2_) rfl ?_
   simp only[E,F,J,M,R,Tz,V,X,Y,reduceIte,G,H,sz]
   refine WO.nil ?_
   refine⟨rfl,?_,⟨_,rfl⟩,by simp[Own.bnd,bndL,bnd,boxO],by simp⟩
   try rw[hg6]
   simp[getE,bnd,keepE]
 ·
  simp only[E,F,J,M,R,Tz,V,X,Y,reduceIte,sxk,G,H,sz]
  refine W.ret ⟨by simp,_,rfl,fun ρ w1 hb=>?_⟩
  rfl
theorem back_spec (w:World) (a b:Int):Gives Tryz.prog 202 #[.agg #[iv a,iv b]] w fun r _=>r=.tuple #[.agg #[iv (backF a b).1,iv (backF a b).2.1],iv (backF a b).2.2]:=by
 refine gives_of [.agg [wv a,wv b]] 15 [.cell 2 46,.tmp 3] Tryz.func202 rfl rfl rfl (by simp) rfl rfl ?_
 refine W.pure dn fun K1 k1=>?_
 simp only[E,F,J,M,R,Tz,V,X,Y,reduceIte,G,H,sz];refine k1 _ ?_
 refine W.seqK fun K2 k2=>?_
 refine W.seqK fun K3 k3=>W.region ?_
 refine WO.go 1 dn ?_
 simp only[E,F,J,M,R,Tz,V,X,Y,reduceIte,G,H,sz]
 refine WO.call (.bool (formed a b)) dn rfl rfl rfl co214 (fun ρ w1 hb=>formed_spec w1 _ _) ?_
 refine WO.go 1 dn ?_
 simp only[E,F,J,M,R,Tz,V,X,Y,reduceIte,G,H,sz]
 refine WO.nil ?_
 refine k3 _ ?_
 refine W.cond rfl rfl (fun hc=>?_) fun hc=>?_
 ·
  have hf:formed a b=false:=by simpa using hc
  refine W.pure dn fun K4 k4=>?_
  simp only[E,F,J,M,R,Tz,V,X,Y,reduceIte,G,H,sz];refine k4 _ ?_
  refine W.ret ?_
  refine⟨by simp,RunR.ex ?_⟩
  simp only[E,F,J,M,R,Tz,V,X,Y,reduceIte,sxr,G,H,sz]
  intro ρ w1 hb
  rw[backF_no hf];rfl
 ·
  have hf:formed a b=true:=by simpa using hc
  have hfb:=formed_iff.1 hf
  refine W.skip (k2 _ ?_)
  refine W.pure dn fun K5 k5=>?_
  simp only[E,F,J,M,R,Tz,V,X,Y,reduceIte,G,H,sz];refine k5 _ ?_
  refine W.ret ?_
  refine⟨by simp,RunR.ex ?_⟩
  simp only[E,F,J,M,R,Tz,V,X,Y,reduceIte,sxr,G,H,sz]
  intro ρ w1 hb
  rw[backF_yes hf,wrap_id (x:=0 - a) (by omega) (by omega),wrap_id (x:=0 - b) (by omega) (by omega)];simp[den,denL]
theorem isInterval_spec (w:World) (a b:Int):Gives Tryz.prog 236 #[.agg #[iv a,iv b]] w fun r _=>r=.bool (formed a b):=by
 refine gives_of [.agg [wv a,wv b]] 12 [.tmp 2] Tryz.func236 rfl rfl rfl (by simp) rfl rfl ?_
 refine W.pure dn fun K1 k1=>?_
 simp only[E,F,J,M,R,Tz,V,X,Y,reduceIte,G,H,sz];refine k1 _ ?_
 refine W.seqK fun K2 k2=>W.region ?_
 refine WO.go 1 dn ?_
 simp only[E,F,J,M,R,Tz,V,X,Y,reduceIte,G,H,sz]
 refine WO.call (.tuple #[.agg #[iv (backF a b).1,iv (backF a b).2.1],iv (backF a b).2.2]) dn rfl rfl rfl co202 (fun ρ w1 hb=>back_spec w1 _ _) ?_
 refine WO.go 6 dn ?_
 simp only[E,F,J,M,R,Tz,V,X,Y,reduceIte,G,H,sz]
 refine WO.nil ?_
 refine k2 _ ?_
 refine W.pure dn fun K3 k3=>?_
 simp only[E,F,J,M,R,Tz,V,X,Y,reduceIte,G,H,sz];refine k3 _ ?_
 refine W.ret ⟨by simp,_,rfl,fun ρ w1 hb=>?_⟩
 simp only[den,backF_err]
theorem fifths_spec (w:World) (a b:Int):Gives Tryz.prog 213 #[.agg #[iv a,iv b]] w fun r _=>r=.tuple #[iv (fifthsF a b).1,iv (fifthsF a b).2]:=by
 refine gives_of [.agg [wv a,wv b]] 14 [.tmp 2,.tmp 3] Tryz.func213 rfl rfl rfl (by simp) rfl rfl ?_
 refine W.pure dn fun K1 k1=>?_
 simp only[E,F,J,M,R,Tz,V,X,Y,reduceIte,G,H,sz];refine k1 _ ?_
 refine W.seqK fun K2 k2=>?_
 refine W.seqK fun K3 k3=>W.region ?_
 refine WO.go 1 dn ?_
 simp only[E,F,J,M,R,Tz,V,X,Y,reduceIte,G,H,sz]
 refine WO.call (.bool (formed a b)) dn rfl rfl rfl co236 (fun ρ w1 hb=>isInterval_spec w1 _ _) ?_
 refine WO.go 1 dn ?_
 simp only[E,F,J,M,R,Tz,V,X,Y,reduceIte,G,H,sz]
 refine WO.nil ?_
 refine k3 _ ?_
 refine W.cond rfl rfl (fun hc=>?_) fun hc=>?_
 ·
  have hf:formed a b=false:=by simpa using hc
  refine W.pure dn fun K4 k4=>?_
  simp only[E,F,J,M,R,Tz,V,X,Y,reduceIte,G,H,sz];refine k4 _ ?_
  refine W.ret ⟨by simp,_,rfl,fun ρ w1 hb=>?_⟩
  rw[fifthsF_no hf];rfl
 ·
  have hf:formed a b=true:=by simpa using hc
  have hfb:=formed_iff.1 hf
  refine W.skip (k2 _ ?_)
  refine W.pure dn fun K5 k5=>?_
  simp only[E,F,J,M,R,Tz,V,X,Y,reduceIte,G,H,sz];refine k5 _ ?_
  refine W.ret ⟨by simp,_,rfl,fun ρ w1 hb=>?_⟩
  rw[fifthsF_yes hf,wrap_id (x:=7*b) (by omega) (by omega),wrap_id (x:=12*a) (by omega) (by omega),wrap_id (x:=7*b - 12*a) (by omega) (by omega)];rfl
theorem rfifths_spec (w:World) (a b:Int):Gives Tryz.prog 199 #[.agg #[iv a,iv b]] w fun r _=>r=.tuple #[iv (fifthsF a b).1,iv (fifthsF a b).2]:=by
 refine gives_of [.agg [wv a,wv b]] 14 [.tmp 2,.tmp 3] Tryz.func199 rfl rfl rfl (by simp) rfl rfl ?_
 refine W.pure dn fun K1 k1=>?_
 simp only[E,F,J,M,R,Tz,V,X,Y,reduceIte,G,H,sz];refine k1 _ ?_
 refine W.seqK fun K2 k2=>?_
 refine W.seqK fun K3 k3=>W.region ?_
 refine WO.go 1 dn ?_
 simp only[E,F,J,M,R,Tz,V,X,Y,reduceIte,G,H,sz]
 refine WO.call (.bool (formed a b)) dn rfl rfl rfl co221 (fun ρ w1 hb=>rInterval_spec w1 _ _) ?_
 refine WO.go 1 dn ?_
 simp only[E,F,J,M,R,Tz,V,X,Y,reduceIte,G,H,sz]
 refine WO.nil ?_
 refine k3 _ ?_
 refine W.cond rfl rfl (fun hc=>?_) fun hc=>?_
 ·
  have hf:formed a b=false:=by simpa using hc
  refine W.pure dn fun K4 k4=>?_
  simp only[E,F,J,M,R,Tz,V,X,Y,reduceIte,G,H,sz];refine k4 _ ?_
  refine W.ret ⟨by simp,_,rfl,fun ρ w1 hb=>?_⟩
  rw[fifthsF_no hf];rfl
 ·
  have hf:formed a b=true:=by simpa using hc
  have hfb:=formed_iff.1 hf
  refine W.skip (k2 _ ?_)
  refine W.pure dn fun K5 k5=>?_
  simp only[E,F,J,M,R,Tz,V,X,Y,reduceIte,G,H,sz];refine k5 _ ?_
  refine W.ret ⟨by simp,_,rfl,fun ρ w1 hb=>?_⟩
  rw[fifthsF_yes hf,wrap_id (x:=7*b) (by omega) (by omega),wrap_id (x:=12*a) (by omega) (by omega),wrap_id (x:=7*b - 12*a) (by omega) (by omega)];rfl
def turns (n:Int):Int:=if 7<n then (n+4) / 12 else if n < -7 then -((4 - n) / 12) else 0
def moveF (k a b:Int):Int×Int×Int×Int:=
 if (formed a b && isKey k)=true then (7*b - 12*a+k - 12*turns (7*b - 12*a+k),a+turns (7*b - 12*a+k),b,0) else (0,0,0,1)
theorem moveF_yes {k a b:Int} (h:(formed a b && isKey k)=true):moveF k a b=(7*b - 12*a+k - 12*turns (7*b - 12*a+k),a+turns (7*b - 12*a+k),b,0):=if_pos h
theorem moveF_no {k a b:Int} (h:(formed a b && isKey k)=false):moveF k a b=(0,0,0,1):=if_neg (by rw[h];decide)
theorem untilUp_spec {w:World} {bn bi:Nat} {n a b:Int} (hn:w.heap[bn]?=some (.cells #[iv n] 3 (0,0))) (hi:w.heap[bi]?=some (.cells #[iv a,iv b] 46 (0,0))) (hne:bn≠bi) (hs:0<n) (hr:-3000≤n∧n≤3000) (ha:-1000≤a∧a≤1000) :
  GivesB Tryz.prog 224 #[iv (1),.pointer (some ⟨bn,0,none⟩),.pointer (some ⟨bi,0,none⟩)] w (fun c=>c∈[bn,bi]) fun r w'=>r=.tuple #[]∧w'.heap[bn]?=some (.cells #[iv (n - 12*turns n)] 3 (0,0))∧w'.heap[bi]?=some (.cells #[iv (a+turns n),iv b] 46 (0,0)):=by
 refine givesB_of (w:=w) [(bn,3,[iv n]),(bi,46,[iv a,iv b])] [wv (1),.val (.pointer (some ⟨bn,0,none⟩)),.val (.pointer (some ⟨bi,0,none⟩))] 16 [] Tryz.func224 rfl rfl rfl (by simp) rfl rfl (all_two ⟨by rw[maxLen_eq];simp,hn⟩ ⟨by rw[maxLen_eq];simp,hi⟩) (by simp[hne]) ?_
 refine W.block ?_
 simp only[Bool.false_eq_true,E,F,J,M,R,Tz,V,X,Y,reduceIte,sz]
 refine W.loopO (X:=Nat) [0,1,2] (fun x=>[]) (fun x=>[boxO 3 bn [iv (n - 12*(x:Int))],boxO 46 bi [iv (a+(x:Int)),iv b]]) (fun x=>[((fun c=>¬ c∈[bn,bi]),w)]) (fun x=>(x:Int)≤turns n) (fun x=>(turns n - x).toNat) 0 ?_ ?_ ?_
 · exact⟨rfl,by simp[getE,bnd,keepE],⟨[],by simp⟩,by simp[Own.bnd,bndL,bnd,boxO],by simp⟩
 ·
  unfold turns;split<;>(try split)<;>omega
 ·
  rintro x hx
  have htb:-300≤turns n∧turns n≤300:=by unfold turns;split<;>(try split)<;>omega
  simp only[E,F,J,M,R,Tz,V,X,Y,reduceIte,sxk,G,H,sz]
  refine W.seqK fun K1 k1=>?_
  refine W.seqK fun K2 k2=>W.region ?_
  refine WO.loadBox (k:=0) (i:=0) rfl dn rfl rfl rfl rfl (by simp[Addr.add_mid]) (by simp) agg3 sz3 (.inr rfl) ?_
  simp only[E,F,J,M,R,Tz,V,X,Y,reduceIte,G,H,sz]
  refine WO.call (.bool (isKey (n - 12*(x:Int)))) dn rfl rfl rfl co223 (fun ρ w1 hb=>isKey_spec w1 _) ?_
  refine WO.go 1 dn ?_
  simp only[E,F,J,M,R,Tz,V,X,Y,reduceIte,G,H,sz]
  refine WO.nil ?_
  refine k2 _ ?_
  refine W.cond rfl rfl (fun hc=>?_) fun hc=>?_
  ·
   have hk:isKey (n - 12*(x:Int))=false:=by simpa using hc
   have hlt:((x+1:Nat):Int)≤turns n:=by simp only[isKey,within,Bool.and_eq_false_iff,decide_eq_false_iff_not] at hk;unfold turns at hx ⊢;split at hx<;>(try split at hx)<;>simp_all<;>omega
   refine W.skip (k1 _ ?_)
   refine W.block ?_
   refine W.seqK fun K3 k3=>W.region ?_
   refine WO.loadBox (k:=0) (i:=0) rfl dn rfl rfl rfl rfl (by simp[Addr.add_mid]) (by simp) agg3 sz3 (.inr rfl) ?_
   refine WO.go 3 dn ?_
   simp only[E,F,J,M,R,Tz,V,X,Y,reduceIte,G,H,sz]
   refine WO.storeBox (k:=0) (i:=0) rfl dn rfl rfl rfl rfl (by simp[Addr.add_mid]) (by simp) rfl rfl sz3 ?_
   simp only[E,F,J,M,R,Tz,V,X,Y,reduceIte,G,H,sz]
   refine WO.nil ?_
   refine k3 _ ?_
   refine W.region ?_
   refine WO.go 1 dn ?_
   simp only[E,F,J,M,R,Tz,V,X,Y,reduceIte,G,H,sz]
   refine WO.loadBox (k:=1) (i:=0) rfl dn rfl rfl rfl rfl (by simp[Addr.add_mid]) (by simp) agg3 sz3 (.inr rfl) ?_
   refine WO.go 3 dn ?_
   simp only[E,F,J,M,R,Tz,V,X,Y,reduceIte,G,H,sz]
   refine WO.storeBox (k:=1) (i:=0) rfl dn rfl rfl rfl rfl (by simp[Addr.add_mid]) (by simp) rfl rfl sz3 ?_
   simp only[E,F,J,M,R,Tz,V,X,Y,reduceIte,G,H,sz]
   refine WO.nil ?_
   rw[show IntKind.i64.wrap (1*12)=1*12 from wrap_id (by decide) (by decide),wrap_id (x:=(n - 12*(x:Int)) - 1*12) (by omega) (by omega),wrap_id (x:=(a+(x:Int))+1) (by omega) (by omega),
    show(n - 12*(x:Int)) - 1*12=(n - 12*((x+1:Nat):Int)) by omega,show(a+(x:Int))+1=(a+((x+1:Nat):Int)) by omega]
   refine⟨x+1,hlt,by omega,rfl,by simp[getE,bnd,keepE],⟨[],rfl⟩,by simp[Own.bnd,bndL,bnd,boxO],by simp⟩
  ·
   have hk:isKey (n - 12*(x:Int))=true:=by simpa using hc
   have hend:turns n=(x:Int):=by rw[isKey,within_iff] at hk;unfold turns at hx ⊢;split at hx<;>(try split at hx)<;>simp_all<;>omega
   refine W.exit ?_
   refine⟨by simp,?_⟩
   simp only[E,F,J,M,R,Tz,V,X,Y,reduceIte,sxr,G,H,sz]
   intro ρ w1 hb
   exact⟨rfl,by rw[box_heap hb (k:=0) rfl];simp;omega,by rw[box_heap hb (k:=1) rfl];simp;omega⟩
theorem untilDown_spec {w:World} {bn bi:Nat} {n a b:Int} (hn:w.heap[bn]?=some (.cells #[iv n] 3 (0,0))) (hi:w.heap[bi]?=some (.cells #[iv a,iv b] 46 (0,0))) (hne:bn≠bi) (hs:n≤0) (hr:-3000≤n∧n≤3000) (ha:-1000≤a∧a≤1000) :
  GivesB Tryz.prog 224 #[iv (-1),.pointer (some ⟨bn,0,none⟩),.pointer (some ⟨bi,0,none⟩)] w (fun c=>c∈[bn,bi]) fun r w'=>r=.tuple #[]∧w'.heap[bn]?=some (.cells #[iv (n - 12*turns n)] 3 (0,0))∧w'.heap[bi]?=some (.cells #[iv (a+turns n),iv b] 46 (0,0)):=by
 refine givesB_of (w:=w) [(bn,3,[iv n]),(bi,46,[iv a,iv b])] [wv (-1),.val (.pointer (some ⟨bn,0,none⟩)),.val (.pointer (some ⟨bi,0,none⟩))] 16 [] Tryz.func224 rfl rfl rfl (by simp) rfl rfl (all_two ⟨by rw[maxLen_eq];simp,hn⟩ ⟨by rw[maxLen_eq];simp,hi⟩) (by simp[hne]) ?_
 refine W.block ?_
 simp only[Bool.false_eq_true,E,F,J,M,R,Tz,V,X,Y,reduceIte,sz]
 refine W.loopO (X:=Nat) [0,1,2] (fun x=>[]) (fun x=>[boxO 3 bn [iv (n+12*(x:Int))],boxO 46 bi [iv (a - (x:Int)),iv b]]) (fun x=>[((fun c=>¬ c∈[bn,bi]),w)]) (fun x=>(x:Int)≤- turns n) (fun x=>(- turns n - x).toNat) 0 ?_ ?_ ?_
 · exact⟨rfl,by simp[getE,bnd,keepE],⟨[],by simp⟩,by simp[Own.bnd,bndL,bnd,boxO],by simp⟩
 ·
  unfold turns;split<;>(try split)<;>omega
 ·
  rintro x hx
  have htb:-300≤turns n∧turns n≤300:=by unfold turns;split<;>(try split)<;>omega
  simp only[E,F,J,M,R,Tz,V,X,Y,reduceIte,sxk,G,H,sz]
  refine W.seqK fun K1 k1=>?_
  refine W.seqK fun K2 k2=>W.region ?_
  refine WO.loadBox (k:=0) (i:=0) rfl dn rfl rfl rfl rfl (by simp[Addr.add_mid]) (by simp) agg3 sz3 (.inr rfl) ?_
  simp only[E,F,J,M,R,Tz,V,X,Y,reduceIte,G,H,sz]
  refine WO.call (.bool (isKey (n+12*(x:Int)))) dn rfl rfl rfl co223 (fun ρ w1 hb=>isKey_spec w1 _) ?_
  refine WO.go 1 dn ?_
  simp only[E,F,J,M,R,Tz,V,X,Y,reduceIte,G,H,sz]
  refine WO.nil ?_
  refine k2 _ ?_
  refine W.cond rfl rfl (fun hc=>?_) fun hc=>?_
  ·
   have hk:isKey (n+12*(x:Int))=false:=by simpa using hc
   have hlt:((x+1:Nat):Int)≤- turns n:=by simp only[isKey,within,Bool.and_eq_false_iff,decide_eq_false_iff_not] at hk;unfold turns at hx ⊢;split at hx<;>(try split at hx)<;>simp_all<;>omega
   refine W.skip (k1 _ ?_)
   refine W.block ?_
   refine W.seqK fun K3 k3=>W.region ?_
   refine WO.loadBox (k:=0) (i:=0) rfl dn rfl rfl rfl rfl (by simp[Addr.add_mid]) (by simp) agg3 sz3 (.inr rfl) ?_
   refine WO.go 3 dn ?_
   simp only[E,F,J,M,R,Tz,V,X,Y,reduceIte,G,H,sz]
   refine WO.storeBox (k:=0) (i:=0) rfl dn rfl rfl rfl rfl (by simp[Addr.add_mid]) (by simp) rfl rfl sz3 ?_
   simp only[E,F,J,M,R,Tz,V,X,Y,reduceIte,G,H,sz]
   refine WO.nil ?_
   refine k3 _ ?_
   refine W.region ?_
   refine WO.go 1 dn ?_
   simp only[E,F,J,M,R,Tz,V,X,Y,reduceIte,G,H,sz]
   refine WO.loadBox (k:=1) (i:=0) rfl dn rfl rfl rfl rfl (by simp[Addr.add_mid]) (by simp) agg3 sz3 (.inr rfl) ?_
   refine WO.go 3 dn ?_
   simp only[E,F,J,M,R,Tz,V,X,Y,reduceIte,G,H,sz]
   refine WO.storeBox (k:=1) (i:=0) rfl dn rfl rfl rfl rfl (by simp[Addr.add_mid]) (by simp) rfl rfl sz3 ?_
   simp only[E,F,J,M,R,Tz,V,X,Y,reduceIte,G,H,sz]
   refine WO.nil ?_
   rw[show IntKind.i64.wrap (-1*12)=-1*12 from wrap_id (by decide) (by decide),wrap_id (x:=(n+12*(x:Int)) - -1*12) (by omega) (by omega),wrap_id (x:=(a - (x:Int))+-1) (by omega) (by omega),
    show(n+12*(x:Int)) - -1*12=(n+12*((x+1:Nat):Int)) by omega,show(a - (x:Int))+-1=(a - ((x+1:Nat):Int)) by omega]
   refine⟨x+1,hlt,by omega,rfl,by simp[getE,bnd,keepE],⟨[],rfl⟩,by simp[Own.bnd,bndL,bnd,boxO],by simp⟩
  ·
   have hk:isKey (n+12*(x:Int))=true:=by simpa using hc
   have hend:- turns n=(x:Int):=by rw[isKey,within_iff] at hk;unfold turns at hx ⊢;split at hx<;>(try split at hx)<;>simp_all<;>omega
   refine W.exit ?_
   refine⟨by simp,?_⟩
   simp only[E,F,J,M,R,Tz,V,X,Y,reduceIte,sxr,G,H,sz]
   intro ρ w1 hb
   exact⟨rfl,by rw[box_heap hb (k:=0) rfl];simp;omega,by rw[box_heap hb (k:=1) rfl];simp;omega⟩
theorem fifths_ne (a b:Int):((fifthsF a b).2 != 0)=!formed a b:=by
 cases h:formed a b with
 | true=>rw[fifthsF_yes h];rfl
 | false=>rw[fifthsF_no h];rfl
abbrev D3_:List (Option Nat):=[some 15,some 16,some 17,some 18,some 19,some 20,some 21]
theorem move_spec (w:World) (k a b:Int):Gives Tryz.prog 203 #[iv k,.agg #[iv a,iv b]] w fun r _=>r=.tuple #[iv (moveF k a b).1,.agg #[iv (moveF k a b).2.1,iv (moveF k a b).2.2.1],iv (moveF k a b).2.2.2]:=by
 refine gives_of [wv k,.agg [wv a,wv b]] 35 [.tmp 4,.cell 5 46,.tmp 6] Tryz.func203 rfl rfl rfl (by simp) rfl rfl ?_
 refine W.pure dn fun K1 k1=>?_
 simp only[E,F,J,M,R,Tz,V,X,Y,reduceIte,G,H,sz];refine k1 _ ?_
 refine W.seqK fun K2 k2=>W.region ?_
 refine WO.go 1 dn ?_
 simp only[E,F,J,M,R,Tz,V,X,Y,reduceIte,G,H,sz]
 refine WO.call (.tuple #[iv (fifthsF a b).1,iv (fifthsF a b).2]) dn rfl rfl rfl co213 (fun ρ w1 hb=>fifths_spec w1 _ _) ?_
 refine WO.go 6 dn ?_
 simp only[E,F,J,M,R,Tz,V,X,Y,reduceIte,G,H,sz]
 refine WO.nil ?_
 refine k2 _ ?_
 refine W.seqK fun K3 k3=>?_
 refine W.join 21 (.val (.bool (!(formed a b && isKey k)))) [0,3,5,7] (W.region ?_) ?_
 ·
  refine WO.go 3 (ds:=D3_) rfl ?_
  simp only[E,F,J,M,R,Tz,V,X,Y,reduceIte,G,H,sz]
  refine WO.cases 17 _ rfl (fun hg17=>?_) fun hg17=>?_
  ·
   refine WO.go 4 (ds:=D3_) rfl ?_
   simp only[E,F,J,M,R,Tz,V,X,Y,reduceIte,G,H,sz]
   refine WO.nil ?_
   refine⟨rfl,?_,⟨_,rfl⟩,by simp[Own.bnd,bndL,bnd,boxO],by simp⟩
   first | rw[hg17] | skip
   simp[getE,bnd,keepE,fifths_ne]
   try (cases h:formed a b<;>simp_all [fifths_ne])
  ·
   refine WO.go 1 (ds:=D3_) rfl ?_
   simp only[E,F,J,M,R,Tz,V,X,Y,reduceIte,G,H,sz]
   refine WO.call (.bool (isKey k)) (ds:=D3_) rfl rfl rfl rfl co223 (fun ρ w1 hb=>isKey_spec w1 _) ?_
   refine WO.go 2 (ds:=D3_) rfl ?_
   simp only[E,F,J,M,R,Tz,V,X,Y,reduceIte,G,H,sz]
   refine WO.nil ?_
   refine⟨rfl,?_,⟨_,rfl⟩,by simp[Own.bnd,bndL,bnd,boxO],by simp⟩
   first | rw[hg17] | skip
   simp[getE,bnd,keepE,fifths_ne]
   try (cases h:formed a b<;>simp_all [fifths_ne])
 ·
  simp only[E,F,J,M,R,Tz,V,X,Y,reduceIte,sxk,G,H,sz]
  refine W.cond rfl rfl (fun hc=>?_) fun hc=>?_
  ·
   have hf:(formed a b && isKey k)=false:=by cases h1:formed a b<;>cases h2:isKey k<;>simp[h1,h2] at hc ⊢
   refine W.pure dn fun K5 k5=>?_
   simp only[E,F,J,M,R,Tz,V,X,Y,reduceIte,G,H,sz];refine k5 _ ?_
   refine W.ret ?_
   refine⟨by simp,RunR.ex ?_⟩
   simp only[E,F,J,M,R,Tz,V,X,Y,reduceIte,sxr,G,H,sz]
   intro ρ w1 hb
   rw[moveF_no hf];rfl
  ·
   have hf:(formed a b && isKey k)=true:=by cases h1:formed a b<;>cases h2:isKey k<;>simp[h1,h2] at hc ⊢
   have hff:formed a b=true:=by simp only[Bool.and_eq_true] at hf;exact hf.1
   have hfb:=formed_iff.1 hff
   have hk:isKey k=true:=by simp only[Bool.and_eq_true] at hf;exact hf.2
   have hkb:=within_iff.1 hk
   simp only[fifthsF_yes hff,wrap_id (x:=7*b - 12*a+k) (by omega) (by omega)]
   refine W.skip (k3 _ ?_)
   refine W.pure dn fun K6 k6=>?_
   simp only[E,F,J,M,R,Tz,V,X,Y,reduceIte,G,H,sz];refine k6 _ ?_
   refine W.pure dn fun K7 k7=>?_
   simp only[E,F,J,M,R,Tz,V,X,Y,reduceIte,G,H,sz];refine k7 _ ?_
   refine W.seqK fun K8 k8=>?_
   simp only[wrap_id (x:=7*b - 12*a+k) (by omega) (by omega)]
   refine W.pure dn fun K9 k9=>?_
   simp only[E,F,J,M,R,Tz,V,X,Y,reduceIte,G,H,sz];refine k9 _ ?_
   refine W.cond rfl rfl (fun hc=>?_) fun hc=>?_
   ·
    have hpos:0<7*b - 12*a+k:=by simpa using hc
    refine W.region ?_
    refine WO.go 1 dn ?_
    simp only[E,F,J,M,R,Tz,V,X,Y,reduceIte,G,H,sz]
    refine WO.callBox2 (k1:=2) (k2:=0) [wv ((7*b - 12*a+k) - 12*turns (7*b - 12*a+k))] [wv (a+turns (7*b - 12*a+k)),wv b] (.tuple #[]) dn rfl rfl rfl co224 rfl rfl (by decide) rfl rfl (fun ρ w1 hb g1 g2 hne=>untilUp_spec g1 g2 hne (by omega) (by omega) (by omega)) ?_
    simp only[E,F,J,M,R,Tz,V,X,Y,reduceIte,G,H,sz]
    refine WO.nil ?_
    refine k8 _ ?_
    refine W.seqK fun K10 k10=>?_
    refine W.regionT' 3 [] [0,1,2] mixed (by kernel_rfl) ?_
    simp only[E,F,J,M,R,Tz,V,X,Y,reduceIte,sxt,List.toList_toArray,G,H,sz]
    refine WQ.go 3 dn ?_
    simp only[E,F,J,M,R,Tz,V,X,Y,reduceIte,sxq,G,H,sz]
    refine WQ.nil ?_
    refine WO.go 2 dn ?_
    simp only[E,F,J,M,R,Tz,V,X,Y,reduceIte,G,H,sz]
    refine WO.nil ?_
    refine k10 _ ?_
    refine W.ret ?_
    refine⟨by simp,RunR.ex ?_⟩
    simp only[E,F,J,M,R,Tz,V,X,Y,reduceIte,sxr,G,H,sz]
    intro ρ w1 hb
    rw[moveF_yes hf];rfl
   ·
    have hpos:7*b - 12*a+k≤0:=by simpa using hc
    refine W.region ?_
    refine WO.go 1 dn ?_
    simp only[E,F,J,M,R,Tz,V,X,Y,reduceIte,G,H,sz]
    refine WO.callBox2 (k1:=2) (k2:=0) [wv ((7*b - 12*a+k) - 12*turns (7*b - 12*a+k))] [wv (a+turns (7*b - 12*a+k)),wv b] (.tuple #[]) dn rfl rfl rfl co224 rfl rfl (by decide) rfl rfl (fun ρ w1 hb g1 g2 hne=>untilDown_spec g1 g2 hne (by omega) (by omega) (by omega)) ?_
    simp only[E,F,J,M,R,Tz,V,X,Y,reduceIte,G,H,sz]
    refine WO.nil ?_
    refine k8 _ ?_
    refine W.seqK fun K11 k11=>?_
    refine W.regionT' 3 [] [0,1,2] mixed (by kernel_rfl) ?_
    simp only[E,F,J,M,R,Tz,V,X,Y,reduceIte,sxt,List.toList_toArray,G,H,sz]
    refine WQ.go 3 dn ?_
    simp only[E,F,J,M,R,Tz,V,X,Y,reduceIte,sxq,G,H,sz]
    refine WQ.nil ?_
    refine WO.go 2 dn ?_
    simp only[E,F,J,M,R,Tz,V,X,Y,reduceIte,G,H,sz]
    refine WO.nil ?_
    refine k11 _ ?_
    refine W.ret ?_
    refine⟨by simp,RunR.ex ?_⟩
    simp only[E,F,J,M,R,Tz,V,X,Y,reduceIte,sxr,G,H,sz]
    intro ρ w1 hb
    rw[moveF_yes hf];rfl
def upT (n:Int):Int:=if 7<n then (n+4) / 12 else 0
def dnT (n:Int):Int:=if n < -7 then (4 - n) / 12 else 0
theorem turns_eq (n:Int):turns n=upT n - dnT n:=by unfold turns upT dnT;split<;>(try split)<;>omega
theorem upT_step {n:Int} {x:Nat} (h:7<n - 12*(x:Int)):((x+1:Nat):Int)≤upT n:=by unfold upT;split<;>omega
theorem upT_end {n:Int} {x:Nat} (hx:(x:Int)≤upT n) (h:¬ 7<n - 12*(x:Int)):upT n=(x:Int):=by unfold upT at hx ⊢;split at hx<;>simp_all<;>omega
theorem dnT_step {n:Int} {x y:Nat} (hu:upT n=(x:Int)) (hx:(y:Int)≤dnT n) (h:n - 12*(x:Int)+12*(y:Int) < -7):((y+1:Nat):Int)≤dnT n:=by unfold upT at hu;unfold dnT at hx ⊢;split at hu<;>split at hx<;>simp_all<;>omega
theorem dnT_end {n:Int} {x y:Nat} (hu:upT n=(x:Int)) (hx:(y:Int)≤dnT n) (h:¬ n - 12*(x:Int)+12*(y:Int) < -7):dnT n=(y:Int):=by unfold upT at hu;unfold dnT at hx ⊢;split at hu<;>split at hx<;>simp_all<;>omega
theorem up_bound {n:Int} (h:-3000≤n∧n≤3000):0≤upT n∧upT n≤300∧0≤dnT n∧dnT n≤300:=by unfold upT dnT;split<;>split<;>omega
theorem rmove_spec (w:World) (k a b:Int):Gives Tryz.prog 162 #[iv k,.agg #[iv a,iv b]] w fun r _=>r=.tuple #[iv (moveF k a b).1,.agg #[iv (moveF k a b).2.1,iv (moveF k a b).2.2.1],iv (moveF k a b).2.2.2]:=by
 refine gives_of [wv k,.agg [wv a,wv b]] 44 [.tmp 4,.cell 5 46,.tmp 6] Tryz.func162 rfl rfl rfl (by simp) rfl rfl ?_
 refine W.pure dn fun K1 k1=>?_
 simp only[E,F,J,M,R,Tz,V,X,Y,reduceIte,G,H,sz];refine k1 _ ?_
 refine W.seqK fun K2 k2=>W.region ?_
 refine WO.go 1 dn ?_
 simp only[E,F,J,M,R,Tz,V,X,Y,reduceIte,G,H,sz]
 refine WO.call (.tuple #[iv (fifthsF a b).1,iv (fifthsF a b).2]) dn rfl rfl rfl co199 (fun ρ w1 hb=>rfifths_spec w1 _ _) ?_
 refine WO.go 5 dn ?_
 simp only[E,F,J,M,R,Tz,V,X,Y,reduceIte,G,H,sz]
 refine WO.nil ?_
 refine k2 _ ?_
 refine W.seqK fun K3 k3=>?_
 refine W.join 21 (.val (.bool (!(formed a b && isKey k)))) [0,3,5,7] (W.region ?_) ?_
 ·
  refine WO.go 3 (ds:=D3_) rfl ?_
  simp only[E,F,J,M,R,Tz,V,X,Y,reduceIte,G,H,sz]
  refine WO.cases 17 _ rfl (fun hg17=>?_) fun hg17=>?_
  ·
   refine WO.go 4 (ds:=D3_) rfl ?_
   simp only[E,F,J,M,R,Tz,V,X,Y,reduceIte,G,H,sz]
   refine WO.nil ?_
   refine⟨rfl,?_,⟨_,rfl⟩,by simp[Own.bnd,bndL,bnd,boxO],by simp⟩
   first | rw[hg17] | skip
   simp[getE,bnd,keepE,fifths_ne]
   try (cases h:formed a b<;>simp_all [fifths_ne])
  ·
   refine WO.go 1 (ds:=D3_) rfl ?_
   simp only[E,F,J,M,R,Tz,V,X,Y,reduceIte,G,H,sz]
   refine WO.call (.bool (isKey k)) (ds:=D3_) rfl rfl rfl rfl co107 (fun ρ w1 hb=>rKey_spec w1 _) ?_
   refine WO.go 2 (ds:=D3_) rfl ?_
   simp only[E,F,J,M,R,Tz,V,X,Y,reduceIte,G,H,sz]
   refine WO.nil ?_
   refine⟨rfl,?_,⟨_,rfl⟩,by simp[Own.bnd,bndL,bnd,boxO],by simp⟩
   first | rw[hg17] | skip
   simp[getE,bnd,keepE,fifths_ne]
   try (cases h:formed a b<;>simp_all [fifths_ne])
 ·
  simp only[E,F,J,M,R,Tz,V,X,Y,reduceIte,sxk,G,H,sz]
  refine W.cond rfl rfl (fun hc=>?_) fun hc=>?_
  ·
   have hf:(formed a b && isKey k)=false:=by cases h1:formed a b<;>cases h2:isKey k<;>simp[h1,h2] at hc ⊢
   refine W.pure dn fun K5 k5=>?_
   simp only[E,F,J,M,R,Tz,V,X,Y,reduceIte,G,H,sz];refine k5 _ ?_
   refine W.ret ?_
   refine⟨by simp,RunR.ex ?_⟩
   simp only[E,F,J,M,R,Tz,V,X,Y,reduceIte,sxr,G,H,sz]
   intro ρ w1 hb
   rw[moveF_no hf];rfl
  ·
   have hf:(formed a b && isKey k)=true:=by cases h1:formed a b<;>cases h2:isKey k<;>simp[h1,h2] at hc ⊢
   have hff:formed a b=true:=by simp only[Bool.and_eq_true] at hf;exact hf.1
   have hfb:=formed_iff.1 hff
   have hk:isKey k=true:=by simp only[Bool.and_eq_true] at hf;exact hf.2
   have hkb:=within_iff.1 hk
   simp only[fifthsF_yes hff,show k+(7*b - 12*a)=7*b - 12*a+k by omega,wrap_id (x:=7*b - 12*a+k) (by omega) (by omega)]
   have hub:=up_bound (n:=7*b - 12*a+k) (by omega)
   refine W.skip (k3 _ ?_)
   refine W.pure dn fun K6 k6=>?_
   simp only[E,F,J,M,R,Tz,V,X,Y,reduceIte,G,H,sz];refine k6 _ ?_
   refine W.seqK fun K7 k7=>?_
   refine W.block ?_
   simp only[show k+(7*b - 12*a)=7*b - 12*a+k by omega,wrap_id (x:=7*b - 12*a+k) (by omega) (by omega)]
   refine W.loopO (X:=Nat) [3,5] (fun x=>[(9,wv ((7*b - 12*a+k) - 12*(x:Int)))]) (fun x=>[.cells 46 [wv (a+(x:Int)),wv b],.cells 46 [wv 0,wv 0]]) (fun x=>[((fun _=>True),w)]) (fun x=>(x:Int)≤upT (7*b - 12*a+k)) (fun x=>(upT (7*b - 12*a+k) - x).toNat) 0 ?_ ?_ ?_
   · exact⟨rfl,by simp[getE,bnd,keepE],⟨[],by simp⟩,by simp[Own.bnd,bndL,bnd,boxO],by simp⟩
   ·
    simp;omega
   ·
    rintro x hx
    simp only[E,F,J,M,R,Tz,V,X,Y,reduceIte,sxk,G,H,sz]
    refine W.seqK fun K8 k8=>?_
    refine W.pure dn fun K9 k9=>?_
    simp only[E,F,J,M,R,Tz,V,X,Y,reduceIte,G,H,sz];refine k9 _ ?_
    refine W.cond rfl rfl (fun hc=>?_) fun hc=>?_
    ·
     have hlt:=upT_step (n:=7*b - 12*a+k) (x:=x) (by simpa using hc)
     refine W.skip (k8 _ ?_)
     refine W.block ?_
     refine W.pure dn fun K10 k10=>?_
     simp only[E,F,J,M,R,Tz,V,X,Y,reduceIte,G,H,sz];refine k10 _ ?_
     refine W.region ?_
     refine WO.go 5 dn ?_
     simp only[E,F,J,M,R,Tz,V,X,Y,reduceIte,G,H,sz]
     refine WO.nil ?_
     rw[wrap_id (x:=(7*b - 12*a+k) - 12*(x:Int) - 12) (by omega) (by omega),wrap_id (x:=a+(x:Int)+1) (by omega) (by omega),show(7*b - 12*a+k) - 12*(x:Int) - 12=(7*b - 12*a+k) - 12*((x+1:Nat):Int) by omega,show a+(x:Int)+1=a+((x+1:Nat):Int) by omega]
     refine⟨x+1,hlt,by omega,rfl,by simp[getE,bnd,keepE],⟨[],rfl⟩,by simp[Own.bnd,bndL,bnd],by simp⟩
    ·
     have hu:=upT_end hx (by simpa using hc)
     refine W.exit (k7 _ ?_)
     refine W.seqK fun K11 k11=>?_
     refine W.block ?_
     refine W.loopO (X:=Nat) [3,5] (fun y=>[(9,wv ((7*b - 12*a+k) - 12*(x:Int)+12*(y:Int)))]) (fun y=>[.cells 46 [wv (a+(x:Int) - (y:Int)),wv b],.cells 46 [wv 0,wv 0]]) (fun y=>[((fun _=>True),w)]) (fun y=>(y:Int)≤dnT (7*b - 12*a+k)) (fun y=>(dnT (7*b - 12*a+k) - y).toNat) 0 ?_ ?_ ?_
     · exact⟨rfl,by simp[getE,bnd,keepE],⟨[],by simp⟩,by simp[Own.bnd,bndL,bnd,boxO],by simp⟩
     ·
      simp;omega
     ·
      rintro y hy
      simp only[E,F,J,M,R,Tz,V,X,Y,reduceIte,sxk,G,H,sz]
      refine W.seqK fun K12 k12=>?_
      refine W.pure dn fun K13 k13=>?_
      simp only[E,F,J,M,R,Tz,V,X,Y,reduceIte,G,H,sz];refine k13 _ ?_
      refine W.cond rfl rfl (fun hc=>?_) fun hc=>?_
      ·
       have hlt:=dnT_step hu hy (by simpa using hc)
       refine W.skip (k12 _ ?_)
       refine W.block ?_
       refine W.pure dn fun K14 k14=>?_
       simp only[E,F,J,M,R,Tz,V,X,Y,reduceIte,G,H,sz];refine k14 _ ?_
       refine W.region ?_
       refine WO.go 5 dn ?_
       simp only[E,F,J,M,R,Tz,V,X,Y,reduceIte,G,H,sz]
       refine WO.nil ?_
       rw[wrap_id (x:=(7*b - 12*a+k) - 12*(x:Int)+12*(y:Int)+12) (by omega) (by omega),wrap_id (x:=a+(x:Int) - (y:Int) - 1) (by omega) (by omega),show(7*b - 12*a+k) - 12*(x:Int)+12*(y:Int)+12=(7*b - 12*a+k) - 12*(x:Int)+12*((y+1:Nat):Int) by omega,show a+(x:Int) - (y:Int) - 1=a+(x:Int) - ((y+1:Nat):Int) by omega]
       refine⟨y+1,hlt,by omega,rfl,by simp[getE,bnd,keepE],⟨[],rfl⟩,by simp[Own.bnd,bndL,bnd],by simp⟩
      ·
       have hd:=dnT_end hu hy (by simpa using hc)
       refine W.exit (k11 _ ?_)
       refine W.seqK fun K15 k15=>?_
       refine W.regionT' 3 [] [0,1,2] mixed (by kernel_rfl) ?_
       simp only[E,F,J,M,R,Tz,V,X,Y,reduceIte,sxt,List.toList_toArray,G,H,sz]
       refine WQ.go 3 dn ?_
       simp only[E,F,J,M,R,Tz,V,X,Y,reduceIte,sxq,G,H,sz]
       refine WQ.nil ?_
       refine WO.go 2 dn ?_
       simp only[E,F,J,M,R,Tz,V,X,Y,reduceIte,G,H,sz]
       refine WO.nil ?_
       refine k15 _ ?_
       refine W.ret ?_
       refine⟨by simp,RunR.ex ?_⟩
       simp only[E,F,J,M,R,Tz,V,X,Y,reduceIte,sxr,G,H,sz]
       intro ρ w1 hb
       rw[moveF_yes hf,turns_eq,hu,hd,show(7*b - 12*a+k) - 12*((x:Int) - (y:Int))=(7*b - 12*a+k) - 12*(x:Int)+12*(y:Int) by omega,show a+((x:Int) - (y:Int))=a+(x:Int) - (y:Int) by omega];rfl
end Go.Proofs.YtolmeekbjonbcaaGreatDoor
namespace Go.Proofs.YtolmeekbjonbcaaGreatDoor
open Go Go.SX
variable [Drw]
abbrev Pit:=Int×Int×Int
def validP (p:Pit):Bool:=within 0 6 p.1 && (within (-4) 4 p.2.1 && within (-8) 20 p.2.2)
theorem validP_iff {p:Pit}:validP p=true↔(0≤p.1∧p.1≤6)∧(-4≤p.2.1∧p.2.1≤4)∧-8≤p.2.2∧p.2.2≤20:=by simp[validP,within]
end Go.Proofs.YtolmeekbjonbcaaGreatDoor
namespace Go.Proofs.YtolmeekbjonbcaaGreatDoor
open Go Go.SX Go.RowKit
variable [Drw]
open Int renaming reduceEq → E, reduceLT → F, reduceBEq → G, reduceBNe → H, reduceNeg → Z1, reduceGT → Z2, reduceLE → Z3, reduceGE → Z4, reduceMul → Z5, reduceMod → Z6, reduceAdd → Z7, reduceTMod → Z8, reduceTDiv → Z9
open Nat renaming reduceAdd → J, reduceSub → M, reduceMul → R, reduceLT → Tz, reduceLeDiff → V, reduceEqDiff → X
open List renaming reduceReplicate → Y
abbrev D4_:List (Option Nat):=[some 3,some 4,some 5,some 6,some 7,some 8,some 9,some 10,some 11,some 12,some 13,some 14,some 15,some 2]
theorem valid_spec (w:World) (p:Pit):Gives Tryz.prog 119 #[.agg #[iv p.1,iv p.2.1,iv p.2.2]] w fun r _=>r=.bool (validP p):=by
 refine gives_of [.agg [wv p.1,wv p.2.1,wv p.2.2]] 16 [.tmp 2] Tryz.func119 rfl rfl rfl (by simp) rfl rfl ?_
 refine W.pure dn fun K1 k1=>?_
 simp only[E,F,J,M,R,Tz,V,X,Y,reduceIte,G,H,sz];refine k1 _ ?_
 refine W.join 2 (.val (.bool (validP p))) [] (W.region ?_) ?_
 ·
  refine WO.go 2 (ds:=D4_) rfl ?_
  simp only[E,F,J,M,R,Tz,V,X,Y,reduceIte,G,H,sz]
  refine WO.call (.bool (within 0 6 p.1)) (ds:=D4_) rfl rfl rfl rfl co168 (fun ρ w1 hb=>within_spec w1 _ _ _) ?_
  refine WO.go 1 (ds:=D4_) rfl ?_
  simp only[E,F,J,M,R,Tz,V,X,Y,reduceIte,G,H,sz]
  refine WO.cases 6 _ rfl (fun hg6=>?_) fun hg6=>?_
  ·
   refine WO.go 2 (ds:=D4_) rfl ?_
   simp only[E,F,J,M,R,Tz,V,X,Y,reduceIte,G,H,sz]
   refine WO.call (.bool (within (-4) 4 p.2.1)) (ds:=D4_) rfl rfl rfl rfl co168 (fun ρ w1 hb=>within_spec w1 _ _ _) ?_
   refine WO.go 2 (ds:=D4_) rfl ?_
   simp only[E,F,J,M,R,Tz,V,X,Y,reduceIte,G,H,sz]
   refine WO.cases 11 _ rfl (fun hg11=>?_) fun hg11=>?_
   ·
    refine WO.go 2 (ds:=D4_) rfl ?_
    simp only[E,F,J,M,R,Tz,V,X,Y,reduceIte,G,H,sz]
    refine WO.call (.bool (within (-8) 20 p.2.2)) (ds:=D4_) rfl rfl rfl rfl co168 (fun ρ w1 hb=>within_spec w1 _ _ _) ?_
    refine WO.go 2 (ds:=D4_) rfl ?_
    simp only[E,F,J,M,R,Tz,V,X,Y,reduceIte,G,H,sz]
    refine WO.nil ?_
    refine⟨rfl,?_,⟨_,rfl⟩,by simp[Own.bnd,bndL,bnd,boxO],by simp⟩
    try rw[hg6]
    try rw[hg11]
    simp[getE,bnd,keepE]
    try simp_all [validP]
   ·
    refine WO.go 5 (ds:=D4_) rfl ?_
    simp only[E,F,J,M,R,Tz,V,X,Y,reduceIte,G,H,sz]
    refine WO.nil ?_
    refine⟨rfl,?_,⟨_,rfl⟩,by simp[Own.bnd,bndL,bnd,boxO],by simp⟩
    try rw[hg6]
    try rw[hg11]
    simp[getE,bnd,keepE]
    try simp_all [validP]
  ·
   refine WO.go 10 (ds:=D4_) rfl ?_
   simp only[E,F,J,M,R,Tz,V,X,Y,reduceIte,G,H,sz]
   refine WO.nil ?_
   refine⟨rfl,?_,⟨_,rfl⟩,by simp[Own.bnd,bndL,bnd,boxO],by simp⟩
   try rw[hg6]
   try rw[hg11]
   simp[getE,bnd,keepE]
   try simp_all [validP]
 ·
  simp only[E,F,J,M,R,Tz,V,X,Y,reduceIte,sxk,G,H,sz]
  refine W.ret ⟨by simp,_,rfl,fun ρ w1 hb=>?_⟩
  rfl
def naturals:List Int:=[0,2,4,5,7,9,11]
def GN (w:World):Prop:=At w ⟨0,0,none⟩ (naturals.map (.int .i64))∧0<w.heap.size
theorem GN.now {w w1:World} (h:GN w) (hk:Keep (fun _=>True) w w1):GN w1:=⟨h.1.frame (hk.block _ trivial h.2),Nat.lt_of_lt_of_le h.2 hk.size⟩
def natF (s:Int):Int:=naturals.getD s.toNat 0
theorem nat_get {s:Int} (h:0≤s∧s≤6):(naturals.map (Value.int .i64))[s.toNat]?=some (.int .i64 (natF s)):=by
 have:s=0∨s=1∨s=2∨s=3∨s=4∨s=5∨s=6:=by omega
 rcases this with rfl | rfl | rfl | rfl | rfl | rfl | rfl<;>rfl
theorem nat_bound {s:Int} (h:0≤s∧s≤6):0≤natF s∧natF s≤11:=by
 have:s=0∨s=1∨s=2∨s=3∨s=4∨s=5∨s=6:=by omega
 rcases this with rfl | rfl | rfl | rfl | rfl | rfl | rfl<;>decide
def numF (p:Pit):Int:=12*p.2.2+natF p.1+p.2.1
def placeN (p:Pit):Int:=7*p.2.2+p.1
def addP (p:Pit) (a b:Int):Pit:=((placeN p+a) % 7,numF p+b - numF ((placeN p+a) % 7,0,(placeN p+a) / 7),(placeN p+a) / 7)
def addF (p:Pit) (a b:Int):Pit×Int:=
 if (validP p && formed a b)=true then (if a=0∧b=0 then (p,0) else if validP (addP p a b)=true then (addP p a b,0) else ((0,0,0),3)) else ((0,0,0),1)
theorem addF_bad {p:Pit} {a b:Int} (h:(validP p && formed a b)=false):addF p a b=((0,0,0),1):=if_neg (by rw[h];decide)
theorem addF_same {p:Pit} {a b:Int} (h:(validP p && formed a b)=true) (h2:a=0∧b=0):addF p a b=(p,0):=by unfold addF;rw[if_pos h,if_pos h2]
theorem addF_yes {p:Pit} {a b:Int} (h:(validP p && formed a b)=true) (h2:¬ (a=0∧b=0)) (h3:validP (addP p a b)=true):addF p a b=(addP p a b,0):=by unfold addF;rw[if_pos h,if_neg h2,if_pos h3]
theorem addF_out {p:Pit} {a b:Int} (h:(validP p && formed a b)=true) (h2:¬ (a=0∧b=0)) (h3:validP (addP p a b)=false):addF p a b=((0,0,0),3):=by unfold addF;rw[if_pos h,if_neg h2,if_neg (by simp[h3])]
theorem floor7 (n:Int):(if n.tmod 7<0 then (n.tdiv 7 - 1,n.tmod 7+7) else (n.tdiv 7,n.tmod 7))=(n / 7,n % 7):=by
 rcases Int.lt_or_le n 0 with h | h
 ·
  obtain⟨m,rfl⟩:∃ m:Int,n=-m:=⟨-n,by omega⟩
  rw[Int.neg_tdiv,Int.neg_tmod,Int.tdiv_eq_ediv_of_nonneg (by omega),Int.tmod_eq_emod_of_nonneg (by omega)]
  split<;>(simp only[Prod.mk.injEq];omega)
 · rw[Int.tdiv_eq_ediv_of_nonneg h,Int.tmod_eq_emod_of_nonneg h,if_neg (by omega)]
theorem tdiv7 (n:Int) (h:-100000≤n∧n≤100000):-100000≤n.tdiv 7∧n.tdiv 7≤100000∧-7≤n.tmod 7∧n.tmod 7≤7:=by
 rcases Int.lt_or_le n 0 with h0 | h0
 ·
  obtain⟨m,rfl⟩:∃ m:Int,n=-m:=⟨-n,by omega⟩
  rw[Int.neg_tdiv,Int.neg_tmod,Int.tdiv_eq_ediv_of_nonneg (by omega),Int.tmod_eq_emod_of_nonneg (by omega)]
  omega
 ·
  rw[Int.tdiv_eq_ediv_of_nonneg h0,Int.tmod_eq_emod_of_nonneg h0]
  omega
theorem split_spec (w:World) (n:Int) (hn:-100000≤n∧n≤100000):Gives Tryz.prog 215 #[iv n,iv 7] w fun r _=>r=.tuple #[iv (n / 7),iv (n % 7)]:=by
 have ht:=tdiv7 n hn
 have hfl:=floor7 n
 have hw:=wrap_id (x:=n.tdiv 7) (by omega) (by omega)
 refine gives_of [wv n,wv 7] 23 [.tmp 4,.tmp 5] Tryz.func215 rfl rfl rfl (by simp) rfl rfl ?_
 refine W.pure dn fun K1 k1=>?_
 simp only[E,F,J,M,R,Tz,V,X,Y,reduceIte,G,H,sz];refine k1 _ ?_
 refine W.seqK fun K2 k2=>?_
 refine W.regionQ mixed (by kernel_rfl) ?_
 refine WQ.go 2 dn ?_
 simp only[E,F,J,M,R,Tz,V,X,Y,reduceIte,sxq,G,H,sz]
 refine WQ.go 1 dn ?_
 simp only[E,F,J,M,R,Tz,V,X,Y,reduceIte,sxq,G,H,Z1,if_false,sz]
 refine WQ.go 2 dn ?_
 simp only[E,F,J,M,R,Tz,V,X,Y,reduceIte,sxq,G,H,sz]
 refine WQ.go 1 dn ?_
 simp only[E,F,J,M,R,Tz,V,X,Y,reduceIte,sxq,G,H,Z1,if_false,sz]
 refine WQ.go 2 dn ?_
 simp only[E,F,J,M,R,Tz,V,X,Y,reduceIte,sxq,G,H,sz]
 refine WQ.nil ?_
 refine k2 _ ?_
 refine W.seqK fun K3 k3=>?_
 refine W.pure dn fun K4 k4=>?_
 simp only[E,F,J,M,R,Tz,V,X,Y,reduceIte,G,H,sz];refine k4 _ ?_
 refine W.cond rfl rfl (fun hc=>?_) fun hc=>?_
 ·
  have hneg:n.tmod 7<0:=by simpa using hc
  rw[if_pos hneg] at hfl
  simp only[Prod.mk.injEq] at hfl
  refine W.pure dn fun K5 k5=>?_
  simp only[E,F,J,M,R,Tz,V,X,Y,reduceIte,G,H,sz];refine k5 _ ?_
  refine W.ret ⟨by simp,_,rfl,fun ρ w1 hb=>?_⟩
  simp only[den,denL]
  rw[hw,wrap_id (x:=n.tdiv 7 - 1) (by omega) (by omega),wrap_id (x:=n.tmod 7+7) (by omega) (by omega),hfl.1,hfl.2]
 ·
  have hneg:¬ n.tmod 7<0:=by simpa using hc
  rw[if_neg hneg] at hfl
  simp only[Prod.mk.injEq] at hfl
  refine W.skip (k3 _ ?_)
  refine W.pure dn fun K6 k6=>?_
  simp only[E,F,J,M,R,Tz,V,X,Y,reduceIte,G,H,sz];refine k6 _ ?_
  refine W.ret ⟨by simp,_,rfl,fun ρ w1 hb=>?_⟩
  simp only[den,denL]
  rw[hw,hfl.1,hfl.2]
theorem place_spec (w:World) (p:Pit) (h:-1000≤p.1∧p.1≤1000∧-1000≤p.2.2∧p.2.2≤1000):Gives Tryz.prog 216 #[.agg #[iv p.1,iv p.2.1,iv p.2.2]] w fun r _=>r=iv (placeN p):=by
 refine gives_of [.agg [wv p.1,wv p.2.1,wv p.2.2]] 9 [.tmp 2] Tryz.func216 rfl rfl rfl (by simp) rfl rfl ?_
 refine W.pure dn fun K1 k1=>?_
 simp only[E,F,J,M,R,Tz,V,X,Y,reduceIte,G,H,sz];refine k1 _ ?_
 refine W.pure dn fun K2 k2=>?_
 simp only[E,F,J,M,R,Tz,V,X,Y,reduceIte,G,H,sz];refine k2 _ ?_
 refine W.ret ⟨by simp,_,rfl,fun ρ w1 hb=>?_⟩
 simp only[den,placeN,wrap_id (x:=7*p.2.2) (by omega) (by omega),wrap_id (x:=7*p.2.2+p.1) (by omega) (by omega)]
theorem number_spec {w:World} (hN:GN w) (p:Pit) (h:0≤p.1∧p.1≤6) (h2:-1000≤p.2.1∧p.2.1≤1000∧-1000≤p.2.2∧p.2.2≤1000):Gives Tryz.prog 165 #[.agg #[iv p.1,iv p.2.1,iv p.2.2]] w fun r _=>r=iv (numF p):=by
 have hnb:=nat_bound h
 refine gives_of [.agg [wv p.1,wv p.2.1,wv p.2.2]] 14 [.tmp 2] Tryz.func165 rfl rfl rfl (by simp) rfl rfl ?_
 refine W.pure dn fun K1 k1=>?_
 simp only[E,F,J,M,R,Tz,V,X,Y,reduceIte,G,H,sz];refine k1 _ ?_
 refine W.seqK fun K2 k2=>?_
 refine W.regionQ mixed (by kernel_rfl) ?_
 refine WQ.go 5 dn ?_
 simp only[E,F,J,M,R,Tz,V,X,Y,reduceIte,sxq,G,H,sz]
 refine WQ.elemA (p:=⟨0,0,none⟩) (s:=w) (S:=fun _=>True) (y:=iv (natF p.1)) hN.1 (by simp[St.put]) trivial hN.2 dn rfl rfl (by simp[St.put]) (fun _=>rfl) rfl rfl rfl rfl rfl ar265 agg3 sz3 (by omega) (by omega) (nat_get h) fun q=>?_
 refine WQ.go 5 dn ?_
 simp only[E,F,J,M,R,Tz,V,X,Y,reduceIte,sxq,G,H,sz]
 refine WQ.nil ?_
 refine k2 _ ?_
 refine W.ret ⟨by simp,_,rfl,fun ρ w1 hb=>?_⟩
 simp only[den,numF,wrap_id (x:=12*p.2.2) (by omega) (by omega),wrap_id (x:=12*p.2.2+natF p.1) (by omega) (by omega),wrap_id (x:=12*p.2.2+natF p.1+p.2.1) (by omega) (by omega)]
abbrev D5_:List (Option Nat):=[some 7,some 8,some 9,some 10,some 11,some 12,some 13,some 14]
abbrev D6_:List (Option Nat):=[some 21,some 22,some 23,some 24,some 25,some 26,some 20,some 27,some 28,some 29,none,some 30,none]
theorem add_spec {w:World} (hN:GN w) (p:Pit) (a b:Int):Gives Tryz.prog 191 #[.agg #[iv p.1,iv p.2.1,iv p.2.2],.agg #[iv a,iv b]] w fun r _=>r=.tuple #[.agg #[iv (addF p a b).1.1,iv (addF p a b).1.2.1,iv (addF p a b).1.2.2],iv (addF p a b).2]:=by
 refine gives_of [.agg [wv p.1,wv p.2.1,wv p.2.2],.agg [wv a,wv b]] 45 [.cell 4 48,.tmp 5] Tryz.func191 rfl rfl rfl (by simp) rfl rfl ?_
 refine W.pure dn fun K1 k1=>?_
 simp only[E,F,J,M,R,Tz,V,X,Y,reduceIte,G,H,sz];refine k1 _ ?_
 refine W.seqK fun K2 k2=>?_
 refine W.join 14 (.val (.bool (!(validP p && formed a b)))) [2,3,4] (W.region ?_) ?_
 ·
  refine WO.go 1 (ds:=D5_) rfl ?_
  simp only[E,F,J,M,R,Tz,V,X,Y,reduceIte,G,H,sz]
  refine WO.call (.bool (validP p)) (ds:=D5_) rfl rfl rfl rfl co119 (fun ρ w1 hb=>valid_spec w1 p) ?_
  refine WO.go 2 (ds:=D5_) rfl ?_
  simp only[E,F,J,M,R,Tz,V,X,Y,reduceIte,G,H,sz]
  refine WO.cases 10 _ rfl (fun hg10=>?_) fun hg10=>?_
  ·
   refine WO.go 4 (ds:=D5_) rfl ?_
   simp only[E,F,J,M,R,Tz,V,X,Y,reduceIte,G,H,sz]
   refine WO.nil ?_
   refine⟨rfl,?_,⟨_,rfl⟩,by simp[Own.bnd,bndL,bnd,boxO],by simp⟩
   try rw[hg10]
   simp[getE,bnd,keepE]
   try simp_all
  ·
   refine WO.go 1 (ds:=D5_) rfl ?_
   simp only[E,F,J,M,R,Tz,V,X,Y,reduceIte,G,H,sz]
   refine WO.call (.bool (formed a b)) (ds:=D5_) rfl rfl rfl rfl co214 (fun ρ w1 hb=>formed_spec w1 _ _) ?_
   refine WO.go 2 (ds:=D5_) rfl ?_
   simp only[E,F,J,M,R,Tz,V,X,Y,reduceIte,G,H,sz]
   refine WO.nil ?_
   refine⟨rfl,?_,⟨_,rfl⟩,by simp[Own.bnd,bndL,bnd,boxO],by simp⟩
   try rw[hg10]
   simp[getE,bnd,keepE]
   try simp_all
 ·
  simp only[E,F,J,M,R,Tz,V,X,Y,reduceIte,sxk,G,H,sz]
  refine W.cond rfl rfl (fun hc=>?_) fun hc=>?_
  ·
   have hf:(validP p && formed a b)=false:=by simpa only [Bool.not_eq_true'] using hc
   refine W.pure dn fun K4 k4=>?_
   simp only[E,F,J,M,R,Tz,V,X,Y,reduceIte,G,H,sz];refine k4 _ ?_
   refine W.ret ?_
   refine⟨by simp,RunR.ex ?_⟩
   simp only[E,F,J,M,R,Tz,V,X,Y,reduceIte,sxr,G,H,sz]
   intro ρ w1 hb
   rw[addF_bad hf];rfl
  ·
   have hf:(validP p && formed a b)=true:=by simpa only [Bool.not_eq_false'] using hc
   have hf2:=hf
   simp only[Bool.and_eq_true] at hf2
   have hv2:=validP_iff.1 hf2.1
   have hb2:=formed_iff.1 hf2.2
   refine W.skip (k2 _ ?_)
   refine W.seqK fun K5 k5=>?_
   refine W.seqK fun K6 k6=>W.region ?_
   refine WO.go 2 dn ?_
   simp only[E,F,J,M,R,Tz,V,X,Y,reduceIte,G,H,sz]
   refine WO.aggCmp [a,b] [0,0] dn rfl rfl rfl ⟨_,rfl,fun _=>rfl⟩ ⟨_,rfl,fun _=>rfl⟩ it46 rfl rfl rfl ?_
   simp only[E,F,J,M,R,Tz,V,X,Y,reduceIte,G,H,sz]
   refine WO.nil ?_
   refine k6 _ ?_
   refine W.cond rfl rfl (fun hc=>?_) fun hc=>?_
   ·
    have h0:a=0∧b=0:=by simpa using hc
    refine W.pure dn fun K7 k7=>?_
    simp only[E,F,J,M,R,Tz,V,X,Y,reduceIte,G,H,sz];refine k7 _ ?_
    refine W.ret ?_
    refine⟨by simp,RunR.ex ?_⟩
    simp only[E,F,J,M,R,Tz,V,X,Y,reduceIte,sxr,G,H,sz]
    intro ρ w1 hb
    rw[addF_same hf h0];rfl
   ·
    have h0:¬ (a=0∧b=0):=by intro h;rw[h.1,h.2] at hc;simp at hc
    refine W.skip (k5 _ ?_)
    refine W.pure dn fun K8 k8=>?_
    simp only[E,F,J,M,R,Tz,V,X,Y,reduceIte,G,H,sz];refine k8 _ ?_
    have hpl:-1000≤placeN p∧placeN p≤1000:=by unfold placeN;omega
    have hnp:-1000≤numF p∧numF p≤1000:=by unfold numF;have:=nat_bound hv2.1;omega
    have hst:0≤(placeN p+a) % 7∧(placeN p+a) % 7≤6:=by omega
    have hoc:-1000≤(placeN p+a) / 7∧(placeN p+a) / 7≤1000:=by omega
    have hnq:-10000≤numF ((placeN p+a) % 7,0,(placeN p+a) / 7)∧numF ((placeN p+a) % 7,0,(placeN p+a) / 7)≤10000:=by unfold numF;have:=nat_bound hst;simp only;omega
    have hwm:=wrap_id (x:=(placeN p+a)) (by omega) (by omega)
    have hwb:=wrap_id (x:=numF p+b) (by omega) (by omega)
    have hwq:=wrap_id (x:=numF p+b - numF ((placeN p+a) % 7,0,(placeN p+a) / 7)) (by omega) (by omega)
    refine W.seqK fun K9 k9=>?_
    refine W.regionS (ds:=D6_) (tg:=[none,none,none,none,none,none,none,none,none,none,some 3,none,some 3]) [⟨[],[],[2],[],none,false⟩,⟨[0],[0],[],[],none,false⟩,⟨[],[],[3],[],none,false⟩,⟨[2],[2],[],[],none,false⟩,⟨[0,1,2,3],[1,3],[],[],none,false⟩,⟨[0,1,2,3,4],[4],[],[],none,false⟩,⟨[0,1,2,3,4,5],[5],[],[],none,false⟩,⟨[0,1,2,3,4,5,6],[6],[],[],none,false⟩,⟨[0,1,2,3,4,5,6],[6],[],[3],none,false⟩,⟨[0,1,2,3,4,5,6,7],[],[6],[],none,false⟩,⟨[0,1,2,3,4,5,6,7,9],[7,9],[],[],some 3,false⟩,⟨[0,1,2,3,4,5,6,7,8,9,10],[],[6],[],none,false⟩,⟨[0,1,2,3,4,5,6,7,8,9,10,11],[8,11],[],[],some 3,false⟩] 0 4 45 mixed rfl rfl (by kernel_rfl) (by kernel_rfl) ?_
    simp only[E,F,J,M,R,Tz,V,X,Y,reduceIte,sxs,G,H,sa,sz]
    refine WS.go rfl rfl rfl ?_
    simp only[E,F,J,M,R,Tz,V,X,Y,reduceIte,sxs,G,H,sa,sz]
    refine WS.call (iv (placeN p)) rfl rfl rfl co216 (fun ρ w1 hb=>place_spec w1 p (by omega)) ?_
    simp only[E,F,J,M,R,Tz,V,X,Y,reduceIte,sxs,G,H,sa,sz]
    refine WS.go rfl rfl rfl ?_
    simp only[E,F,J,M,R,Tz,V,X,Y,reduceIte,sxs,G,H,sa,sz]
    refine WS.go rfl rfl rfl ?_
    simp only[E,F,J,M,R,Tz,V,X,Y,reduceIte,sxs,G,H,sa,sz]
    refine WS.go rfl rfl rfl ?_
    simp only[E,F,J,M,R,Tz,V,X,Y,reduceIte,sxs,G,H,sa,sz]
    refine WS.call (.tuple #[iv ((placeN p+a) / 7),iv ((placeN p+a) % 7)]) rfl rfl rfl co215 (fun ρ w1 hb=>by have:=split_spec w1 (placeN p+a) (by omega);rw[← hwm] at this;simpa [denL_eq,den,denL,hwm] using this) ?_
    simp only[E,F,J,M,R,Tz,V,X,Y,reduceIte,sxs,G,H,sa,sz]
    refine WS.go rfl rfl rfl ?_
    simp only[E,F,J,M,R,Tz,V,X,Y,reduceIte,sxs,G,H,sa,sz]
    refine WS.go rfl rfl rfl ?_
    simp only[E,F,J,M,R,Tz,V,X,Y,reduceIte,sxs,G,H,sa,sz]
    refine WS.go rfl rfl rfl ?_
    simp only[E,F,J,M,R,Tz,V,X,Y,reduceIte,sxs,G,H,sa,sz]
    refine WS.go rfl rfl rfl ?_
    simp only[E,F,J,M,R,Tz,V,X,Y,reduceIte,sxs,G,H,sa,sz]
    refine WS.store rfl rfl rfl rfl rfl rfl rfl sz3 (Nat.le_of_ble_eq_true rfl) rfl ?_
    simp only[E,F,J,M,R,Tz,V,X,Y,reduceIte,sxs,G,H,sa,sz]
    refine WS.go rfl rfl rfl ?_
    simp only[E,F,J,M,R,Tz,V,X,Y,reduceIte,sxs,G,H,sa,sz]
    refine WS.store rfl rfl rfl rfl rfl rfl rfl sz3 (Nat.le_of_ble_eq_true rfl) rfl ?_
    simp only[E,F,J,M,R,Tz,V,X,Y,reduceIte,sxs,G,H,sa,sz]
    refine WS.nil [0,1,2,3,4,5,6,7,8,9,10,11,12] rfl rfl ?_
    simp only[E,F,J,M,R,Tz,V,X,Y,reduceIte,sxs,G,H,sa,sz]
    refine k9 _ ?_
    refine W.seqK fun K10 k10=>?_
    refine W.regionT' 9 [] [0,1,2,3,4,5,6,7,8] mixed (by kernel_rfl) ?_
    simp only[E,F,J,M,R,Tz,V,X,Y,reduceIte,sxt,List.toList_toArray,G,H,sz]
    refine WQ.go 1 dn ?_
    simp only[E,F,J,M,R,Tz,V,X,Y,reduceIte,sxq,G,H,sz]
    refine WQ.call (iv (numF p)) dn rfl rfl rfl co165 (fun ρ w1 hb=>number_spec (hN.now (hb.first (by simp))) p hv2.1 (by omega)) ?_
    refine WQ.go 4 dn ?_
    simp only[E,F,J,M,R,Tz,V,X,Y,reduceIte,sxq,G,H,sz]
    refine WQ.call (iv (numF ((placeN p+a) % 7,0,(placeN p+a) / 7))) dn rfl rfl rfl co165 (fun ρ w1 hb=>number_spec (hN.now (hb.first (by simp))) ((placeN p+a) % 7,0,(placeN p+a) / 7) hst (by simp only;omega)) ?_
    refine WQ.go 2 dn ?_
    simp only[E,F,J,M,R,Tz,V,X,Y,reduceIte,sxq,G,H,sz]
    refine WQ.nil ?_
    refine WO.go 1 dn ?_
    simp only[E,F,J,M,R,Tz,V,X,Y,reduceIte,G,H,sz]
    refine WO.nil ?_
    refine k10 _ ?_
    refine W.seqK fun K11 k11=>?_
    refine W.seqK fun K12 k12=>W.region ?_
    refine WO.go 1 dn ?_
    simp only[E,F,J,M,R,Tz,V,X,Y,reduceIte,G,H,sz]
    refine WO.call (.bool (validP (addP p a b))) dn rfl rfl rfl co119 (fun ρ w1 hb=>by have:=valid_spec w1 (addP p a b);unfold addP at this ⊢;simpa [denL_eq,den,denL,hwb,hwq] using this) ?_
    refine WO.go 1 dn ?_
    simp only[E,F,J,M,R,Tz,V,X,Y,reduceIte,G,H,sz]
    refine WO.nil ?_
    refine k12 _ ?_
    refine W.cond rfl rfl (fun hc=>?_) fun hc=>?_
    ·
     have h3:validP (addP p a b)=false:=by simpa using hc
     refine W.pure dn fun K13 k13=>?_
     simp only[E,F,J,M,R,Tz,V,X,Y,reduceIte,G,H,sz];refine k13 _ ?_
     refine W.ret ?_
     refine⟨by simp,RunR.ex ?_⟩
     simp only[E,F,J,M,R,Tz,V,X,Y,reduceIte,sxr,G,H,sz]
     intro ρ w1 hb
     rw[addF_out hf h0 h3];rfl
    ·
     have h3:validP (addP p a b)=true:=by simpa using hc
     refine W.skip (k11 _ ?_)
     refine W.pure dn fun K14 k14=>?_
     simp only[E,F,J,M,R,Tz,V,X,Y,reduceIte,G,H,sz];refine k14 _ ?_
     refine W.ret ?_
     refine⟨by simp,RunR.ex ?_⟩
     simp only[E,F,J,M,R,Tz,V,X,Y,reduceIte,sxr,G,H,sz]
     intro ρ w1 hb
     rw[addF_yes hf h0 h3]
     simp only[den,denL,hwb,hwq,addP]
end Go.Proofs.YtolmeekbjonbcaaGreatDoor
namespace Go.Proofs.YtolmeekbjonbcaaGreatDoor
open Go Go.SX
variable [Drw]
theorem move_fact {k a b:Int} (hk:isKey k=true) (hf:formed a b=true):∃ t,moveF k a b=(7*b - 12*(a+t)+k,a+t,b,0)∧(-7≤7*b - 12*(a+t)+k∧7*b - 12*(a+t)+k≤7)∧(t=0∨0<t∧7<7*b - 12*a+k∧-4≤7*b - 12*(a+t)+k∨t<0∧7*b - 12*a+k < -7∧7*b - 12*(a+t)+k≤4):=by
 have hkb:=within_iff.1 hk
 have hfb:=formed_iff.1 hf
 have ht:∃ t,turns (7*b - 12*a+k)=t∧-7≤7*b - 12*(a+t)+k∧7*b - 12*(a+t)+k≤7∧(t=0∨0<t∧7<7*b - 12*a+k∧-4≤7*b - 12*(a+t)+k∨t<0∧7*b - 12*a+k < -7∧7*b - 12*(a+t)+k≤4):=by
  refine⟨_,rfl,?_⟩
  unfold turns
  split
  · omega
  · split<;>omega
 obtain⟨t,ht,h1,h2,h3⟩:=ht
 refine⟨t,?_,⟨h1,h2⟩,h3⟩
 rw[moveF_yes (by rw[hf,hk];rfl),ht]
 congr 1;omega
def numG (p:Pit):Int:=if validP p=true then numF p else 0
def writtenF (a b:Int) (lo hi:Pit):Bool:=(formed a b && (within (-21) 21 a && (within (-36) 36 b && within (-12) 12 (7*b - 12*a)))) && (validP lo && (validP hi && decide (numF lo≤numF hi)))
theorem written_iff {a b:Int} {lo hi:Pit}:writtenF a b lo hi=true↔(formed a b=true∧(-21≤a∧a≤21)∧(-36≤b∧b≤36)∧(-12≤7*b - 12*a∧7*b - 12*a≤12))∧validP lo=true∧validP hi=true∧numF lo≤numF hi:=by
 simp only[writtenF,Bool.and_eq_true,within_iff,decide_eq_true_eq]
def okI (a b:Int) (lo hi:Pit) (k:Int):Bool:=writtenF a b lo hi && isKey k
def mvI (a b k:Int):Int×Int×Int:=((moveF k (-a) (-b)).1,(moveF k (-a) (-b)).2.1,(moveF k (-a) (-b)).2.2.1)
theorem ok_fact {a b k:Int} {lo hi:Pit} (h:okI a b lo hi k=true):∃ t,moveF k (-a) (-b)=(7*-b - 12*(-a+t)+k,-a+t,-b,0)∧mvI a b k=(7*-b - 12*(-a+t)+k,-a+t,-b)∧(-7≤7*-b - 12*(-a+t)+k∧7*-b - 12*(-a+t)+k≤7)∧(-1≤t∧t≤1)∧formed (-a+t) (-b)=true∧isKey k=true∧writtenF a b lo hi=true:=by
 simp only[okI,Bool.and_eq_true] at h
 have hw:=written_iff.1 h.1
 have hfb:=formed_iff.1 hw.1.1
 have hf:formed (-a) (-b)=true:=formed_iff.2 (by omega)
 have hkb:=within_iff.1 h.2
 obtain⟨t,h1,h2,h3⟩:=move_fact h.2 hf
 refine⟨t,h1,by unfold mvI;rw[h1],h2,by omega,formed_iff.2 (by omega),h.2,h.1⟩
def keyF (a b:Int) (lo hi:Pit) (k:Int):Int×Int:=if okI a b lo hi k=true then ((mvI a b k).1,0) else (0,1)
def writeF (a b:Int) (lo hi:Pit) (k:Int) (q:Pit):Pit×Int:=if (okI a b lo hi k && validP q)=true then addF q (mvI a b k).2.1 (mvI a b k).2.2 else ((0,0,0),1)
def soundF (a b:Int) (lo hi:Pit) (k:Int) (q:Pit):Pit×Int:=if (okI a b lo hi k && validP q)=true then addF q (-(mvI a b k).2.1) (-(mvI a b k).2.2) else ((0,0,0),1)
def fitsF (a b:Int) (lo hi:Pit) (q:Pit):Bool×Int:=if (writtenF a b lo hi && validP q)=true then (decide (numF lo≤numF q) && decide (numF q≤numF hi),0) else (false,1)
theorem keyF_yes {a b k:Int} {lo hi:Pit} (h:okI a b lo hi k=true):keyF a b lo hi k=((mvI a b k).1,0):=if_pos h
theorem keyF_no {a b k:Int} {lo hi:Pit} (h:okI a b lo hi k=false):keyF a b lo hi k=(0,1):=if_neg (by rw[h];decide)
theorem writeF_yes {a b k:Int} {lo hi q:Pit} (h:(okI a b lo hi k && validP q)=true):writeF a b lo hi k q=addF q (mvI a b k).2.1 (mvI a b k).2.2:=if_pos h
theorem writeF_no {a b k:Int} {lo hi q:Pit} (h:(okI a b lo hi k && validP q)=false):writeF a b lo hi k q=((0,0,0),1):=if_neg (by rw[h];decide)
theorem soundF_yes {a b k:Int} {lo hi q:Pit} (h:(okI a b lo hi k && validP q)=true):soundF a b lo hi k q=addF q (-(mvI a b k).2.1) (-(mvI a b k).2.2):=if_pos h
theorem soundF_no {a b k:Int} {lo hi q:Pit} (h:(okI a b lo hi k && validP q)=false):soundF a b lo hi k q=((0,0,0),1):=if_neg (by rw[h];decide)
theorem fitsF_yes {a b:Int} {lo hi q:Pit} (h:(writtenF a b lo hi && validP q)=true):fitsF a b lo hi q=(decide (numF lo≤numF q) && decide (numF q≤numF hi),0):=if_pos h
theorem fitsF_no {a b:Int} {lo hi q:Pit} (h:(writtenF a b lo hi && validP q)=false):fitsF a b lo hi q=(false,1):=if_neg (by rw[h];decide)
theorem add_place (p:Pit) (a b:Int):placeN (addP p a b)=placeN p+a:=by simp only[placeN,addP];omega
theorem add_num (p:Pit) (a b:Int):numF (addP p a b)=numF p+b:=by simp only[numF,addP];omega
theorem add_step (p:Pit) (a b:Int):0≤(addP p a b).1∧(addP p a b).1≤6:=by simp only[addP];omega
theorem addP_back {p:Pit} (h:0≤p.1∧p.1≤6) (a b:Int):addP (addP p a b) (-a) (-b)=p:=by
 obtain⟨s,al,o⟩:=p
 have e1:placeN (addP (s,al,o) a b)+-a=7*o+s:=by rw[add_place];simp only[placeN];omega
 have e2:numF (addP (s,al,o) a b)+-b=12*o+natF s+al:=by rw[add_num];simp only[numF];omega
 have e3:(7*o+s) % 7=s:=by simp only at h;omega
 have e4:(7*o+s) / 7=o:=by simp only at h;omega
 unfold addP at e1 e2 ⊢
 rw[e1,e2,e3,e4]
 simp only[numF,Prod.mk.injEq,true_and,and_true];omega
theorem addF_ok {p q:Pit} {a b:Int} (h:addF p a b=(q,0)):validP p=true∧formed a b=true∧validP q=true∧q=addP p a b:=by
 cases hvf:(validP p && formed a b) with
 | false=>rw[addF_bad hvf] at h;simp at h
 |
  true=>
  have hv:=hvf
  simp only[Bool.and_eq_true] at hv
  by_cases h0:a=0∧b=0
  ·
   rw[addF_same hvf h0] at h
   obtain⟨rfl,_⟩:=Prod.mk.inj h
   refine⟨hv.1,hv.2,hv.1,?_⟩
   have h1:=validP_iff.1 hv.1
   have h2:(7*p.2.2+p.1) % 7=p.1:=by omega
   have h3:(7*p.2.2+p.1) / 7=p.2.2:=by omega
   unfold addP
   rw[h0.1,h0.2]
   simp only[placeN,Int.add_zero,h2,h3,numF]
   obtain⟨s,al,o⟩:=p
   simp only[Prod.mk.injEq,true_and,and_true];omega
  ·
   cases h3:validP (addP p a b) with
   | false=>rw[addF_out hvf h0 h3] at h;simp at h
   | true=>rw[addF_yes hvf h0 h3] at h;obtain⟨rfl,_⟩:=Prod.mk.inj h;exact⟨hv.1,hv.2,h3,rfl⟩
theorem addF_of {p:Pit} {a b:Int} (h1:validP p=true) (h2:formed a b=true) (h3:validP (addP p a b)=true):addF p a b=(addP p a b,0):=by
 have hvf:(validP p && formed a b)=true:=by rw[h1,h2];rfl
 by_cases h0:a=0∧b=0
 ·
  rw[addF_same hvf h0]
  have h4:=validP_iff.1 h1
  have h5:(7*p.2.2+p.1) % 7=p.1:=by omega
  have h6:(7*p.2.2+p.1) / 7=p.2.2:=by omega
  unfold addP
  rw[h0.1,h0.2]
  simp only[placeN,Int.add_zero,h5,h6,numF]
  obtain⟨s,al,o⟩:=p
  simp only[Prod.mk.injEq,true_and,and_true];omega
 · exact addF_yes hvf h0 h3
theorem addF_back {p q:Pit} {a b:Int} (h:addF p a b=(q,0)):addF q (-a) (-b)=(p,0):=by
 obtain⟨h1,h2,h3,rfl⟩:=addF_ok h
 have hf:formed (-a) (-b)=true:=by have:=formed_iff.1 h2;exact formed_iff.2 (by omega)
 have he:=addP_back (validP_iff.1 h1).1 a b
 rw[addF_of h3 hf (by rw[he];exact h1),he]
theorem fifth_all:∀ (s:Fin 7),-1≤7*natF s.val - 12*s.val∧7*natF s.val - 12*s.val≤5:=by decide
theorem fifth_bound {s:Int} (hs:0≤s∧s≤6):-1≤7*natF s - 12*s∧7*natF s - 12*s≤5:=by
 have:=fifth_all ⟨s.toNat,by omega⟩
 simp only[show((s.toNat:Nat):Int)=s by omega] at this
 exact this
theorem add_alter {p:Pit} {a b d:Int} (hs:0≤p.1∧p.1≤6) (hd:7*b - 12*a=d) (hdb:-14≤d∧d≤14):p.2.1 - 2≤(addP p a b).2.1∧(addP p a b).2.1≤p.2.1+2:=by
 have h1:=add_place p a b
 have h2:=add_num p a b
 have h3:=add_step p a b
 have h4:=fifth_bound hs
 have h5:=fifth_bound h3
 simp only[placeN,numF] at h1 h2
 omega
theorem add_oct {p:Pit} {a b:Int} (hs:0≤p.1∧p.1≤6) (ha:-28≤a∧a≤28):p.2.2 - 4≤(addP p a b).2.2∧(addP p a b).2.2≤p.2.2+4:=by
 have h1:=add_place p a b
 have h3:=add_step p a b
 simp only[placeN] at h1
 omega
end Go.Proofs.YtolmeekbjonbcaaGreatDoor
namespace Go.Proofs.YtolmeekbjonbcaaGreatDoor
open Go Go.SX Go.RowKit
variable [Drw]
open Int renaming reduceEq → E, reduceLT → F, reduceBEq → G, reduceBNe → H, reduceNeg → Z1, reduceGT → Z2, reduceLE → Z3, reduceGE → Z4, reduceMul → Z5, reduceMod → Z6, reduceAdd → Z7, reduceTMod → Z8, reduceTDiv → Z9
open Nat renaming reduceAdd → J, reduceSub → M, reduceMul → R, reduceLT → Tz, reduceLeDiff → V, reduceEqDiff → X
open List renaming reduceReplicate → Y
theorem r2in_spec (w:World) (n lo hi:Int):Gives Tryz.prog 110 #[iv n,iv lo,iv hi] w fun r _=>r=.bool (within lo hi n):=by
 refine gives_of [wv n,wv lo,wv hi] 15 [.tmp 6] Tryz.func110 rfl rfl rfl (by simp) rfl rfl ?_
 refine W.pure dn fun K1 k1=>?_
 simp only[E,F,J,M,R,Tz,V,X,Y,reduceIte,G,H,sz];refine k1 _ ?_
 refine W.join 6 (.val (.bool (decide (lo≤n) && decide (n≤hi)))) [] (W.region ?_) ?_
 ·
  refine WO.go 4 (ds:=D1_) rfl ?_
  simp only[E,F,J,M,R,Tz,V,X,Y,reduceIte,G,H,sz]
  refine WO.cases 10 _ rfl (fun hg10=>?_) fun hg10=>?_
  ·
   refine WO.go 5 (ds:=D1_) rfl ?_
   simp only[E,F,J,M,R,Tz,V,X,Y,reduceIte,G,H,sz]
   refine WO.nil ?_
   refine⟨rfl,?_,⟨_,rfl⟩,by simp[Own.bnd,bndL,bnd,boxO],by simp⟩
   try rw[hg10]
   simp[getE,bnd,keepE]
  ·
   refine WO.go 5 (ds:=D1_) rfl ?_
   simp only[E,F,J,M,R,Tz,V,X,Y,reduceIte,G,H,sz]
   refine WO.nil ?_
   refine⟨rfl,?_,⟨_,rfl⟩,by simp[Own.bnd,bndL,bnd,boxO],by simp⟩
   try rw[hg10]
   simp[getE,bnd,keepE]
 ·
  simp only[E,F,J,M,R,Tz,V,X,Y,reduceIte,sxk,G,H,sz]
  refine W.ret ⟨by simp,_,rfl,fun ρ w1 hb=>?_⟩
  rfl
theorem r13in_spec (w:World) (n lo hi:Int):Gives Tryz.prog 160 #[iv n,iv lo,iv hi] w fun r _=>r=.bool (within lo hi n):=by
 refine gives_of [wv n,wv lo,wv hi] 15 [.tmp 6] Tryz.func160 rfl rfl rfl (by simp) rfl rfl ?_
 refine W.pure dn fun K1 k1=>?_
 simp only[E,F,J,M,R,Tz,V,X,Y,reduceIte,G,H,sz];refine k1 _ ?_
 refine W.join 6 (.val (.bool (decide (lo≤n) && decide (n≤hi)))) [] (W.region ?_) ?_
 ·
  refine WO.go 4 (ds:=D1_) rfl ?_
  simp only[E,F,J,M,R,Tz,V,X,Y,reduceIte,G,H,sz]
  refine WO.cases 10 _ rfl (fun hg10=>?_) fun hg10=>?_
  ·
   refine WO.go 5 (ds:=D1_) rfl ?_
   simp only[E,F,J,M,R,Tz,V,X,Y,reduceIte,G,H,sz]
   refine WO.nil ?_
   refine⟨rfl,?_,⟨_,rfl⟩,by simp[Own.bnd,bndL,bnd,boxO],by simp⟩
   try rw[hg10]
   simp[getE,bnd,keepE]
  ·
   refine WO.go 5 (ds:=D1_) rfl ?_
   simp only[E,F,J,M,R,Tz,V,X,Y,reduceIte,G,H,sz]
   refine WO.nil ?_
   refine⟨rfl,?_,⟨_,rfl⟩,by simp[Own.bnd,bndL,bnd,boxO],by simp⟩
   try rw[hg10]
   simp[getE,bnd,keepE]
 ·
  simp only[E,F,J,M,R,Tz,V,X,Y,reduceIte,sxk,G,H,sz]
  refine W.ret ⟨by simp,_,rfl,fun ρ w1 hb=>?_⟩
  rfl
abbrev D7_:List (Option Nat):=[some 11,some 12,some 13,some 14,some 15,some 16,some 17,some 18,some 19,some 2]
theorem r2valid_spec (w:World) (p:Pit):Gives Tryz.prog 59 #[.agg #[iv p.1,iv p.2.1,iv p.2.2]] w fun r _=>r=.bool (validP p):=by
 refine gives_of [.agg [wv p.1,wv p.2.1,wv p.2.2]] 20 [.tmp 2] Tryz.func59 rfl rfl rfl (by simp) rfl rfl ?_
 refine W.pure dn fun K1 k1=>?_
 simp only[E,F,J,M,R,Tz,V,X,Y,reduceIte,G,H,sz];refine k1 _ ?_
 refine W.seqK fun K2 k2=>W.region ?_
 refine WO.go 2 dn ?_
 simp only[E,F,J,M,R,Tz,V,X,Y,reduceIte,G,H,sz]
 refine WO.call (.bool (within 0 6 p.1)) dn rfl rfl rfl co110 (fun ρ w1 hb=>r2in_spec w1 _ _ _) ?_
 refine WO.go 1 dn ?_
 simp only[E,F,J,M,R,Tz,V,X,Y,reduceIte,G,H,sz]
 refine WO.nil ?_
 refine k2 _ ?_
 refine W.seqK fun K3 k3=>W.region ?_
 refine WO.go 2 dn ?_
 simp only[E,F,J,M,R,Tz,V,X,Y,reduceIte,G,H,sz]
 refine WO.call (.bool (within (-4) 4 p.2.1)) dn rfl rfl rfl co110 (fun ρ w1 hb=>r2in_spec w1 _ _ _) ?_
 refine WO.go 1 dn ?_
 simp only[E,F,J,M,R,Tz,V,X,Y,reduceIte,G,H,sz]
 refine WO.nil ?_
 refine k3 _ ?_
 refine W.join 2 (.val (.bool (validP p))) [] (W.region ?_) ?_
 ·
  refine WO.go 2 (ds:=D7_) rfl ?_
  simp only[E,F,J,M,R,Tz,V,X,Y,reduceIte,G,H,sz]
  refine WO.cases 12 _ rfl (fun hg12=>?_) fun hg12=>?_
  ·
   refine WO.go 3 (ds:=D7_) rfl ?_
   simp only[E,F,J,M,R,Tz,V,X,Y,reduceIte,G,H,sz]
   refine WO.cases 15 _ rfl (fun hg15=>?_) fun hg15=>?_
   ·
    refine WO.go 2 (ds:=D7_) rfl ?_
    simp only[E,F,J,M,R,Tz,V,X,Y,reduceIte,G,H,sz]
    refine WO.call (.bool (within (-8) 20 p.2.2)) (ds:=D7_) rfl rfl rfl rfl co110 (fun ρ w1 hb=>r2in_spec w1 _ _ _) ?_
    refine WO.go 2 (ds:=D7_) rfl ?_
    simp only[E,F,J,M,R,Tz,V,X,Y,reduceIte,G,H,sz]
    refine WO.nil ?_
    refine⟨rfl,?_,⟨_,rfl⟩,by simp[Own.bnd,bndL,bnd,boxO],by simp⟩
    try rw[hg12]
    try rw[hg15]
    simp[getE,bnd,keepE]
    try simp_all [validP]
   ·
    refine WO.go 5 (ds:=D7_) rfl ?_
    simp only[E,F,J,M,R,Tz,V,X,Y,reduceIte,G,H,sz]
    refine WO.nil ?_
    refine⟨rfl,?_,⟨_,rfl⟩,by simp[Own.bnd,bndL,bnd,boxO],by simp⟩
    try rw[hg12]
    try rw[hg15]
    simp[getE,bnd,keepE]
    try simp_all [validP]
  ·
   refine WO.go 8 (ds:=D7_) rfl ?_
   simp only[E,F,J,M,R,Tz,V,X,Y,reduceIte,G,H,sz]
   refine WO.nil ?_
   refine⟨rfl,?_,⟨_,rfl⟩,by simp[Own.bnd,bndL,bnd,boxO],by simp⟩
   try rw[hg12]
   try rw[hg15]
   simp[getE,bnd,keepE]
   try simp_all [validP]
 ·
  simp only[E,F,J,M,R,Tz,V,X,Y,reduceIte,sxk,G,H,sz]
  refine W.ret ⟨by simp,_,rfl,fun ρ w1 hb=>?_⟩
  rfl
abbrev D8_:List (Option Nat):=[some 7,some 8,some 9,some 10,some 11,some 12,some 2]
theorem r2form_spec (w:World) (a b:Int):Gives Tryz.prog 200 #[.agg #[iv a,iv b]] w fun r _=>r=.bool (formed a b):=by
 refine gives_of [.agg [wv a,wv b]] 13 [.tmp 2] Tryz.func200 rfl rfl rfl (by simp) rfl rfl ?_
 refine W.pure dn fun K1 k1=>?_
 simp only[E,F,J,M,R,Tz,V,X,Y,reduceIte,G,H,sz];refine k1 _ ?_
 refine W.seqK fun K2 k2=>W.region ?_
 refine WO.go 2 dn ?_
 simp only[E,F,J,M,R,Tz,V,X,Y,reduceIte,G,H,sz]
 refine WO.call (.bool (within (-70) 70 a)) dn rfl rfl rfl co110 (fun ρ w1 hb=>r2in_spec w1 _ _ _) ?_
 refine WO.go 1 dn ?_
 simp only[E,F,J,M,R,Tz,V,X,Y,reduceIte,G,H,sz]
 refine WO.nil ?_
 refine k2 _ ?_
 refine W.join 2 (.val (.bool (formed a b))) [] (W.region ?_) ?_
 ·
  refine WO.go 2 (ds:=D8_) rfl ?_
  simp only[E,F,J,M,R,Tz,V,X,Y,reduceIte,G,H,sz]
  refine WO.cases 8 _ rfl (fun hg8=>?_) fun hg8=>?_
  ·
   refine WO.go 2 (ds:=D8_) rfl ?_
   simp only[E,F,J,M,R,Tz,V,X,Y,reduceIte,G,H,sz]
   refine WO.call (.bool (within (-120) 120 b)) (ds:=D8_) rfl rfl rfl rfl co110 (fun ρ w1 hb=>r2in_spec w1 _ _ _) ?_
   refine WO.go 2 (ds:=D8_) rfl ?_
   simp only[E,F,J,M,R,Tz,V,X,Y,reduceIte,G,H,sz]
   refine WO.nil ?_
   refine⟨rfl,?_,⟨_,rfl⟩,by simp[Own.bnd,bndL,bnd,boxO],by simp⟩
   try rw[hg8]
   simp[getE,bnd,keepE]
   try simp_all [formed]
  ·
   refine WO.go 5 (ds:=D8_) rfl ?_
   simp only[E,F,J,M,R,Tz,V,X,Y,reduceIte,G,H,sz]
   refine WO.nil ?_
   refine⟨rfl,?_,⟨_,rfl⟩,by simp[Own.bnd,bndL,bnd,boxO],by simp⟩
   try rw[hg8]
   simp[getE,bnd,keepE]
   try simp_all [formed]
 ·
  simp only[E,F,J,M,R,Tz,V,X,Y,reduceIte,sxk,G,H,sz]
  refine W.ret ⟨by simp,_,rfl,fun ρ w1 hb=>?_⟩
  rfl
theorem nat_low {s:Int} (h:0≤s∧s≤6) (h2:¬ 2<s):natF s=2*s:=by
 have:s=0∨s=1∨s=2:=by omega
 rcases this with rfl | rfl | rfl<;>rfl
theorem nat_high {s:Int} (h:0≤s∧s≤6) (h2:2<s):natF s=2*s - 1:=by
 have:s=3∨s=4∨s=5∨s=6:=by omega
 rcases this with rfl | rfl | rfl | rfl<;>rfl
theorem r2natural_spec (w:World) (s:Int) (h:0≤s∧s≤6):Gives Tryz.prog 111 #[iv s] w fun r _=>r=iv (natF s):=by
 refine gives_of [wv s] 11 [.tmp 2] Tryz.func111 rfl rfl rfl (by simp) rfl rfl ?_
 refine W.pure dn fun K1 k1=>?_
 simp only[E,F,J,M,R,Tz,V,X,Y,reduceIte,G,H,sz];refine k1 _ ?_
 refine W.pure dn fun K2 k2=>?_
 simp only[E,F,J,M,R,Tz,V,X,Y,reduceIte,G,H,sz];refine k2 _ ?_
 refine W.seqK fun K3 k3=>?_
 refine W.pure dn fun K4 k4=>?_
 simp only[E,F,J,M,R,Tz,V,X,Y,reduceIte,G,H,sz];refine k4 _ ?_
 refine W.cond rfl rfl (fun hc=>?_) fun hc=>?_
 ·
  have h2:2<s:=by simpa using hc
  refine W.region ?_
  refine WO.go 3 dn ?_
  simp only[E,F,J,M,R,Tz,V,X,Y,reduceIte,G,H,sz]
  refine WO.nil ?_
  refine k3 _ ?_
  refine W.pure dn fun K5 k5=>?_
  simp only[E,F,J,M,R,Tz,V,X,Y,reduceIte,G,H,sz];refine k5 _ ?_
  refine W.ret ⟨by simp,_,rfl,fun ρ w1 hb=>?_⟩
  simp only[den,wrap_id (x:=2*s) (by omega) (by omega),wrap_id (x:=2*s - 1) (by omega) (by omega),nat_high h h2]
 ·
  have h2:¬ 2<s:=by simpa using hc
  refine W.skip (k3 _ ?_)
  refine W.pure dn fun K6 k6=>?_
  simp only[E,F,J,M,R,Tz,V,X,Y,reduceIte,G,H,sz];refine k6 _ ?_
  refine W.ret ⟨by simp,_,rfl,fun ρ w1 hb=>?_⟩
  simp only[den,wrap_id (x:=2*s) (by omega) (by omega),nat_low h h2]
theorem r2sound_spec (w:World) (p:Pit) (h:0≤p.1∧p.1≤6) (h2:-1000≤p.2.1∧p.2.1≤1000∧-1000≤p.2.2∧p.2.2≤1000):Gives Tryz.prog 60 #[.agg #[iv p.1,iv p.2.1,iv p.2.2]] w fun r _=>r=iv (numF p):=by
 have hnb:=nat_bound h
 refine gives_of [.agg [wv p.1,wv p.2.1,wv p.2.2]] 13 [.tmp 2] Tryz.func60 rfl rfl rfl (by simp) rfl rfl ?_
 refine W.pure dn fun K1 k1=>?_
 simp only[E,F,J,M,R,Tz,V,X,Y,reduceIte,G,H,sz];refine k1 _ ?_
 refine W.seqK fun K2 k2=>?_
 refine W.regionQ mixed (by kernel_rfl) ?_
 refine WQ.go 5 dn ?_
 simp only[E,F,J,M,R,Tz,V,X,Y,reduceIte,sxq,G,H,sz]
 refine WQ.call (iv (natF p.1)) dn rfl rfl rfl co111 (fun ρ w1 hb=>r2natural_spec w1 _ h) ?_
 refine WQ.go 5 dn ?_
 simp only[E,F,J,M,R,Tz,V,X,Y,reduceIte,sxq,G,H,sz]
 refine WQ.nil ?_
 refine k2 _ ?_
 refine W.ret ⟨by simp,_,rfl,fun ρ w1 hb=>?_⟩
 simp only[den,numF,wrap_id (x:=12*p.2.2) (by omega) (by omega),wrap_id (x:=12*p.2.2+natF p.1) (by omega) (by omega),wrap_id (x:=12*p.2.2+natF p.1+p.2.1) (by omega) (by omega)]
theorem r2back_spec (w:World) (a b:Int):Gives Tryz.prog 161 #[.agg #[iv a,iv b]] w fun r _=>r=.tuple #[.agg #[iv (backF a b).1,iv (backF a b).2.1],iv (backF a b).2.2]:=by
 refine gives_of [.agg [wv a,wv b]] 17 [.cell 2 46,.tmp 3] Tryz.func161 rfl rfl rfl (by simp) rfl rfl ?_
 refine W.pure dn fun K1 k1=>?_
 simp only[E,F,J,M,R,Tz,V,X,Y,reduceIte,G,H,sz];refine k1 _ ?_
 refine W.seqK fun K2 k2=>W.region ?_
 refine WO.go 1 dn ?_
 simp only[E,F,J,M,R,Tz,V,X,Y,reduceIte,G,H,sz]
 refine WO.call (.bool (formed a b)) dn rfl rfl rfl co200 (fun ρ w1 hb=>r2form_spec w1 _ _) ?_
 refine WO.go 1 dn ?_
 simp only[E,F,J,M,R,Tz,V,X,Y,reduceIte,G,H,sz]
 refine WO.nil ?_
 refine k2 _ ?_
 refine W.seqK fun K3 k3=>?_
 refine W.pure dn fun K4 k4=>?_
 simp only[E,F,J,M,R,Tz,V,X,Y,reduceIte,G,H,sz];refine k4 _ ?_
 refine W.cond rfl rfl (fun hc=>?_) fun hc=>?_
 ·
  have hf:formed a b=false:=by simpa using hc
  refine W.pure dn fun K5 k5=>?_
  simp only[E,F,J,M,R,Tz,V,X,Y,reduceIte,G,H,sz];refine k5 _ ?_
  refine W.ret ?_
  refine⟨by simp,RunR.ex ?_⟩
  simp only[E,F,J,M,R,Tz,V,X,Y,reduceIte,sxr,G,H,sz]
  intro ρ w1 hb
  rw[backF_no hf];rfl
 ·
  have hf:formed a b=true:=by simpa using hc
  have hfb:=formed_iff.1 hf
  refine W.skip (k3 _ ?_)
  refine W.pure dn fun K6 k6=>?_
  simp only[E,F,J,M,R,Tz,V,X,Y,reduceIte,G,H,sz];refine k6 _ ?_
  refine W.ret ?_
  refine⟨by simp,RunR.ex ?_⟩
  simp only[E,F,J,M,R,Tz,V,X,Y,reduceIte,sxr,G,H,sz]
  intro ρ w1 hb
  rw[backF_yes hf,wrap_id (x:=0 - a) (by omega) (by omega),wrap_id (x:=0 - b) (by omega) (by omega)];simp[den,denL]
abbrev D9_:List (Option Nat):=[some 5,some 6,some 7,some 8,some 9,some 10,some 11,some 12,some 13,some 4]
theorem iwithin_spec (w:World) (n far:Int) (hf:0≤far∧far≤1000):Gives Tryz.prog 222 #[iv n,iv far] w fun r _=>r=.bool (within (-far) far n):=by
 have hw:=wrap_id (x:=0 - far) (by omega) (by omega)
 refine gives_of [wv n,wv far] 14 [.tmp 4] Tryz.func222 rfl rfl rfl (by simp) rfl rfl ?_
 refine W.pure dn fun K1 k1=>?_
 simp only[E,F,J,M,R,Tz,V,X,Y,reduceIte,G,H,Int.zero_sub,sz];refine k1 _ ?_
 refine W.join 4 (.val (.bool (within (-far) far n))) [] (W.region ?_) ?_
 ·
  refine WO.go 5 (ds:=D9_) rfl ?_
  simp only[E,F,J,M,R,Tz,V,X,Y,reduceIte,G,H,Int.zero_sub,sz]
  refine WO.cases 9 _ rfl (fun hg9=>?_) fun hg9=>?_
  ·
   refine WO.go 5 (ds:=D9_) rfl ?_
   simp only[E,F,J,M,R,Tz,V,X,Y,reduceIte,G,H,Int.zero_sub,sz]
   refine WO.nil ?_
   refine⟨rfl,?_,⟨_,rfl⟩,by simp[Own.bnd,bndL,bnd,boxO],by simp⟩
   try rw[hg9]
   simp[getE,bnd,keepE]
   try simp_all [within]
   try omega
  ·
   refine WO.go 5 (ds:=D9_) rfl ?_
   simp only[E,F,J,M,R,Tz,V,X,Y,reduceIte,G,H,Int.zero_sub,sz]
   refine WO.nil ?_
   refine⟨rfl,?_,⟨_,rfl⟩,by simp[Own.bnd,bndL,bnd,boxO],by simp⟩
   try rw[hg9]
   simp[getE,bnd,keepE]
   try simp_all [within]
   try omega
 ·
  simp only[E,F,J,M,R,Tz,V,X,Y,reduceIte,sxk,G,H,Int.zero_sub,sz]
  refine W.ret ⟨by simp,_,rfl,fun ρ w1 hb=>?_⟩
  rfl
theorem Number_spec {w:World} (hN:GN w) (p:Pit):Gives Tryz.prog 114 #[.agg #[iv p.1,iv p.2.1,iv p.2.2]] w fun r _=>r=.tuple #[iv (numG p),iv (if validP p=true then 0 else 1)]:=by
 refine gives_of [.agg [wv p.1,wv p.2.1,wv p.2.2]] 9 [.tmp 2,.tmp 3] Tryz.func114 rfl rfl rfl (by simp) rfl rfl ?_
 refine W.pure dn fun K1 k1=>?_
 simp only[E,F,J,M,R,Tz,V,X,Y,reduceIte,G,H,sz];refine k1 _ ?_
 refine W.seqK fun K2 k2=>?_
 refine W.seqK fun K3 k3=>W.region ?_
 refine WO.go 1 dn ?_
 simp only[E,F,J,M,R,Tz,V,X,Y,reduceIte,G,H,sz]
 refine WO.call (.bool (validP p)) dn rfl rfl rfl co119 (fun ρ w1 hb=>valid_spec w1 p) ?_
 refine WO.go 1 dn ?_
 simp only[E,F,J,M,R,Tz,V,X,Y,reduceIte,G,H,sz]
 refine WO.nil ?_
 refine k3 _ ?_
 refine W.cond rfl rfl (fun hc=>?_) fun hc=>?_
 ·
  have hv:validP p=false:=by simpa using hc
  refine W.pure dn fun K4 k4=>?_
  simp only[E,F,J,M,R,Tz,V,X,Y,reduceIte,G,H,sz];refine k4 _ ?_
  refine W.ret ⟨by simp,_,rfl,fun ρ w1 hb=>?_⟩
  simp[den,denL,numG,hv]
 ·
  have hv:validP p=true:=by simpa using hc
  have hvb:=validP_iff.1 hv
  refine W.skip (k2 _ ?_)
  refine W.seqK fun K5 k5=>W.region ?_
  refine WO.go 1 dn ?_
  simp only[E,F,J,M,R,Tz,V,X,Y,reduceIte,G,H,sz]
  refine WO.call (iv (numF p)) dn rfl rfl rfl co165 (fun ρ w1 hb=>number_spec (hN.now (hb.first (by simp))) p hvb.1 (by omega)) ?_
  refine WO.go 2 dn ?_
  simp only[E,F,J,M,R,Tz,V,X,Y,reduceIte,G,H,sz]
  refine WO.nil ?_
  refine k5 _ ?_
  refine W.ret ⟨by simp,_,rfl,fun ρ w1 hb=>?_⟩
  simp[den,denL,numG,hv]
theorem isound_spec {w:World} (hN:GN w) (p:Pit):Gives Tryz.prog 206 #[.agg #[iv p.1,iv p.2.1,iv p.2.2]] w fun r _=>r=iv (numG p):=by
 refine gives_of [.agg [wv p.1,wv p.2.1,wv p.2.2]] 11 [.tmp 2] Tryz.func206 rfl rfl rfl (by simp) rfl rfl ?_
 refine W.pure dn fun K1 k1=>?_
 simp only[E,F,J,M,R,Tz,V,X,Y,reduceIte,G,H,sz];refine k1 _ ?_
 refine W.seqK fun K2 k2=>W.region ?_
 refine WO.go 1 dn ?_
 simp only[E,F,J,M,R,Tz,V,X,Y,reduceIte,G,H,sz]
 refine WO.call (.tuple #[iv (numG p),iv (if validP p=true then 0 else 1)]) dn rfl rfl rfl co114 (fun ρ w1 hb=>Number_spec (hN.now (hb.first (by simp))) p) ?_
 refine WO.go 5 dn ?_
 simp only[E,F,J,M,R,Tz,V,X,Y,reduceIte,G,H,sz]
 refine WO.nil ?_
 refine k2 _ ?_
 refine W.pure dn fun K3 k3=>?_
 simp only[E,F,J,M,R,Tz,V,X,Y,reduceIte,G,H,sz];refine k3 _ ?_
 refine W.ret ⟨by simp,_,rfl,fun ρ w1 hb=>?_⟩
 rfl
theorem fifths_ok (a b:Int):((fifthsF a b).2 == 0)=formed a b:=by
 cases h:formed a b with
 | true=>rw[fifthsF_yes h];rfl
 | false=>rw[fifthsF_no h];rfl
theorem numG_yes {p:Pit} (h:validP p=true):numG p=numF p:=if_pos h
theorem writtenF_eq (a b:Int) (lo hi:Pit):writtenF a b lo hi=((formed a b && (within (-21) 21 a && (within (-36) 36 b && within (-12) 12 (7*b - 12*a)))) && (validP lo && (validP hi && decide (numG lo≤numG hi)))):=by
 unfold writtenF
 cases h1:validP lo with
 | false=>simp
 |
  true=>cases h2:validP hi with
  | false=>simp
  | true=>rw[numG_yes h1,numG_yes h2]
abbrev D10_:List (Option Nat):=[some 12,some 13,some 14,some 15,some 16,some 17,some 18,some 19,some 20,some 21,some 22,some 23,some 24,some 25,some 26,some 27,some 28,some 29,some 5]
abbrev D11_:List (Option Nat):=[some 30,some 31,some 32,some 33,some 34,some 35,some 36,some 37,some 38,some 39,some 40,some 41,some 42,some 43,some 44,some 45,some 46,some 47,some 48,some 49,some 2]
theorem written_spec {w:World} (hN:GN w) (q:Int×Int×Int×Int×Int) (a b:Int) (lo hi:Pit):Gives Tryz.prog 201 #[.agg #[iv q.1,iv q.2.1,iv q.2.2.1,iv q.2.2.2.1,iv q.2.2.2.2,iv a,iv b,iv lo.1,iv lo.2.1,iv lo.2.2,iv hi.1,iv hi.2.1,iv hi.2.2]] w fun r _=>r=.bool (writtenF a b lo hi):=by
 refine gives_of [.agg [wv q.1,wv q.2.1,wv q.2.2.1,wv q.2.2.2.1,wv q.2.2.2.2,wv a,wv b,wv lo.1,wv lo.2.1,wv lo.2.2,wv hi.1,wv hi.2.1,wv hi.2.2]] 50 [.tmp 2] Tryz.func201 rfl rfl rfl (by simp) rfl rfl ?_
 refine W.pure dn fun K1 k1=>?_
 simp only[E,F,J,M,R,Tz,V,X,Y,reduceIte,G,H,sz];refine k1 _ ?_
 refine W.seqK fun K2 k2=>W.region ?_
 refine WO.go 2 dn ?_
 simp only[E,F,J,M,R,Tz,V,X,Y,reduceIte,G,H,sz]
 refine WO.call (.tuple #[iv (fifthsF a b).1,iv (fifthsF a b).2]) dn rfl rfl rfl co213 (fun ρ w1 hb=>fifths_spec w1 a b) ?_
 refine WO.go 5 dn ?_
 simp only[E,F,J,M,R,Tz,V,X,Y,reduceIte,G,H,sz]
 refine WO.nil ?_
 refine k2 _ ?_
 refine W.join 5 (.val (.bool (formed a b && (within (-21) 21 a && (within (-36) 36 b && within (-12) 12 (7*b - 12*a)))))) [1] (W.region ?_) ?_
 ·
  refine WO.go 3 (ds:=D10_) rfl ?_
  simp only[E,F,J,M,R,Tz,V,X,Y,reduceIte,G,H,sz]
  refine WO.cases 14 _ rfl (fun hg14=>?_) fun hg14=>?_
  ·
   refine WO.go 3 (ds:=D10_) rfl ?_
   simp only[E,F,J,M,R,Tz,V,X,Y,reduceIte,G,H,sz]
   refine WO.call (.bool (within (-21) 21 a)) (ds:=D10_) rfl rfl rfl rfl co222 (fun ρ w1 hb=>iwithin_spec w1 _ _ (by omega)) ?_
   refine WO.go 2 (ds:=D10_) rfl ?_
   simp only[E,F,J,M,R,Tz,V,X,Y,reduceIte,G,H,sz]
   refine WO.cases 20 _ rfl (fun hg20=>?_) fun hg20=>?_
   ·
    refine WO.go 3 (ds:=D10_) rfl ?_
    simp only[E,F,J,M,R,Tz,V,X,Y,reduceIte,G,H,sz]
    refine WO.call (.bool (within (-36) 36 b)) (ds:=D10_) rfl rfl rfl rfl co222 (fun ρ w1 hb=>iwithin_spec w1 _ _ (by omega)) ?_
    refine WO.go 2 (ds:=D10_) rfl ?_
    simp only[E,F,J,M,R,Tz,V,X,Y,reduceIte,G,H,sz]
    refine WO.cases 26 _ rfl (fun hg26=>?_) fun hg26=>?_
    ·
     rw[fifths_ok] at hg14
     simp only[fifthsF_yes hg14]
     refine WO.go 1 (ds:=D10_) rfl ?_
     simp only[E,F,J,M,R,Tz,V,X,Y,reduceIte,G,H,sz]
     refine WO.call (.bool (within (-12) 12 (7*b - 12*a))) (ds:=D10_) rfl rfl rfl rfl co222 (fun ρ w1 hb=>iwithin_spec w1 _ _ (by omega)) ?_
     refine WO.go 2 (ds:=D10_) rfl ?_
     simp only[E,F,J,M,R,Tz,V,X,Y,reduceIte,G,H,sz]
     refine WO.nil ?_
     refine⟨rfl,?_,⟨_,rfl⟩,by simp[Own.bnd,bndL,bnd,boxO],by simp⟩
     try simp only[fifths_ok] at hg14
     try rw[hg20]
     try rw[hg26]
     try rw[hg14]
     simp[getE,bnd,keepE]
     try simp_all
    ·
     refine WO.go 4 (ds:=D10_) rfl ?_
     simp only[E,F,J,M,R,Tz,V,X,Y,reduceIte,G,H,sz]
     refine WO.nil ?_
     refine⟨rfl,?_,⟨_,rfl⟩,by simp[Own.bnd,bndL,bnd,boxO],by simp⟩
     try simp only[fifths_ok] at hg14
     try rw[hg20]
     try rw[hg26]
     try rw[hg14]
     simp[getE,bnd,keepE]
     try simp_all
   ·
    refine WO.go 10 (ds:=D10_) rfl ?_
    simp only[E,F,J,M,R,Tz,V,X,Y,reduceIte,G,H,sz]
    refine WO.nil ?_
    refine⟨rfl,?_,⟨_,rfl⟩,by simp[Own.bnd,bndL,bnd,boxO],by simp⟩
    try simp only[fifths_ok] at hg14
    try rw[hg20]
    try rw[hg26]
    try rw[hg14]
    simp[getE,bnd,keepE]
    try simp_all
  ·
   refine WO.go 16 (ds:=D10_) rfl ?_
   simp only[E,F,J,M,R,Tz,V,X,Y,reduceIte,G,H,sz]
   refine WO.nil ?_
   refine⟨rfl,?_,⟨_,rfl⟩,by simp[Own.bnd,bndL,bnd,boxO],by simp⟩
   try simp only[fifths_ok] at hg14
   try rw[hg20]
   try rw[hg26]
   try rw[hg14]
   simp[getE,bnd,keepE]
   try simp_all
 ·
  simp only[E,F,J,M,R,Tz,V,X,Y,reduceIte,sxk,G,H,sz]
  refine W.join 2 (.val (.bool (writtenF a b lo hi))) [] (W.regionQ mixed (by kernel_rfl) ?_) ?_
  ·
   refine WQ.go 2 (ds:=D11_) rfl ?_
   simp only[E,F,J,M,R,Tz,V,X,Y,reduceIte,sxq,G,H,sz]
   refine WQ.cases 31 _ rfl (fun hg31=>?_) fun hg31=>?_
   ·
    refine WQ.go 2 (ds:=D11_) rfl ?_
    simp only[E,F,J,M,R,Tz,V,X,Y,reduceIte,sxq,G,H,sz]
    refine WQ.call (.bool (validP lo)) (ds:=D11_) rfl rfl rfl rfl co119 (fun ρ w1 hb=>valid_spec w1 lo) ?_
    refine WQ.go 2 (ds:=D11_) rfl ?_
    simp only[E,F,J,M,R,Tz,V,X,Y,reduceIte,sxq,G,H,sz]
    refine WQ.cases 36 _ rfl (fun hg36=>?_) fun hg36=>?_
    ·
     refine WQ.go 2 (ds:=D11_) rfl ?_
     simp only[E,F,J,M,R,Tz,V,X,Y,reduceIte,sxq,G,H,sz]
     refine WQ.call (.bool (validP hi)) (ds:=D11_) rfl rfl rfl rfl co119 (fun ρ w1 hb=>valid_spec w1 hi) ?_
     refine WQ.go 2 (ds:=D11_) rfl ?_
     simp only[E,F,J,M,R,Tz,V,X,Y,reduceIte,sxq,G,H,sz]
     refine WQ.cases 41 _ rfl (fun hg41=>?_) fun hg41=>?_
     ·
      refine WQ.go 2 (ds:=D11_) rfl ?_
      simp only[E,F,J,M,R,Tz,V,X,Y,reduceIte,sxq,G,H,sz]
      refine WQ.call (iv (numG lo)) (ds:=D11_) rfl rfl rfl rfl co206 (fun ρ w1 hb=>isound_spec (hN.now (hb.first (by simp))) lo) ?_
      refine WQ.go 2 (ds:=D11_) rfl ?_
      simp only[E,F,J,M,R,Tz,V,X,Y,reduceIte,sxq,G,H,sz]
      refine WQ.call (iv (numG hi)) (ds:=D11_) rfl rfl rfl rfl co206 (fun ρ w1 hb=>isound_spec (hN.now (hb.first (by simp))) hi) ?_
      refine WQ.go 3 (ds:=D11_) rfl ?_
      simp only[E,F,J,M,R,Tz,V,X,Y,reduceIte,sxq,G,H,sz]
      refine WQ.nil ?_
      refine⟨rfl,?_,⟨_,rfl⟩,by simp[Own.bnd,bndL,bnd,boxO],by simp⟩
      rw[writtenF_eq]
      try rw[hg31]
      try rw[hg36]
      try rw[hg41]
      simp[getE,bnd,keepE]
      try simp_all
     ·
      refine WQ.go 9 (ds:=D11_) rfl ?_
      simp only[E,F,J,M,R,Tz,V,X,Y,reduceIte,sxq,G,H,sz]
      refine WQ.nil ?_
      refine⟨rfl,?_,⟨_,rfl⟩,by simp[Own.bnd,bndL,bnd,boxO],by simp⟩
      rw[writtenF_eq]
      try rw[hg31]
      try rw[hg36]
      try rw[hg41]
      simp[getE,bnd,keepE]
      try simp_all
    ·
     refine WQ.go 14 (ds:=D11_) rfl ?_
     simp only[E,F,J,M,R,Tz,V,X,Y,reduceIte,sxq,G,H,sz]
     refine WQ.nil ?_
     refine⟨rfl,?_,⟨_,rfl⟩,by simp[Own.bnd,bndL,bnd,boxO],by simp⟩
     rw[writtenF_eq]
     try rw[hg31]
     try rw[hg36]
     try rw[hg41]
     simp[getE,bnd,keepE]
     try simp_all
   ·
    refine WQ.go 19 (ds:=D11_) rfl ?_
    simp only[E,F,J,M,R,Tz,V,X,Y,reduceIte,sxq,G,H,sz]
    refine WQ.nil ?_
    refine⟨rfl,?_,⟨_,rfl⟩,by simp[Own.bnd,bndL,bnd,boxO],by simp⟩
    rw[writtenF_eq]
    try rw[hg31]
    try rw[hg36]
    try rw[hg41]
    simp[getE,bnd,keepE]
    try simp_all
  ·
   simp only[E,F,J,M,R,Tz,V,X,Y,reduceIte,sxk,G,H,sz]
   refine W.ret ⟨by simp,_,rfl,fun ρ w1 hb=>?_⟩
   rfl
theorem part_eq (a b:Int) (lo hi:Pit):writtenF a b lo hi=((validP lo && (validP hi && (within (-21) 21 a && (within (-36) 36 b && within (-12) 12 (IntKind.i64.wrap (IntKind.i64.wrap (7*b) - IntKind.i64.wrap (12*a))))))) && decide (numF lo≤numF hi)):=by
 unfold writtenF
 cases h1:within (-21) 21 a with
 | false=>simp
 |
  true=>
  cases h2:within (-36) 36 b with
  | false=>simp
  |
   true=>
   rw[within_iff] at h1 h2
   rw[wrap_id (x:=7*b) (by omega) (by omega),wrap_id (x:=12*a) (by omega) (by omega),wrap_id (x:=7*b - 12*a) (by omega) (by omega),formed_iff.2 (by omega)]
   cases validP lo<;>cases validP hi<;>simp
abbrev D12_:List (Option Nat):=[some 21,some 22,some 23,some 24,some 25,some 26,some 27,some 28,some 29,some 30,some 31,some 32,some 33,some 34,some 35,some 36,some 37,some 38,some 39,some 40,some 41,some 42,some 43,some 44,some 45]
theorem rpart_spec (w:World) (q:Int×Int×Int×Int×Int) (a b:Int) (lo hi:Pit):Gives Tryz.prog 106 #[.agg #[iv q.1,iv q.2.1,iv q.2.2.1,iv q.2.2.2.1,iv q.2.2.2.2,iv a,iv b,iv lo.1,iv lo.2.1,iv lo.2.2,iv hi.1,iv hi.2.1,iv hi.2.2]] w fun r _=>r=.bool (writtenF a b lo hi):=by
 refine gives_of [.agg [wv q.1,wv q.2.1,wv q.2.2.1,wv q.2.2.2.1,wv q.2.2.2.2,wv a,wv b,wv lo.1,wv lo.2.1,wv lo.2.2,wv hi.1,wv hi.2.1,wv hi.2.2]] 53 [.tmp 2] Tryz.func106 rfl rfl rfl (by simp) rfl rfl ?_
 refine W.pure dn fun K1 k1=>?_
 simp only[E,F,J,M,R,Tz,V,X,Y,reduceIte,G,H,sz];refine k1 _ ?_
 refine W.seqK fun K2 k2=>W.region ?_
 refine WO.go 2 dn ?_
 simp only[E,F,J,M,R,Tz,V,X,Y,reduceIte,G,H,sz]
 refine WO.call (.bool (validP lo)) dn rfl rfl rfl co59 (fun ρ w1 hb=>r2valid_spec w1 lo) ?_
 refine WO.go 1 dn ?_
 simp only[E,F,J,M,R,Tz,V,X,Y,reduceIte,G,H,sz]
 refine WO.nil ?_
 refine k2 _ ?_
 refine W.seqK fun K3 k3=>W.region ?_
 refine WO.go 2 dn ?_
 simp only[E,F,J,M,R,Tz,V,X,Y,reduceIte,G,H,sz]
 refine WO.call (.bool (validP hi)) dn rfl rfl rfl co59 (fun ρ w1 hb=>r2valid_spec w1 hi) ?_
 refine WO.go 1 dn ?_
 simp only[E,F,J,M,R,Tz,V,X,Y,reduceIte,G,H,sz]
 refine WO.nil ?_
 refine k3 _ ?_
 refine W.pure dn fun K4 k4=>?_
 simp only[E,F,J,M,R,Tz,V,X,Y,reduceIte,G,H,sz];refine k4 _ ?_
 refine W.seqK fun K5 k5=>?_
 refine W.join 45 (.val (.bool (!(validP lo && (validP hi && (within (-21) 21 a && (within (-36) 36 b && within (-12) 12 (IntKind.i64.wrap (IntKind.i64.wrap (7*b) - IntKind.i64.wrap (12*a)))))))))) [1] (W.region ?_) ?_
 ·
  refine WO.go 3 (ds:=D12_) rfl ?_
  simp only[E,F,J,M,R,Tz,V,X,Y,reduceIte,G,H,sz]
  refine WO.cases 23 _ rfl (fun hg23=>?_) fun hg23=>?_
  ·
   refine WO.go 22 (ds:=D12_) rfl ?_
   simp only[E,F,J,M,R,Tz,V,X,Y,reduceIte,G,H,sz]
   refine WO.nil ?_
   refine⟨rfl,?_,⟨_,rfl⟩,by simp[Own.bnd,bndL,bnd,boxO],by simp⟩
   try rw[hg23]
   try rw[hg27]
   try rw[hg34]
   try rw[hg41]
   simp[getE,bnd,keepE]
   try simp_all
  ·
   refine WO.go 4 (ds:=D12_) rfl ?_
   simp only[E,F,J,M,R,Tz,V,X,Y,reduceIte,G,H,sz]
   refine WO.cases 27 _ rfl (fun hg27=>?_) fun hg27=>?_
   ·
    refine WO.go 18 (ds:=D12_) rfl ?_
    simp only[E,F,J,M,R,Tz,V,X,Y,reduceIte,G,H,sz]
    refine WO.nil ?_
    refine⟨rfl,?_,⟨_,rfl⟩,by simp[Own.bnd,bndL,bnd,boxO],by simp⟩
    try rw[hg23]
    try rw[hg27]
    try rw[hg34]
    try rw[hg41]
    simp[getE,bnd,keepE]
    try simp_all
   ·
    refine WO.go 3 (ds:=D12_) rfl ?_
    simp only[E,F,J,M,R,Tz,V,X,Y,reduceIte,G,H,sz]
    refine WO.call (.bool (within (-21) 21 a)) (ds:=D12_) rfl rfl rfl rfl co160 (fun ρ w1 hb=>r13in_spec w1 _ _ _) ?_
    refine WO.go 3 (ds:=D12_) rfl ?_
    simp only[E,F,J,M,R,Tz,V,X,Y,reduceIte,G,H,sz]
    refine WO.cases 34 _ rfl (fun hg34=>?_) fun hg34=>?_
    ·
     refine WO.go 11 (ds:=D12_) rfl ?_
     simp only[E,F,J,M,R,Tz,V,X,Y,reduceIte,G,H,sz]
     refine WO.nil ?_
     refine⟨rfl,?_,⟨_,rfl⟩,by simp[Own.bnd,bndL,bnd,boxO],by simp⟩
     try rw[hg23]
     try rw[hg27]
     try rw[hg34]
     try rw[hg41]
     simp[getE,bnd,keepE]
     try simp_all
    ·
     refine WO.go 3 (ds:=D12_) rfl ?_
     simp only[E,F,J,M,R,Tz,V,X,Y,reduceIte,G,H,sz]
     refine WO.call (.bool (within (-36) 36 b)) (ds:=D12_) rfl rfl rfl rfl co160 (fun ρ w1 hb=>r13in_spec w1 _ _ _) ?_
     refine WO.go 3 (ds:=D12_) rfl ?_
     simp only[E,F,J,M,R,Tz,V,X,Y,reduceIte,G,H,sz]
     refine WO.cases 41 _ rfl (fun hg41=>?_) fun hg41=>?_
     ·
      refine WO.go 4 (ds:=D12_) rfl ?_
      simp only[E,F,J,M,R,Tz,V,X,Y,reduceIte,G,H,sz]
      refine WO.nil ?_
      refine⟨rfl,?_,⟨_,rfl⟩,by simp[Own.bnd,bndL,bnd,boxO],by simp⟩
      try rw[hg23]
      try rw[hg27]
      try rw[hg34]
      try rw[hg41]
      simp[getE,bnd,keepE]
      try simp_all
     ·
      refine WO.go 1 (ds:=D12_) rfl ?_
      simp only[E,F,J,M,R,Tz,V,X,Y,reduceIte,G,H,sz]
      refine WO.call (.bool (within (-12) 12 (IntKind.i64.wrap (IntKind.i64.wrap (7*b) - IntKind.i64.wrap (12*a))))) (ds:=D12_) rfl rfl rfl rfl co160 (fun ρ w1 hb=>r13in_spec w1 _ _ _) ?_
      refine WO.go 2 (ds:=D12_) rfl ?_
      simp only[E,F,J,M,R,Tz,V,X,Y,reduceIte,G,H,sz]
      refine WO.nil ?_
      refine⟨rfl,?_,⟨_,rfl⟩,by simp[Own.bnd,bndL,bnd,boxO],by simp⟩
      try rw[hg23]
      try rw[hg27]
      try rw[hg34]
      try rw[hg41]
      simp[getE,bnd,keepE]
      try simp_all
 ·
  simp only[E,F,J,M,R,Tz,V,X,Y,reduceIte,sxk,G,H,sz]
  refine W.cond rfl rfl (fun hc=>?_) fun hc=>?_
  ·
   have hp:(validP lo && (validP hi && (within (-21) 21 a && (within (-36) 36 b && within (-12) 12 (IntKind.i64.wrap (IntKind.i64.wrap (7*b) - IntKind.i64.wrap (12*a)))))))=false:=by simpa only [Bool.not_eq_true'] using hc
   refine W.pure dn fun K7 k7=>?_
   simp only[E,F,J,M,R,Tz,V,X,Y,reduceIte,G,H,sz];refine k7 _ ?_
   refine W.ret ⟨by simp,_,rfl,fun ρ w1 hb=>?_⟩
   rw[part_eq,hp];rfl
  ·
   have hp:(validP lo && (validP hi && (within (-21) 21 a && (within (-36) 36 b && within (-12) 12 (IntKind.i64.wrap (IntKind.i64.wrap (7*b) - IntKind.i64.wrap (12*a)))))))=true:=by simpa only [Bool.not_eq_false'] using hc
   have hp2:=hp
   simp only[Bool.and_eq_true] at hp2
   have hv1:=validP_iff.1 hp2.1
   have hv2:=validP_iff.1 hp2.2.1
   refine W.skip (k5 _ ?_)
   refine W.seqK fun K8 k8=>?_
   refine W.regionQ mixed (by kernel_rfl) ?_
   refine WQ.go 2 dn ?_
   simp only[E,F,J,M,R,Tz,V,X,Y,reduceIte,sxq,G,H,sz]
   refine WQ.call (iv (numF lo)) dn rfl rfl rfl co60 (fun ρ w1 hb=>r2sound_spec w1 lo hv1.1 (by omega)) ?_
   refine WQ.go 2 dn ?_
   simp only[E,F,J,M,R,Tz,V,X,Y,reduceIte,sxq,G,H,sz]
   refine WQ.call (iv (numF hi)) dn rfl rfl rfl co60 (fun ρ w1 hb=>r2sound_spec w1 hi hv2.1 (by omega)) ?_
   refine WQ.go 2 dn ?_
   simp only[E,F,J,M,R,Tz,V,X,Y,reduceIte,sxq,G,H,sz]
   refine WQ.nil ?_
   refine k8 _ ?_
   refine W.ret ⟨by simp,_,rfl,fun ρ w1 hb=>?_⟩
   rw[part_eq,hp];rfl
theorem GN.on {w w1:World} {S:Nat→Prop} (h:GN w) (hk:Keep S w w1) (hS:S 0):GN w1:=⟨h.1.frame (hk.block _ hS h.2),Nat.lt_of_lt_of_le h.2 hk.size⟩
theorem GivesB.mono {P:Program} {f:FuncId} {args:Array Value} {w:World} {C:Nat→Prop} {Q Q':Value→World→Prop} (h:GivesB P f args w C Q) (hq:∀ v w',Q v w'→Q' v w'):GivesB P f args w C Q':=
 Calls.mono h fun _ _ ⟨v,he,hb,hq'⟩=>⟨v,he,hb,hq v _ hq'⟩
theorem keyCl_spec {w:World} {b9:Nat} {o1:Int} (hbx:w.heap[b9]?=some (.cells #[iv o1] 3 (0,0))) (k x y:Int):GivesB Tryz.prog 164 #[iv k,.agg #[iv x,iv y],.pointer (some ⟨b9,0,none⟩)] w (fun c=>c=b9) fun r w'=>r=.tuple #[]∧w'.heap[b9]?=some (.cells #[iv k] 3 (0,0)):=by
 refine giveO_of (w:=w) (boxO 3 b9 [iv o1]) b9 [wv k,.agg [wv x,wv y],.val (.pointer (some ⟨b9,0,none⟩))] 6 [] Tryz.func164 rfl rfl rfl (by simp) rfl rfl (fun _ _=>boxO_holds (by rw[maxLen_eq];simp) hbx) (fun _ _=>rfl) ?_
 refine W.pure dn fun K1 k1=>?_
 simp only[E,F,J,M,R,Tz,V,X,Y,reduceIte,G,H,sz];refine k1 _ ?_
 refine W.region ?_
 refine WO.go 1 dn ?_
 simp only[E,F,J,M,R,Tz,V,X,Y,reduceIte,G,H,sz]
 refine WO.storeRow (k:=0) (sz:=1) (u:=(iv k)) 0 [iv k] rfl dn rfl rfl rfl rfl rfl (by simp) (by simp) ⟨_,rfl,fun _=>rfl⟩ rfl (by simp[Value.oneCell']) sz3 ?_
 simp only[E,F,J,M,R,Tz,V,X,Y,reduceIte,G,H,sz]
 refine WO.nil ?_
 refine⟨by simp,?_⟩
 simp only[E,F,J,M,R,Tz,V,X,Y,reduceIte,sxr,G,H,sz]
 intro ρ w1 hb
 exact⟨rfl,box_heap (cs:=[iv k]) hb (k:=0) rfl⟩
theorem writeCl_spec {w:World} {b9:Nat} {o1 o2:Int} (hbx:w.heap[b9]?=some (.cells #[iv o1,iv o2] 46 (0,0))) (k x y:Int):GivesB Tryz.prog 190 #[iv k,.agg #[iv x,iv y],.pointer (some ⟨b9,0,none⟩)] w (fun c=>c=b9) fun r w'=>r=.tuple #[]∧w'.heap[b9]?=some (.cells #[iv x,iv y] 46 (0,0)):=by
 refine giveO_of (w:=w) (boxO 46 b9 [iv o1,iv o2]) b9 [wv k,.agg [wv x,wv y],.val (.pointer (some ⟨b9,0,none⟩))] 6 [] Tryz.func190 rfl rfl rfl (by simp) rfl rfl (fun _ _=>boxO_holds (by rw[maxLen_eq];simp) hbx) (fun _ _=>rfl) ?_
 refine W.pure dn fun K1 k1=>?_
 simp only[E,F,J,M,R,Tz,V,X,Y,reduceIte,G,H,sz];refine k1 _ ?_
 refine W.region ?_
 refine WO.go 1 dn ?_
 simp only[E,F,J,M,R,Tz,V,X,Y,reduceIte,G,H,sz]
 refine WO.storeRow (k:=0) (sz:=1) (u:=.agg #[iv x,iv y]) 0 [iv x,iv y] rfl dn rfl rfl rfl rfl rfl (by simp) (by simp) ⟨_,rfl,fun _=>rfl⟩ rfl (by simp[Value.oneCell']) sz46 ?_
 simp only[E,F,J,M,R,Tz,V,X,Y,reduceIte,G,H,sz]
 refine WO.nil ?_
 refine⟨by simp,?_⟩
 simp only[E,F,J,M,R,Tz,V,X,Y,reduceIte,sxr,G,H,sz]
 intro ρ w1 hb
 exact⟨rfl,box_heap (cs:=[iv x,iv y]) hb (k:=0) rfl⟩
theorem soundCl_spec {w:World} {b9:Nat} {o1 o2:Int} (hbx:w.heap[b9]?=some (.cells #[iv o1,iv o2] 46 (0,0))) (k x y:Int):GivesB Tryz.prog 205 #[iv k,.agg #[iv x,iv y],.pointer (some ⟨b9,0,none⟩)] w (fun c=>c=b9) fun r w'=>r=.tuple #[]∧w'.heap[b9]?=some (.cells #[iv x,iv y] 46 (0,0)):=by
 refine giveO_of (w:=w) (boxO 46 b9 [iv o1,iv o2]) b9 [wv k,.agg [wv x,wv y],.val (.pointer (some ⟨b9,0,none⟩))] 6 [] Tryz.func205 rfl rfl rfl (by simp) rfl rfl (fun _ _=>boxO_holds (by rw[maxLen_eq];simp) hbx) (fun _ _=>rfl) ?_
 refine W.pure dn fun K1 k1=>?_
 simp only[E,F,J,M,R,Tz,V,X,Y,reduceIte,G,H,sz];refine k1 _ ?_
 refine W.region ?_
 refine WO.go 1 dn ?_
 simp only[E,F,J,M,R,Tz,V,X,Y,reduceIte,G,H,sz]
 refine WO.storeRow (k:=0) (sz:=1) (u:=.agg #[iv x,iv y]) 0 [iv x,iv y] rfl dn rfl rfl rfl rfl rfl (by simp) (by simp) ⟨_,rfl,fun _=>rfl⟩ rfl (by simp[Value.oneCell']) sz46 ?_
 simp only[E,F,J,M,R,Tz,V,X,Y,reduceIte,G,H,sz]
 refine WO.nil ?_
 refine⟨by simp,?_⟩
 simp only[E,F,J,M,R,Tz,V,X,Y,reduceIte,sxr,G,H,sz]
 intro ρ w1 hb
 exact⟨rfl,box_heap (cs:=[iv x,iv y]) hb (k:=0) rfl⟩
theorem mv_err {k a b:Int} (hf:formed a b=true):((moveF k a b).2.2.2 != 0)=!isKey k:=by
 cases h:isKey k with
 | true=>rw[moveF_yes (by rw[hf,h];rfl)];rfl
 | false=>rw[moveF_no (by rw[h,Bool.and_false])];rfl
theorem okI_yes {a b k:Int} {lo hi:Pit} (h1:writtenF a b lo hi=true) (h2:isKey k=true):okI a b lo hi k=true:=by unfold okI;rw[h1,h2];rfl
theorem okI_no1 {a b k:Int} {lo hi:Pit} (h1:writtenF a b lo hi=false):okI a b lo hi k=false:=by unfold okI;rw[h1];rfl
theorem okI_no2 {a b k:Int} {lo hi:Pit} (h1:isKey k=false):okI a b lo hi k=false:=by unfold okI;rw[h1,Bool.and_false]
abbrev D13_:List (Option Nat):=[some 28,some 29,some 30,some 31,some 32,some 33]
theorem moved_spec {w:World} (hN:GN w) (q:Int×Int×Int×Int×Int) (a b:Int) (lo hi:Pit) (k:Int) {K:FuncId} {b9 T:Nat} {old:List Value} (g:Int→Int→Int→List Value) (hgl:∀ k x y,(g k x y).length≤maxLen) (hol:old.length≤maxLen) (hne:¬ 0=b9) (hK:callOk Tryz.prog K=true) (hbx:w.heap[b9]?=some (.cells old.toArray T (0,0)))
  (hq:∀ w1 k x y,w1.heap[b9]?=some (.cells old.toArray T (0,0))→GivesB Tryz.prog K #[iv k,.agg #[iv x,iv y],.pointer (some ⟨b9,0,none⟩)] w1 (fun c=>c=b9) fun r w'=>r=.tuple #[]∧w'.heap[b9]?=some (.cells (g k x y).toArray T (0,0))) :
  GivesB Tryz.prog 163 #[.agg #[iv q.1,iv q.2.1,iv q.2.2.1,iv q.2.2.2.1,iv q.2.2.2.2,iv a,iv b,iv lo.1,iv lo.2.1,iv lo.2.2,iv hi.1,iv hi.2.1,iv hi.2.2],iv k,.func (.func K) #[] #[.pointer (some ⟨b9,0,none⟩)]] w (fun c=>c=b9) fun r w'=>r=.bool (okI a b lo hi k)∧w'.heap[b9]?=some (.cells (if (okI a b lo hi k)=true then g (mvI a b k).1 (mvI a b k).2.1 (mvI a b k).2.2 else old).toArray T (0,0)):=by
 refine giveO_of (w:=w) (boxO T b9 old) b9 [.agg [wv q.1,wv q.2.1,wv q.2.2.1,wv q.2.2.2.1,wv q.2.2.2.2,wv a,wv b,wv lo.1,wv lo.2.1,wv lo.2.2,wv hi.1,wv hi.2.1,wv hi.2.2],wv k,.val (.func (.func K) #[] #[.pointer (some ⟨b9,0,none⟩)])] 38 [.tmp 6] Tryz.func163 rfl rfl rfl (by simp) rfl rfl (fun _ _=>boxO_holds hol hbx) (fun _ _=>rfl) ?_
 refine W.pure dn fun K1 k1=>?_
 simp only[E,F,J,M,R,Tz,V,X,Y,reduceIte,G,H,sz];refine k1 _ ?_
 refine W.seqK fun K2 k2=>?_
 refine W.seqK fun K3 k3=>W.region ?_
 refine WO.go 1 dn ?_
 simp only[E,F,J,M,R,Tz,V,X,Y,reduceIte,G,H,sz]
 refine WO.call (.bool (writtenF a b lo hi)) dn rfl rfl rfl co201 (fun ρ w1 hb=>written_spec (hN.on (hb.at (S:=fun b=>¬ b=b9) (s:=w) (by simp)) hne) q a b lo hi) ?_
 refine WO.go 1 dn ?_
 simp only[E,F,J,M,R,Tz,V,X,Y,reduceIte,G,H,sz]
 refine WO.nil ?_
 refine k3 _ ?_
 refine W.cond rfl rfl (fun hc=>?_) fun hc=>?_
 ·
  have hw:writtenF a b lo hi=false:=by simpa using hc
  have hok:=okI_no1 (k:=k) hw
  refine W.pure dn fun K4 k4=>?_
  simp only[E,F,J,M,R,Tz,V,X,Y,reduceIte,G,H,sz];refine k4 _ ?_
  refine W.ret ?_
  refine⟨by simp,?_⟩
  simp only[E,F,J,M,R,Tz,V,X,Y,reduceIte,sxr,G,H,sz]
  intro ρ w1 hb
  rw[hok]
  exact⟨rfl,by rw[if_neg (by decide)];exact box_heap hb (k:=0) rfl⟩
 ·
  have hw:writtenF a b lo hi=true:=by simpa using hc
  have hwf:=written_iff.1 hw
  have hfb:=formed_iff.1 hwf.1.1
  have hfn:formed (-a) (-b)=true:=formed_iff.2 (by omega)
  refine W.skip (k2 _ ?_)
  refine W.seqK fun K5 k5=>W.region ?_
  refine WO.go 2 dn ?_
  simp only[E,F,J,M,R,Tz,V,X,Y,reduceIte,G,H,sz]
  refine WO.call (.tuple #[.agg #[iv (-a),iv (-b)],iv 0]) dn rfl rfl rfl co202 (fun ρ w1 hb=>by have:=back_spec w1 a b;rwa [backF_yes hwf.1.1] at this) ?_
  refine WO.go 6 dn ?_
  simp only[E,F,J,M,R,Tz,V,X,Y,reduceIte,G,H,sz]
  refine WO.nil ?_
  refine k5 _ ?_
  refine W.seqK fun K6 k6=>W.region ?_
  refine WO.go 2 dn ?_
  simp only[E,F,J,M,R,Tz,V,X,Y,reduceIte,G,H,sz]
  refine WO.call (.tuple #[iv (moveF k (-a) (-b)).1,.agg #[iv (moveF k (-a) (-b)).2.1,iv (moveF k (-a) (-b)).2.2.1],iv (moveF k (-a) (-b)).2.2.2]) dn rfl rfl rfl co203 (fun ρ w1 hb=>move_spec w1 k (-a) (-b)) ?_
  refine WO.go 8 dn ?_
  simp only[E,F,J,M,R,Tz,V,X,Y,reduceIte,G,H,sz]
  refine WO.nil ?_
  refine k6 _ ?_
  refine W.seqK fun K7 k7=>?_
  refine W.join 33 (.val (.bool (!isKey k))) [2,9,10] (W.region ?_) ?_
  ·
   refine WO.go 3 (ds:=D13_) rfl ?_
   simp only[E,F,J,M,R,Tz,V,X,Y,reduceIte,G,H,sz]
   refine WO.cases 30 _ rfl (fun hg30=>?_) fun hg30=>?_
   ·
    simp at hg30
   ·
    refine WO.go 3 (ds:=D13_) rfl ?_
    simp only[E,F,J,M,R,Tz,V,X,Y,reduceIte,G,H,sz]
    refine WO.nil ?_
    refine⟨rfl,?_,⟨_,rfl⟩,by simp[Own.bnd,bndL,bnd,boxO],by simp⟩
    simp[getE,bnd,keepE,mv_err hfn]
  ·
   simp only[E,F,J,M,R,Tz,V,X,Y,reduceIte,sxk,G,H,sz]
   refine W.cond rfl rfl (fun hc=>?_) fun hc=>?_
   ·
    have hk:isKey k=false:=by simpa using hc
    have hok:=okI_no2 (a:=a) (b:=b) (lo:=lo) (hi:=hi) hk
    refine W.pure dn fun K9 k9=>?_
    simp only[E,F,J,M,R,Tz,V,X,Y,reduceIte,G,H,sz];refine k9 _ ?_
    refine W.ret ?_
    refine⟨by simp,?_⟩
    simp only[E,F,J,M,R,Tz,V,X,Y,reduceIte,sxr,G,H,sz]
    intro ρ w1 hb
    rw[hok]
    exact⟨rfl,by rw[if_neg (by decide)];exact box_heap hb (k:=0) rfl⟩
   ·
    have hk:isKey k=true:=by simpa using hc
    have hok:=okI_yes hw hk
    refine W.skip (k7 _ ?_)
    refine W.seqK fun K10 k10=>W.region ?_
    refine WO.go 3 dn ?_
    simp only[E,F,J,M,R,Tz,V,X,Y,reduceIte,G,H,sz]
    refine WO.callBoxO (k:=0) (cs:=old) (g (mvI a b k).1 (mvI a b k).2.1 (mvI a b k).2.2) (.tuple #[]) dn rfl rfl rfl hK rfl (hgl _ _ _) (fun ρ w1 hb hbx1=>by have:=hq w1 (moveF k (-a) (-b)).1 (moveF k (-a) (-b)).2.1 (moveF k (-a) (-b)).2.2.1 hbx1;simpa [denL_eq,den,denL,mvI] using this) ?_
    simp only[E,F,J,M,R,Tz,V,X,Y,reduceIte,G,H,sz]
    refine WO.nil ?_
    refine k10 _ ?_
    refine W.pure dn fun K11 k11=>?_
    simp only[E,F,J,M,R,Tz,V,X,Y,reduceIte,G,H,sz];refine k11 _ ?_
    refine W.ret ?_
    refine⟨by simp,?_⟩
    simp only[E,F,J,M,R,Tz,V,X,Y,reduceIte,sxr,G,H,sz]
    intro ρ w1 hb
    rw[hok]
    exact⟨rfl,by rw[if_pos rfl];exact box_heap hb (k:=0) rfl⟩
theorem moved_key {w:World} (hN:GN w) (q:Int×Int×Int×Int×Int) (a b:Int) (lo hi:Pit) (k:Int) {b9:Nat} (hne:¬ 0=b9) (hbx:w.heap[b9]?=some (.cells #[iv 0] 3 (0,0))):GivesB Tryz.prog 163 #[.agg #[iv q.1,iv q.2.1,iv q.2.2.1,iv q.2.2.2.1,iv q.2.2.2.2,iv a,iv b,iv lo.1,iv lo.2.1,iv lo.2.2,iv hi.1,iv hi.2.1,iv hi.2.2],iv k,.func (.func 164) #[] #[.pointer (some ⟨b9,0,none⟩)]] w (fun c=>c=b9)
  fun r w'=>r=.bool (okI a b lo hi k)∧w'.heap[b9]?=some (.cells #[iv (if (okI a b lo hi k)=true then (mvI a b k).1 else 0)] 3 (0,0)):=
 GivesB.mono (moved_spec hN q a b lo hi k (T:=3) (old:=[iv 0]) (fun k x y=>[iv k]) (fun _ _ _=>by rw[maxLen_eq];simp) (by rw[maxLen_eq];simp) hne co164 hbx fun w1 k x y h=>keyCl_spec h k x y) fun r w' ⟨h1,h2⟩=>⟨h1,by rw[h2];split<;>rfl⟩
theorem moved_write {w:World} (hN:GN w) (q:Int×Int×Int×Int×Int) (a b:Int) (lo hi:Pit) (k:Int) {b9:Nat} (hne:¬ 0=b9) (hbx:w.heap[b9]?=some (.cells #[iv 0,iv 0] 46 (0,0))):GivesB Tryz.prog 163 #[.agg #[iv q.1,iv q.2.1,iv q.2.2.1,iv q.2.2.2.1,iv q.2.2.2.2,iv a,iv b,iv lo.1,iv lo.2.1,iv lo.2.2,iv hi.1,iv hi.2.1,iv hi.2.2],iv k,.func (.func 190) #[] #[.pointer (some ⟨b9,0,none⟩)]] w (fun c=>c=b9)
  fun r w'=>r=.bool (okI a b lo hi k)∧w'.heap[b9]?=some (.cells #[iv (if (okI a b lo hi k)=true then (mvI a b k).2.1 else 0),iv (if (okI a b lo hi k)=true then (mvI a b k).2.2 else 0)] 46 (0,0)):=
 GivesB.mono (moved_spec hN q a b lo hi k (T:=46) (old:=[iv 0,iv 0]) (fun k x y=>[iv x,iv y]) (fun _ _ _=>by rw[maxLen_eq];simp) (by rw[maxLen_eq];simp) hne co190 hbx fun w1 k x y h=>writeCl_spec h k x y) fun r w' ⟨h1,h2⟩=>⟨h1,by rw[h2];split<;>rfl⟩
theorem moved_sound {w:World} (hN:GN w) (q:Int×Int×Int×Int×Int) (a b:Int) (lo hi:Pit) (k:Int) {b9:Nat} (hne:¬ 0=b9) (hbx:w.heap[b9]?=some (.cells #[iv 0,iv 0] 46 (0,0))):GivesB Tryz.prog 163 #[.agg #[iv q.1,iv q.2.1,iv q.2.2.1,iv q.2.2.2.1,iv q.2.2.2.2,iv a,iv b,iv lo.1,iv lo.2.1,iv lo.2.2,iv hi.1,iv hi.2.1,iv hi.2.2],iv k,.func (.func 205) #[] #[.pointer (some ⟨b9,0,none⟩)]] w (fun c=>c=b9)
  fun r w'=>r=.bool (okI a b lo hi k)∧w'.heap[b9]?=some (.cells #[iv (if (okI a b lo hi k)=true then (mvI a b k).2.1 else 0),iv (if (okI a b lo hi k)=true then (mvI a b k).2.2 else 0)] 46 (0,0)):=
 GivesB.mono (moved_spec hN q a b lo hi k (T:=46) (old:=[iv 0,iv 0]) (fun k x y=>[iv x,iv y]) (fun _ _ _=>by rw[maxLen_eq];simp) (by rw[maxLen_eq];simp) hne co205 hbx fun w1 k x y h=>soundCl_spec h k x y) fun r w' ⟨h1,h2⟩=>⟨h1,by rw[h2];split<;>rfl⟩
theorem ikey_spec {w:World} (hN:GN w) (q:Int×Int×Int×Int×Int) (a b:Int) (lo hi:Pit) (k:Int):Gives Tryz.prog 112 #[.agg #[iv q.1,iv q.2.1,iv q.2.2.1,iv q.2.2.2.1,iv q.2.2.2.2,iv a,iv b,iv lo.1,iv lo.2.1,iv lo.2.2,iv hi.1,iv hi.2.1,iv hi.2.2],iv k] w fun r _=>r=.tuple #[iv (keyF a b lo hi k).1,iv (keyF a b lo hi k).2]:=by
 refine gives_of [.agg [wv q.1,wv q.2.1,wv q.2.2.1,wv q.2.2.2.1,wv q.2.2.2.2,wv a,wv b,wv lo.1,wv lo.2.1,wv lo.2.2,wv hi.1,wv hi.2.1,wv hi.2.2],wv k] 13 [.tmp 4,.tmp 5] Tryz.func112 rfl rfl rfl (by simp) rfl rfl ?_
 refine W.pure dn fun K1 k1=>?_
 simp only[E,F,J,M,R,Tz,V,X,Y,reduceIte,G,H,sz];refine k1 _ ?_
 refine W.pure dn fun K2 k2=>?_
 simp only[E,F,J,M,R,Tz,V,X,Y,reduceIte,G,H,sz];refine k2 _ ?_
 refine W.seqK fun K3 k3=>?_
 refine W.seqK fun K4 k4=>W.region ?_
 refine WO.go 3 dn ?_
 simp only[E,F,J,M,R,Tz,V,X,Y,reduceIte,G,H,sz]
 refine WO.callBox1 (k:=1) [wv (if (okI a b lo hi k)=true then (mvI a b k).1 else 0)] (.bool (okI a b lo hi k)) dn rfl rfl rfl co163 rfl rfl (fun ρ w1 hb hbx=>by have:=moved_key (hN.now (hb.first (by simp))) q a b lo hi k (fun h9=>by have h8:=own_new (w0:=w) hb (by simp) (k:=1) rfl rfl;have h7:=hN.2;omega) hbx;simpa [denL_eq,den,denL] using this) ?_
 refine WO.go 1 dn ?_
 simp only[E,F,J,M,R,Tz,V,X,Y,reduceIte,G,H,sz]
 refine WO.nil ?_
 refine k4 _ ?_
 refine W.cond rfl rfl (fun hc=>?_) fun hc=>?_
 ·
  have hok:(okI a b lo hi k)=false:=by simpa using hc
  refine W.pure dn fun K5 k5=>?_
  simp only[E,F,J,M,R,Tz,V,X,Y,reduceIte,G,H,sz];refine k5 _ ?_
  refine W.ret ⟨by simp,_,rfl,fun ρ w1 hb=>?_⟩
  rw[keyF_no hok];rfl
 ·
  have hok:(okI a b lo hi k)=true:=by simpa using hc
  simp only[hok,if_true]
  refine W.skip (k3 _ ?_)
  refine W.pure dn fun K6 k6=>?_
  simp only[E,F,J,M,R,Tz,V,X,Y,reduceIte,G,H,sz];refine k6 _ ?_
  refine W.ret ⟨by simp,_,rfl,fun ρ w1 hb=>?_⟩
  rw[keyF_yes hok];rfl
abbrev D14_:List (Option Nat):=[some 9,some 10,some 11,some 12,some 13,some 14,some 15,some 16,some 17,some 18]
theorem iwrite_spec {w:World} (hN:GN w) (q:Int×Int×Int×Int×Int) (a b:Int) (lo hi:Pit) (k:Int) (c:Pit):Gives Tryz.prog 143 #[.agg #[iv q.1,iv q.2.1,iv q.2.2.1,iv q.2.2.2.1,iv q.2.2.2.2,iv a,iv b,iv lo.1,iv lo.2.1,iv lo.2.2,iv hi.1,iv hi.2.1,iv hi.2.2],iv k,.agg #[iv c.1,iv c.2.1,iv c.2.2]] w fun r _=>r=.tuple #[.agg #[iv (writeF a b lo hi k c).1.1,iv (writeF a b lo hi k c).1.2.1,iv (writeF a b lo hi k c).1.2.2],iv (writeF a b lo hi k c).2]:=by
 refine gives_of [.agg [wv q.1,wv q.2.1,wv q.2.2.1,wv q.2.2.2.1,wv q.2.2.2.2,wv a,wv b,wv lo.1,wv lo.2.1,wv lo.2.2,wv hi.1,wv hi.2.1,wv hi.2.2],wv k,.agg [wv c.1,wv c.2.1,wv c.2.2]] 25 [.cell 6 48,.tmp 7] Tryz.func143 rfl rfl rfl (by simp) rfl rfl ?_
 refine W.pure dn fun K1 k1=>?_
 simp only[E,F,J,M,R,Tz,V,X,Y,reduceIte,G,H,sz];refine k1 _ ?_
 refine W.pure dn fun K2 k2=>?_
 simp only[E,F,J,M,R,Tz,V,X,Y,reduceIte,G,H,sz];refine k2 _ ?_
 refine W.seqK fun K3 k3=>?_
 refine W.seqK fun K4 k4=>W.region ?_
 refine WO.go 3 (ds:=D14_) rfl ?_
 simp only[E,F,J,M,R,Tz,V,X,Y,reduceIte,G,H,sz]
 refine WO.callBox1 (k:=3) [wv (if (okI a b lo hi k)=true then (mvI a b k).2.1 else 0),wv (if (okI a b lo hi k)=true then (mvI a b k).2.2 else 0)] (.bool (okI a b lo hi k)) (ds:=D14_) rfl rfl rfl rfl co163 rfl rfl (fun ρ w1 hb hbx=>by have:=moved_write (hN.now (hb.first (by simp))) q a b lo hi k (fun h9=>by have h8:=own_new (w0:=w) hb (by simp) (k:=3) rfl rfl;have h7:=hN.2;omega) hbx;simpa [denL_eq,den,denL] using this) ?_
 refine WO.go 2 (ds:=D14_) rfl ?_
 simp only[E,F,J,M,R,Tz,V,X,Y,reduceIte,G,H,sz]
 refine WO.cases 14 _ rfl (fun hg14=>?_) fun hg14=>?_
 ·
  have hok:(okI a b lo hi k)=false:=by simpa using hg14
  have hno:((okI a b lo hi k) && validP c)=false:=by rw[hok];rfl
  refine WO.go 4 (ds:=D14_) rfl ?_
  simp only[E,F,J,M,R,Tz,V,X,Y,reduceIte,G,H,sz]
  refine WO.nil ?_
  refine k4 _ ?_
  refine W.cond rfl rfl (fun hc=>?_) fun hc=>?_
  rotate_left
  ·
   simp at hc
  ·
   refine W.pure dn fun K5 k5=>?_
   simp only[E,F,J,M,R,Tz,V,X,Y,reduceIte,G,H,sz];refine k5 _ ?_
   refine W.ret ?_
   refine⟨by simp,RunR.ex ?_⟩
   simp only[E,F,J,M,R,Tz,V,X,Y,reduceIte,sxr,G,H,sz]
   intro ρ w1 hb
   rw[writeF_no hno];rfl
 ·
  have hok:(okI a b lo hi k)=true:=by simpa using hg14
  simp only[hok,if_true]
  refine WO.go 1 (ds:=D14_) rfl ?_
  simp only[E,F,J,M,R,Tz,V,X,Y,reduceIte,G,H,sz]
  refine WO.call (.bool (validP c)) (ds:=D14_) rfl rfl rfl rfl co119 (fun ρ w1 hb=>valid_spec w1 c) ?_
  refine WO.go 2 (ds:=D14_) rfl ?_
  simp only[E,F,J,M,R,Tz,V,X,Y,reduceIte,G,H,sz]
  refine WO.nil ?_
  refine k4 _ ?_
  refine W.cond rfl rfl (fun hc=>?_) fun hc=>?_
  ·
   have hno:((okI a b lo hi k) && validP c)=false:=by rw[hok];simpa using hc
   refine W.pure dn fun K6 k6=>?_
   simp only[E,F,J,M,R,Tz,V,X,Y,reduceIte,G,H,sz];refine k6 _ ?_
   refine W.ret ?_
   refine⟨by simp,RunR.ex ?_⟩
   simp only[E,F,J,M,R,Tz,V,X,Y,reduceIte,sxr,G,H,sz]
   intro ρ w1 hb
   rw[writeF_no hno];rfl
  ·
   have hyes:((okI a b lo hi k) && validP c)=true:=by rw[hok];simpa using hc
   refine W.skip (k3 _ ?_)
   refine W.seqK fun K7 k7=>W.region ?_
   refine WO.go 2 dn ?_
   simp only[E,F,J,M,R,Tz,V,X,Y,reduceIte,G,H,sz]
   refine WO.call (.tuple #[.agg #[iv (addF c (mvI a b k).2.1 (mvI a b k).2.2).1.1,iv (addF c (mvI a b k).2.1 (mvI a b k).2.2).1.2.1,iv (addF c (mvI a b k).2.1 (mvI a b k).2.2).1.2.2],iv (addF c (mvI a b k).2.1 (mvI a b k).2.2).2]) dn rfl rfl rfl co191 (fun ρ w1 hb=>add_spec (hN.now (hb.first (by simp))) c _ _) ?_
   refine WO.go 4 dn ?_
   simp only[E,F,J,M,R,Tz,V,X,Y,reduceIte,G,H,sz]
   refine WO.nil ?_
   refine k7 _ ?_
   refine W.ret ?_
   refine⟨by simp,RunR.ex ?_⟩
   simp only[E,F,J,M,R,Tz,V,X,Y,reduceIte,sxr,G,H,sz]
   intro ρ w1 hb
   rw[writeF_yes hyes];rfl
abbrev D15_:List (Option Nat):=[some 11,some 12,some 13,some 14,some 15,some 16,some 17,some 18,some 19,some 20]
theorem isnd_spec {w:World} (hN:GN w) (q:Int×Int×Int×Int×Int) (a b:Int) (lo hi:Pit) (k:Int) (c:Pit):Gives Tryz.prog 169 #[.agg #[iv q.1,iv q.2.1,iv q.2.2.1,iv q.2.2.2.1,iv q.2.2.2.2,iv a,iv b,iv lo.1,iv lo.2.1,iv lo.2.2,iv hi.1,iv hi.2.1,iv hi.2.2],iv k,.agg #[iv c.1,iv c.2.1,iv c.2.2]] w fun r _=>r=.tuple #[.agg #[iv (soundF a b lo hi k c).1.1,iv (soundF a b lo hi k c).1.2.1,iv (soundF a b lo hi k c).1.2.2],iv (soundF a b lo hi k c).2]:=by
 refine gives_of [.agg [wv q.1,wv q.2.1,wv q.2.2.1,wv q.2.2.2.1,wv q.2.2.2.2,wv a,wv b,wv lo.1,wv lo.2.1,wv lo.2.2,wv hi.1,wv hi.2.1,wv hi.2.2],wv k,.agg [wv c.1,wv c.2.1,wv c.2.2]] 36 [.cell 6 48,.tmp 7] Tryz.func169 rfl rfl rfl (by simp) rfl rfl ?_
 refine W.pure dn fun K1 k1=>?_
 simp only[E,F,J,M,R,Tz,V,X,Y,reduceIte,G,H,sz];refine k1 _ ?_
 refine W.pure dn fun K2 k2=>?_
 simp only[E,F,J,M,R,Tz,V,X,Y,reduceIte,G,H,sz];refine k2 _ ?_
 refine W.seqK fun K3 k3=>?_
 refine W.seqK fun K4 k4=>W.region ?_
 refine WO.go 3 (ds:=D15_) rfl ?_
 simp only[E,F,J,M,R,Tz,V,X,Y,reduceIte,G,H,sz]
 refine WO.callBox1 (k:=3) [wv (if (okI a b lo hi k)=true then (mvI a b k).2.1 else 0),wv (if (okI a b lo hi k)=true then (mvI a b k).2.2 else 0)] (.bool (okI a b lo hi k)) (ds:=D15_) rfl rfl rfl rfl co163 rfl rfl (fun ρ w1 hb hbx=>by have:=moved_sound (hN.now (hb.first (by simp))) q a b lo hi k (fun h9=>by have h8:=own_new (w0:=w) hb (by simp) (k:=3) rfl rfl;have h7:=hN.2;omega) hbx;simpa [denL_eq,den,denL] using this) ?_
 refine WO.go 2 (ds:=D15_) rfl ?_
 simp only[E,F,J,M,R,Tz,V,X,Y,reduceIte,G,H,sz]
 refine WO.cases 16 _ rfl (fun hg16=>?_) fun hg16=>?_
 ·
  have hok:(okI a b lo hi k)=false:=by simpa using hg16
  have hno:((okI a b lo hi k) && validP c)=false:=by rw[hok];rfl
  refine WO.go 4 (ds:=D15_) rfl ?_
  simp only[E,F,J,M,R,Tz,V,X,Y,reduceIte,G,H,sz]
  refine WO.nil ?_
  refine k4 _ ?_
  refine W.cond rfl rfl (fun hc=>?_) fun hc=>?_
  rotate_left
  ·
   simp at hc
  ·
   refine W.pure dn fun K5 k5=>?_
   simp only[E,F,J,M,R,Tz,V,X,Y,reduceIte,G,H,sz];refine k5 _ ?_
   refine W.ret ?_
   refine⟨by simp,RunR.ex ?_⟩
   simp only[E,F,J,M,R,Tz,V,X,Y,reduceIte,sxr,G,H,sz]
   intro ρ w1 hb
   rw[soundF_no hno];rfl
 ·
  have hok:(okI a b lo hi k)=true:=by simpa using hg16
  simp only[hok,if_true]
  have hfA:formed (mvI a b k).2.1 (mvI a b k).2.2=true:=by obtain⟨t,_,h2,_,_,h5,_⟩:=ok_fact hok;rw[h2];exact h5
  refine WO.go 1 (ds:=D15_) rfl ?_
  simp only[E,F,J,M,R,Tz,V,X,Y,reduceIte,G,H,sz]
  refine WO.call (.bool (validP c)) (ds:=D15_) rfl rfl rfl rfl co119 (fun ρ w1 hb=>valid_spec w1 c) ?_
  refine WO.go 2 (ds:=D15_) rfl ?_
  simp only[E,F,J,M,R,Tz,V,X,Y,reduceIte,G,H,sz]
  refine WO.nil ?_
  refine k4 _ ?_
  refine W.cond rfl rfl (fun hc=>?_) fun hc=>?_
  ·
   have hno:((okI a b lo hi k) && validP c)=false:=by rw[hok];simpa using hc
   refine W.pure dn fun K6 k6=>?_
   simp only[E,F,J,M,R,Tz,V,X,Y,reduceIte,G,H,sz];refine k6 _ ?_
   refine W.ret ?_
   refine⟨by simp,RunR.ex ?_⟩
   simp only[E,F,J,M,R,Tz,V,X,Y,reduceIte,sxr,G,H,sz]
   intro ρ w1 hb
   rw[soundF_no hno];rfl
  ·
   have hyes:((okI a b lo hi k) && validP c)=true:=by rw[hok];simpa using hc
   refine W.skip (k3 _ ?_)
   refine W.seqK fun K7 k7=>W.region ?_
   refine WO.go 1 dn ?_
   simp only[E,F,J,M,R,Tz,V,X,Y,reduceIte,G,H,sz]
   refine WO.call (.tuple #[.agg #[iv (-(mvI a b k).2.1),iv (-(mvI a b k).2.2)],iv 0]) dn rfl rfl rfl co202 (fun ρ w1 hb=>by have:=back_spec w1 (mvI a b k).2.1 (mvI a b k).2.2;rwa [backF_yes hfA] at this) ?_
   refine WO.go 6 dn ?_
   simp only[E,F,J,M,R,Tz,V,X,Y,reduceIte,G,H,sz]
   refine WO.nil ?_
   refine k7 _ ?_
   refine W.seqK fun K8 k8=>?_
   refine W.pure dn fun K9 k9=>?_
   simp only[E,F,J,M,R,Tz,V,X,Y,reduceIte,G,H,sz];refine k9 _ ?_
   refine W.cond rfl rfl (fun hc=>?_) fun hc=>?_
   ·
    simp at hc
   ·
    refine W.skip (k8 _ ?_)
    refine W.seqK fun K10 k10=>W.region ?_
    refine WO.go 2 dn ?_
    simp only[E,F,J,M,R,Tz,V,X,Y,reduceIte,G,H,sz]
    refine WO.call (.tuple #[.agg #[iv (addF c (-(mvI a b k).2.1) (-(mvI a b k).2.2)).1.1,iv (addF c (-(mvI a b k).2.1) (-(mvI a b k).2.2)).1.2.1,iv (addF c (-(mvI a b k).2.1) (-(mvI a b k).2.2)).1.2.2],iv (addF c (-(mvI a b k).2.1) (-(mvI a b k).2.2)).2]) dn rfl rfl rfl co191 (fun ρ w1 hb=>add_spec (hN.now (hb.first (by simp))) c _ _) ?_
    refine WO.go 4 dn ?_
    simp only[E,F,J,M,R,Tz,V,X,Y,reduceIte,G,H,sz]
    refine WO.nil ?_
    refine k10 _ ?_
    refine W.ret ?_
    refine⟨by simp,RunR.ex ?_⟩
    simp only[E,F,J,M,R,Tz,V,X,Y,reduceIte,sxr,G,H,sz]
    intro ρ w1 hb
    rw[soundF_yes hyes];rfl
abbrev D16_:List (Option Nat):=[some 17,some 18,some 19,some 20,some 21,some 22,some 23,some 24,some 25,some 26,some 27,some 28,some 4,some 5]
theorem ifits_spec {w:World} (hN:GN w) (q:Int×Int×Int×Int×Int) (a b:Int) (lo hi:Pit) (c:Pit):Gives Tryz.prog 170 #[.agg #[iv q.1,iv q.2.1,iv q.2.2.1,iv q.2.2.2.1,iv q.2.2.2.2,iv a,iv b,iv lo.1,iv lo.2.1,iv lo.2.2,iv hi.1,iv hi.2.1,iv hi.2.2],.agg #[iv c.1,iv c.2.1,iv c.2.2]] w fun r _=>r=.tuple #[.bool (fitsF a b lo hi c).1,iv (fitsF a b lo hi c).2]:=by
 refine gives_of [.agg [wv q.1,wv q.2.1,wv q.2.2.1,wv q.2.2.2.1,wv q.2.2.2.2,wv a,wv b,wv lo.1,wv lo.2.1,wv lo.2.2,wv hi.1,wv hi.2.1,wv hi.2.2],.agg [wv c.1,wv c.2.1,wv c.2.2]] 29 [.tmp 4,.tmp 5] Tryz.func170 rfl rfl rfl (by simp) rfl rfl ?_
 refine W.pure dn fun K1 k1=>?_
 simp only[E,F,J,M,R,Tz,V,X,Y,reduceIte,G,H,sz];refine k1 _ ?_
 refine W.seqK fun K2 k2=>?_
 refine W.join 14 (.val (.bool (!(writtenF a b lo hi && validP c)))) [2,3] (W.region ?_) ?_
 ·
  refine WO.go 1 (ds:=D5_) rfl ?_
  simp only[E,F,J,M,R,Tz,V,X,Y,reduceIte,G,H,sz]
  refine WO.call (.bool (writtenF a b lo hi)) (ds:=D5_) rfl rfl rfl rfl co201 (fun ρ w1 hb=>written_spec (hN.now (hb.first (by simp))) q a b lo hi) ?_
  refine WO.go 2 (ds:=D5_) rfl ?_
  simp only[E,F,J,M,R,Tz,V,X,Y,reduceIte,G,H,sz]
  refine WO.cases 10 _ rfl (fun hg10=>?_) fun hg10=>?_
  ·
   refine WO.go 4 (ds:=D5_) rfl ?_
   simp only[E,F,J,M,R,Tz,V,X,Y,reduceIte,G,H,sz]
   refine WO.nil ?_
   refine⟨rfl,?_,⟨_,rfl⟩,by simp[Own.bnd,bndL,bnd,boxO],by simp⟩
   try rw[hg10]
   simp[getE,bnd,keepE]
   try simp_all
  ·
   refine WO.go 1 (ds:=D5_) rfl ?_
   simp only[E,F,J,M,R,Tz,V,X,Y,reduceIte,G,H,sz]
   refine WO.call (.bool (validP c)) (ds:=D5_) rfl rfl rfl rfl co119 (fun ρ w1 hb=>valid_spec w1 c) ?_
   refine WO.go 2 (ds:=D5_) rfl ?_
   simp only[E,F,J,M,R,Tz,V,X,Y,reduceIte,G,H,sz]
   refine WO.nil ?_
   refine⟨rfl,?_,⟨_,rfl⟩,by simp[Own.bnd,bndL,bnd,boxO],by simp⟩
   try rw[hg10]
   simp[getE,bnd,keepE]
   try simp_all
 ·
  simp only[E,F,J,M,R,Tz,V,X,Y,reduceIte,sxk,G,H,sz]
  refine W.cond rfl rfl (fun hc=>?_) fun hc=>?_
  ·
   have hno:(writtenF a b lo hi && validP c)=false:=by simpa only [Bool.not_eq_true'] using hc
   refine W.pure dn fun K4 k4=>?_
   simp only[E,F,J,M,R,Tz,V,X,Y,reduceIte,G,H,sz];refine k4 _ ?_
   refine W.ret ⟨by simp,_,rfl,fun ρ w1 hb=>?_⟩
   rw[fitsF_no hno];rfl
  ·
   have hyes:(writtenF a b lo hi && validP c)=true:=by simpa only [Bool.not_eq_false'] using hc
   have hy2:=hyes
   simp only[Bool.and_eq_true] at hy2
   have hwf:=written_iff.1 hy2.1
   have hvl:=validP_iff.1 hwf.2.1
   have hvh:=validP_iff.1 hwf.2.2.1
   have hvc:=validP_iff.1 hy2.2
   refine W.skip (k2 _ ?_)
   refine W.seqK fun K5 k5=>W.region ?_
   refine WO.go 1 dn ?_
   simp only[E,F,J,M,R,Tz,V,X,Y,reduceIte,G,H,sz]
   refine WO.call (iv (numF c)) dn rfl rfl rfl co206 (fun ρ w1 hb=>by have:=isound_spec (hN.now (hb.first (by simp))) c;rwa [numG_yes hy2.2] at this) ?_
   refine WO.go 1 dn ?_
   simp only[E,F,J,M,R,Tz,V,X,Y,reduceIte,G,H,sz]
   refine WO.nil ?_
   refine k5 _ ?_
   refine W.seqK fun K6 k6=>W.region ?_
   refine WO.go 2 (ds:=D16_) rfl ?_
   simp only[E,F,J,M,R,Tz,V,X,Y,reduceIte,G,H,sz]
   refine WO.call (iv (numF lo)) (ds:=D16_) rfl rfl rfl rfl co206 (fun ρ w1 hb=>by have:=isound_spec (hN.now (hb.first (by simp))) lo;rwa [numG_yes hwf.2.1] at this) ?_
   refine WO.go 3 (ds:=D16_) rfl ?_
   simp only[E,F,J,M,R,Tz,V,X,Y,reduceIte,G,H,sz]
   refine WO.cases 22 _ rfl (fun hg22=>?_) fun hg22=>?_
   ·
    refine WO.go 3 (ds:=D16_) rfl ?_
    simp only[E,F,J,M,R,Tz,V,X,Y,reduceIte,G,H,sz]
    refine WO.call (iv (numF hi)) (ds:=D16_) rfl rfl rfl rfl co206 (fun ρ w1 hb=>by have:=isound_spec (hN.now (hb.first (by simp))) hi;rwa [numG_yes hwf.2.2.1] at this) ?_
    refine WO.go 4 (ds:=D16_) rfl ?_
    simp only[E,F,J,M,R,Tz,V,X,Y,reduceIte,G,H,sz]
    refine WO.nil ?_
    refine k6 _ ?_
    refine W.ret ⟨by simp,_,rfl,fun ρ w1 hb=>?_⟩
    rw[fitsF_yes hyes]
    have h9:numF lo≤numF c:=by simpa using hg22
    simp[den,denL,h9]
   ·
    refine WO.go 8 (ds:=D16_) rfl ?_
    simp only[E,F,J,M,R,Tz,V,X,Y,reduceIte,G,H,sz]
    refine WO.nil ?_
    refine k6 _ ?_
    refine W.ret ⟨by simp,_,rfl,fun ρ w1 hb=>?_⟩
    rw[fitsF_yes hyes]
    have h9:¬ numF lo≤numF c:=by simpa using hg22
    simp only[den,denL,decide_eq_false h9,Bool.false_and]
theorem rshift_spec (w:World) (q:Int×Int×Int×Int×Int) (a b:Int) (lo hi:Pit) (k:Int) (hok:(okI a b lo hi k)=true):Gives Tryz.prog 108 #[.agg #[iv q.1,iv q.2.1,iv q.2.2.1,iv q.2.2.2.1,iv q.2.2.2.2,iv a,iv b,iv lo.1,iv lo.2.1,iv lo.2.2,iv hi.1,iv hi.2.1,iv hi.2.2],iv k] w fun r _=>r=.tuple #[iv (mvI a b k).1,.agg #[iv (mvI a b k).2.1,iv (mvI a b k).2.2]]:=by
 have hwf:=written_iff.1 (ok_fact hok).choose_spec.2.2.2.2.2.2
 refine gives_of [.agg [wv q.1,wv q.2.1,wv q.2.2.1,wv q.2.2.2.1,wv q.2.2.2.2,wv a,wv b,wv lo.1,wv lo.2.1,wv lo.2.2,wv hi.1,wv hi.2.1,wv hi.2.2],wv k] 26 [.tmp 4,.cell 5 46] Tryz.func108 rfl rfl rfl (by simp) rfl rfl ?_
 refine W.pure dn fun K1 k1=>?_
 simp only[E,F,J,M,R,Tz,V,X,Y,reduceIte,G,H,sz];refine k1 _ ?_
 refine W.seqK fun K2 k2=>W.region ?_
 refine WO.go 2 dn ?_
 simp only[E,F,J,M,R,Tz,V,X,Y,reduceIte,G,H,sz]
 refine WO.call (.tuple #[.agg #[iv (-a),iv (-b)],iv 0]) dn rfl rfl rfl co161 (fun ρ w1 hb=>by have:=r2back_spec w1 a b;rwa [backF_yes hwf.1.1] at this) ?_
 refine WO.go 6 dn ?_
 simp only[E,F,J,M,R,Tz,V,X,Y,reduceIte,G,H,sz]
 refine WO.nil ?_
 refine k2 _ ?_
 refine W.seqK fun K3 k3=>W.region ?_
 refine WO.go 2 dn ?_
 simp only[E,F,J,M,R,Tz,V,X,Y,reduceIte,G,H,sz]
 refine WO.call (.tuple #[iv (moveF k (-a) (-b)).1,.agg #[iv (moveF k (-a) (-b)).2.1,iv (moveF k (-a) (-b)).2.2.1],iv (moveF k (-a) (-b)).2.2.2]) dn rfl rfl rfl co162 (fun ρ w1 hb=>rmove_spec w1 k (-a) (-b)) ?_
 refine WO.go 8 dn ?_
 simp only[E,F,J,M,R,Tz,V,X,Y,reduceIte,G,H,sz]
 refine WO.nil ?_
 refine k3 _ ?_
 refine W.seqK fun K4 k4=>?_
 refine W.regionT' 3 [] [0,1,2] mixed (by kernel_rfl) ?_
 simp only[E,F,J,M,R,Tz,V,X,Y,reduceIte,sxt,List.toList_toArray,G,H,sz]
 refine WQ.go 3 dn ?_
 simp only[E,F,J,M,R,Tz,V,X,Y,reduceIte,sxq,G,H,sz]
 refine WQ.nil ?_
 refine WO.go 1 dn ?_
 simp only[E,F,J,M,R,Tz,V,X,Y,reduceIte,G,H,sz]
 refine WO.nil ?_
 refine k4 _ ?_
 refine W.ret ?_
 refine⟨by simp,RunR.ex ?_⟩
 simp only[E,F,J,M,R,Tz,V,X,Y,reduceIte,sxr,G,H,sz]
 intro ρ w1 hb
 rfl
abbrev D17_:List (Option Nat):=[some 11,some 12,some 13,some 14,some 15,some 16,some 17]
theorem rkey_spec (w:World) (q:Int×Int×Int×Int×Int) (a b:Int) (lo hi:Pit) (k:Int):Gives Tryz.prog 56 #[.agg #[iv q.1,iv q.2.1,iv q.2.2.1,iv q.2.2.2.1,iv q.2.2.2.2,iv a,iv b,iv lo.1,iv lo.2.1,iv lo.2.2,iv hi.1,iv hi.2.1,iv hi.2.2],iv k] w fun r _=>r=.tuple #[iv (keyF a b lo hi k).1,iv (keyF a b lo hi k).2]:=by
 refine gives_of [.agg [wv q.1,wv q.2.1,wv q.2.2.1,wv q.2.2.2.1,wv q.2.2.2.2,wv a,wv b,wv lo.1,wv lo.2.1,wv lo.2.2,wv hi.1,wv hi.2.1,wv hi.2.2],wv k] 25 [.tmp 4,.tmp 5] Tryz.func56 rfl rfl rfl (by simp) rfl rfl ?_
 refine W.pure dn fun K1 k1=>?_
 simp only[E,F,J,M,R,Tz,V,X,Y,reduceIte,G,H,sz];refine k1 _ ?_
 refine W.seqK fun K2 k2=>W.region ?_
 refine WO.go 1 dn ?_
 simp only[E,F,J,M,R,Tz,V,X,Y,reduceIte,G,H,sz]
 refine WO.call (.bool (writtenF a b lo hi)) dn rfl rfl rfl co106 (fun ρ w1 hb=>rpart_spec w1 q a b lo hi) ?_
 refine WO.go 1 dn ?_
 simp only[E,F,J,M,R,Tz,V,X,Y,reduceIte,G,H,sz]
 refine WO.nil ?_
 refine k2 _ ?_
 refine W.seqK fun K3 k3=>?_
 refine W.join 17 (.val (.bool (!(okI a b lo hi k)))) [1,2] (W.region ?_) ?_
 ·
  refine WO.go 3 (ds:=D17_) rfl ?_
  simp only[E,F,J,M,R,Tz,V,X,Y,reduceIte,G,H,sz]
  refine WO.cases 13 _ rfl (fun hg13=>?_) fun hg13=>?_
  ·
   refine WO.go 4 (ds:=D17_) rfl ?_
   simp only[E,F,J,M,R,Tz,V,X,Y,reduceIte,G,H,sz]
   refine WO.nil ?_
   refine⟨rfl,?_,⟨_,rfl⟩,by simp[Own.bnd,bndL,bnd,boxO],by simp⟩
   try rw[hg13]
   simp[getE,bnd,keepE]
   try simp_all [okI]
  ·
   refine WO.go 1 (ds:=D17_) rfl ?_
   simp only[E,F,J,M,R,Tz,V,X,Y,reduceIte,G,H,sz]
   refine WO.call (.bool (isKey k)) (ds:=D17_) rfl rfl rfl rfl co107 (fun ρ w1 hb=>rKey_spec w1 k) ?_
   refine WO.go 2 (ds:=D17_) rfl ?_
   simp only[E,F,J,M,R,Tz,V,X,Y,reduceIte,G,H,sz]
   refine WO.nil ?_
   refine⟨rfl,?_,⟨_,rfl⟩,by simp[Own.bnd,bndL,bnd,boxO],by simp⟩
   try rw[hg13]
   simp[getE,bnd,keepE]
   try simp_all [okI]
 ·
  simp only[E,F,J,M,R,Tz,V,X,Y,reduceIte,sxk,G,H,sz]
  refine W.cond rfl rfl (fun hc=>?_) fun hc=>?_
  ·
   have hok:(okI a b lo hi k)=false:=by simpa only [Bool.not_eq_true'] using hc
   refine W.pure dn fun K5 k5=>?_
   simp only[E,F,J,M,R,Tz,V,X,Y,reduceIte,G,H,sz];refine k5 _ ?_
   refine W.ret ⟨by simp,_,rfl,fun ρ w1 hb=>?_⟩
   rw[keyF_no hok];rfl
  ·
   have hok:(okI a b lo hi k)=true:=by simpa only [Bool.not_eq_false'] using hc
   refine W.skip (k3 _ ?_)
   refine W.seqK fun K6 k6=>W.region ?_
   refine WO.go 2 dn ?_
   simp only[E,F,J,M,R,Tz,V,X,Y,reduceIte,G,H,sz]
   refine WO.call (.tuple #[iv (mvI a b k).1,.agg #[iv (mvI a b k).2.1,iv (mvI a b k).2.2]]) dn rfl rfl rfl co108 (fun ρ w1 hb=>rshift_spec w1 q a b lo hi k hok) ?_
   refine WO.go 6 dn ?_
   simp only[E,F,J,M,R,Tz,V,X,Y,reduceIte,G,H,sz]
   refine WO.nil ?_
   refine k6 _ ?_
   refine W.pure dn fun K7 k7=>?_
   simp only[E,F,J,M,R,Tz,V,X,Y,reduceIte,G,H,sz];refine k7 _ ?_
   refine W.ret ⟨by simp,_,rfl,fun ρ w1 hb=>?_⟩
   rw[keyF_yes hok];rfl
end Go.Proofs.YtolmeekbjonbcaaGreatDoor
namespace Go.Proofs.YtolmeekbjonbcaaGreatDoor
open Go Go.SX
variable [Drw]
theorem write_back {a b k:Int} {lo hi c:Pit} (h:(writeF a b lo hi k c).2=0):soundF a b lo hi k (writeF a b lo hi k c).1=(c,0)∧validP (writeF a b lo hi k c).1=true:=by
 cases hv:(okI a b lo hi k && validP c) with
 | false=>rw[writeF_no hv] at h;simp at h
 |
  true=>
  rw[writeF_yes hv] at h ⊢
  have e:addF c (mvI a b k).2.1 (mvI a b k).2.2=((addF c (mvI a b k).2.1 (mvI a b k).2.2).1,0):=Prod.ext rfl h
  have hx:=(addF_ok e).2.2.1
  simp only[Bool.and_eq_true] at hv
  exact⟨by rw[soundF_yes (by rw[hv.1,hx];rfl)];exact addF_back e,hx⟩
theorem write_ok {a b k:Int} {lo hi c:Pit} (hok:okI a b lo hi k=true) (hc:validP c=true) (ha:-2≤c.2.1∧c.2.1≤2) (ho:-2≤c.2.2∧c.2.2≤11):writeF a b lo hi k c=(addP c (mvI a b k).2.1 (mvI a b k).2.2,0):=by
 obtain⟨t,h1,h2,h3,h4,h5,h6,h7⟩:=ok_fact hok
 have hk:=within_iff.1 h6
 have hw:=written_iff.1 h7
 have hs:=(validP_iff.1 hc).1
 rw[writeF_yes (by rw[hok,hc];rfl),h2]
 refine addF_of hc h5 (validP_iff.2 ⟨add_step _ _ _,?_,?_⟩)
 ·
  have:=add_alter (p:=c) (a:=-a+t) (b:=-b) (d:=7*-b - 12*(-a+t)) hs rfl (by omega)
  simp only;omega
 ·
  have:=add_oct (p:=c) (a:=-a+t) (b:=-b) hs (by omega)
  simp only;omega
end Go.Proofs.YtolmeekbjonbcaaGreatDoor
