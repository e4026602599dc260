/-
  Maps from integers to values: any lookup, and how many keys there are.
-/
import Derived.Test.YtolmeekbjonbcaaGreatDoorC2
import Derived.Scope
import Derived.Lib.SliceRun
set_option linter.unusedVariables false
set_option linter.unusedSimpArgs false
set_option linter.unusedSectionVars false
set_option linter.defProp false
set_option linter.unnecessarySimpa false
set_option maxHeartbeats 4000000
set_option maxRecDepth 8000
namespace Go.Proofs.YtolmeekbjonbcaaGreatDoor
open Go Go.SX Go.RowKit
variable [Drw]
abbrev Rt:=Int×Int
structure Br where
 id:Int
 len:Rt
 key:Int
 deriving DecidableEq
structure Pt where
 id:Int
 sec:Int
 src:Int
 oct:Int
 desks:Int
 sa:Int
 sb:Int
 low:Pit
 high:Pit
 deriving DecidableEq
structure Nt where
 id:Int
 part:Int
 bar:Int
 voice:Int
 ossia:Int
 start:Rt
 len:Rt
 pit:Pit
 deriving DecidableEq
structure Wt where
 id:Int
 voice:Int
 ossia:Int
 start:Rt
 len:Rt
 pit:Pit
 deriving DecidableEq
structure Ms where
 bar:Int
 key:Int
 len:Rt
 notes:List Wt
structure Vw where
 part:Int
 ms:List Ms
structure Sc where
 ver:Int
 bars:List Br
 parts:List Pt
 notes:List Nt
structure Ed where
 kind:Int
 clock:Int
 who:Int
 note:Nt
 deriving DecidableEq
def brV (b:Br):List Value:=[.int .i64 b.id,.int .i64 b.len.1,.int .i64 b.len.2,.int .i64 b.key]
def ptV (p:Pt):List Value:=[.int .i64 p.id,.int .i64 p.sec,.int .i64 p.src,.int .i64 p.oct,.int .i64 p.desks,.int .i64 p.sa,.int .i64 p.sb,.int .i64 p.low.1,.int .i64 p.low.2.1,.int .i64 p.low.2.2,.int .i64 p.high.1,.int .i64 p.high.2.1,.int .i64 p.high.2.2]
def ntV (n:Nt):List Value:=[.int .i64 n.id,.int .i64 n.part,.int .i64 n.bar,.int .i64 n.voice,.int .i64 n.ossia,.int .i64 n.start.1,.int .i64 n.start.2,.int .i64 n.len.1,.int .i64 n.len.2,.int .i64 n.pit.1,.int .i64 n.pit.2.1,.int .i64 n.pit.2.2]
def wtV (n:Wt):List Value:=[.int .i64 n.id,.int .i64 n.voice,.int .i64 n.ossia,.int .i64 n.start.1,.int .i64 n.start.2,.int .i64 n.len.1,.int .i64 n.len.2,.int .i64 n.pit.1,.int .i64 n.pit.2.1,.int .i64 n.pit.2.2]
def edV (x:Ed):List Value:=[.int .i64 x.kind,.int .i64 x.clock,.int .i64 x.who]++ntV x.note
def flatR {α:Type} (k:Nat) (V:α→List Value) (h:∀ x,(V x).length=k):Rp α where
 sz:=k
 rd _ _ cs x:=cs=V x
 len hx:=by subst hx;exact h _
 frame hx _:=hx
 mono hx _:=hx
def mapR {α β:Type} (f:α→β) (A:Rp α):Rp β where
 sz:=A.sz
 rd S w cs y:=∃ x,f x=y∧A.rd S w cs x
 len h:=by obtain⟨x,_,h⟩:=h;exact A.len h
 frame h hb:=by obtain⟨x,e,h⟩:=h;exact⟨x,e,A.frame h hb⟩
 mono h hb:=by obtain⟨x,e,h⟩:=h;exact⟨x,e,A.mono h hb⟩
theorem slice_to {α β:Type} {A:Rp α} {B:Rp β} {S:Nat→Prop} {w:World} (f:α→β) (hsz:A.sz=B.sz) (hf:∀ cs x,A.rd S w cs x→B.rd S w cs (f x)) {v:Value} {l:List α} (h:(Rp.slice A).rd S w [v] l):(Rp.slice B).rd S w [v] (l.map f):=by
 obtain⟨p,n,c,hv,hn,h2,h3,h4⟩:=h
 refine⟨p,n,c,hv,by simp[hn],h2,h3,?_⟩
 rcases h4 with rfl | ⟨a,rfl,h5,h6,h7⟩
 · exact .inl rfl
 ·
  refine .inr ⟨a,rfl,h5,h6,fun i y hy=>?_⟩
  rw[List.getElem?_map,Option.map_eq_some_iff] at hy
  obtain⟨x,hx,rfl⟩:=hy
  obtain⟨ces,q1,q2⟩:=h7 i x hx
  exact⟨ces,by rw[← hsz];exact q1,hf _ _ q2⟩
def rBr:Rp Br:=flatR 4 brV fun _=>rfl
def rPt:Rp Pt:=flatR 13 ptV fun _=>rfl
def rNt:Rp Nt:=flatR 12 ntV fun _=>rfl
def rWt:Rp Wt:=flatR 10 wtV fun _=>rfl
def rEd:Rp Ed:=flatR 15 edV fun _=>rfl
def rBrs:Rp (List Br):=Rp.slice rBr
def rPts:Rp (List Pt):=Rp.slice rPt
def rNts:Rp (List Nt):=Rp.slice rNt
def rWts:Rp (List Wt):=Rp.slice rWt
def rEds:Rp (List Ed):=Rp.slice rEd
def rMs:Rp Ms:=mapR (fun x:Int×Int×Int×Int×List Wt=>⟨x.1,x.2.1,(x.2.2.1,x.2.2.2.1),x.2.2.2.2⟩) (Rp.pair rInt (Rp.pair rInt (Rp.pair rInt (Rp.pair rInt rWts))))
def rMss:Rp (List Ms):=Rp.slice rMs
theorem rMs_open {S:Nat→Prop} {w:World} {ces:List Value} {m:Ms} (h:rMs.rd S w ces m):∃ p c,ces=[.int .i64 m.bar,.int .i64 m.key,.int .i64 m.len.1,.int .i64 m.len.2,.slice p m.notes.length c]∧rWts.rd S w [.slice p m.notes.length c] m.notes:=by
 obtain⟨x,rfl,c1,c2,rfl,h1,d1,d2,rfl,h2,e1,e2,rfl,h3,f1,f2,rfl,h4,h5⟩:=h
 have h1:c1=[_]:=h1
 have h2:d1=[_]:=h2
 have h3:e1=[_]:=h3
 have h4:f1=[_]:=h4
 subst h1;subst h2;subst h3;subst h4
 obtain⟨p,n,c,hv,hn,h6⟩:=h5
 subst hv;subst hn
 exact⟨p,c,rfl,p,_,c,rfl,rfl,h6⟩
theorem rMs_mk {S:Nat→Prop} {w:World} {m:Ms} {p:Option Addr} {n c:Nat} (h:rWts.rd S w [.slice p n c] m.notes):rMs.rd S w [.int .i64 m.bar,.int .i64 m.key,.int .i64 m.len.1,.int .i64 m.len.2,.slice p n c] m:=
 ⟨(m.bar,m.key,m.len.1,m.len.2,m.notes),rfl,[_],_,rfl,rfl,[_],_,rfl,rfl,[_],_,rfl,rfl,[_],_,rfl,rfl,h⟩
def rowV {α:Type} (V:α→List Value) (l:List α):List Value:=l.flatMap V
section
variable {α:Type} {f:α→List Value} {k:Nat}
theorem row_app (a b:List α):rowV f (a++b)=rowV f a++rowV f b:=List.flatMap_append
theorem row_snoc (a:List α) (y:α):rowV f (a++[y])=rowV f a++f y:=by rw[row_app];simp[rowV]
theorem flat_at (hf:∀ x,(f x).length=k):∀ (xs:List α) (i:Nat) (y:α),xs[i]?=some y→((rowV f xs).drop (i*k)).take k=f y
 | [],i,y,h=>by simp at h
 |
  x::xs,0,y,h=>by
  simp only[List.getElem?_cons_zero,Option.some.injEq] at h
  subst h
  rw[Nat.zero_mul,List.drop_zero,rowV,List.flatMap_cons]
  exact List.take_left' (hf x)
 |
  x::xs,i+1,y,h=>by
  have h1:=flat_at hf xs i y (by simpa using h)
  rw[rowV,List.flatMap_cons,List.drop_append,List.drop_eq_nil_of_le (by rw[hf x,Nat.add_mul];omega),List.nil_append,hf x,show(i+1)*k - k=i*k by rw[Nat.add_mul];omega]
  exact h1
theorem row_len (hf:∀ x,(f x).length=k):∀ xs:List α,(rowV f xs).length=xs.length*k
 | []=>by simp[rowV]
 | x::xs=>by rw[rowV,List.flatMap_cons,List.length_append,← rowV,row_len hf xs,hf x,List.length_cons,Nat.add_mul];omega
theorem flat_eq (hf:∀ x,(f x).length=k):∀ (xs:List α) (olds:List Value),olds.length=xs.length*k→(∀ i y,xs[i]?=some y→(olds.drop (i*k)).take k=f y)→olds=rowV f xs
 | [],olds,h,_=>by rw[List.length_nil,Nat.zero_mul] at h;exact List.length_eq_zero_iff.1 h
 |
  x::xs,olds,h,hg=>by
  have h1:=hg 0 x rfl
  rw[Nat.zero_mul,List.drop_zero] at h1
  have h2:=flat_eq hf xs (olds.drop k) (by rw[List.length_drop,h,List.length_cons,Nat.add_mul];omega) fun i y hy=>by
   have:=hg (i+1) y (by simpa using hy)
   rw[List.drop_drop]
   rwa [show k+i*k=(i+1)*k by rw[Nat.add_mul];omega]
  rw[← List.take_append_drop k olds,h1,h2]
  rfl
theorem row_take (hf:∀ x,(f x).length=k) (xs:List α) (i:Nat):(rowV f xs).take (i*k)=rowV f (xs.take i):=by
 by_cases h:i≤xs.length
 ·
  have h1:rowV f xs=rowV f (xs.take i)++rowV f (xs.drop i):=by rw[← row_app,List.take_append_drop]
  rw[h1]
  exact List.take_left' (by rw[row_len hf,List.length_take,Nat.min_eq_left h])
 · rw[List.take_of_length_le (by rw[row_len hf];exact Nat.mul_le_mul_right _ (by omega)),List.take_of_length_le (l:=xs) (by omega)]
theorem row_drop (hf:∀ x,(f x).length=k) (xs:List α) (i:Nat):(rowV f xs).drop (i*k)=rowV f (xs.drop i):=by
 by_cases h:i≤xs.length
 ·
  have h1:rowV f xs=rowV f (xs.take i)++rowV f (xs.drop i):=by rw[← row_app,List.take_append_drop]
  rw[h1]
  exact List.drop_left' (by rw[row_len hf,List.length_take,Nat.min_eq_left h])
 · rw[List.drop_of_length_le (by rw[row_len hf];exact Nat.mul_le_mul_right _ (by omega)),List.drop_of_length_le (l:=xs) (by omega)];rfl
theorem row_one (hf:∀ x u,u∈f x→u.oneCell'=true) (xs:List α):∀ u,u∈rowV f xs→u.oneCell'=true:=fun u hu=>by
 obtain⟨x,_,hx⟩:=List.mem_flatMap.1 hu
 exact hf x u hx
theorem flat_read {h:∀ x,(f x).length=k} {S:Nat→Prop} {w:World} (xs:List α):∀ i y,xs[i]?=some y→(flatR k f h).rd S w (((rowV f xs).drop (i*(flatR k f h).sz)).take (flatR k f h).sz) y:=fun i y hy=>flat_at h xs i y hy
theorem flat_cells {h:∀ x,(f x).length=k} {S:Nat→Prop} {w:World} {p:Option Addr} {n c:Nat} {xs:List α} (hr:(Rp.slice (flatR k f h)).rd S w [.slice p n c] xs) (hne:0<n):∃ a,p=some a∧S a.block∧a.block<w.heap.size∧n=xs.length∧At w a (rowV f xs):=by
 have hn:n=xs.length:=by
  obtain⟨p',n',c',hv,h2,_⟩:=hr
  simp only[List.cons.injEq,and_true,Value.slice.injEq] at hv
  omega
 rcases Rp.slice_cells hr with h0 | ⟨a,olds,h1,h2,h3,h4,h5,h6,h7⟩
 · rw[h0] at hn;simp at hn;omega
 ·
  refine⟨a,h1,h3,h4,h2,?_⟩
  rw[← flat_eq h xs olds (by rw[h5,hn];rfl) fun i y hy=>h7 i y hy]
  exact h6
theorem flat_own {h:∀ x,(f x).length=k} {ρ:Nat→Nat} {σ:St} {w:World} {j T n c m:Nat} {q:Option Addr} {ys:List Value} {xs:List α} {S:Nat→Prop} (hb:Base ρ σ w) (hk:nth σ.own j=some (.slice T k (.slice q n c) n ys)) (hm:ys.take (m*k)=rowV f xs) (hfm:xs.length=m) (hmn:m≤n)
  (hS:∀ b,(Own.slice T k (.slice q n c) n ys:SX.Own).num ρ j=some b→S b):(Rp.slice (flatR k f h)).rd S w [.slice q m c] xs:=by
 have hown:=hb.own j _ (by rw[← nth_eq];exact hk) ρ (Agree.refl _ _)
 simp only[Own.holds] at hown
 rcases hown.2 with⟨hv,hn0⟩ | ⟨g,cap,cur,hv,hbg,hcell,hnc,hcm,hcs,htake⟩
 ·
  simp only[Value.slice.injEq] at hv
  have h0:m=0:=by omega
  subst h0
  rw[List.length_eq_zero_iff.1 hfm]
  exact Rp.slice_nil (by omega)
 ·
  simp only[Value.slice.injEq] at hv
  obtain⟨rfl,_,rfl⟩:=hv
  have h1:=row_at (k:=j) (b:=g) (T:=T) (sz:=k) (n:=n) (c:=c) (xs:=ys) (off:=0) (m:=m*k) (ys:=rowV f xs) hb hk (by rw[List.drop_zero];exact hm)
  rw[maxLen_eq] at hcm
  exact Rp.slice_mk (A:=flatR k f h) (rowV f xs) hfm.symm (by omega) (by omega) (hS g rfl) (Array.getElem?_eq_some_iff.1 hcell).1 h1 (flat_read xs)
end
abbrev Sl:=Option Addr×Nat
structure ScA where
 b:Sl
 p:Sl
 n:Sl
def scV (a:ScA) (s:Sc):Value:=.agg #[.int .i64 s.ver,.slice a.b.1 s.bars.length a.b.2,.slice a.p.1 s.parts.length a.p.2,.slice a.n.1 s.notes.length a.n.2]
structure ScR (S:Nat→Prop) (w:World) (a:ScA) (s:Sc):Prop where
 b:rBrs.rd S w [.slice a.b.1 s.bars.length a.b.2] s.bars
 p:rPts.rd S w [.slice a.p.1 s.parts.length a.p.2] s.parts
 n:rNts.rd S w [.slice a.n.1 s.notes.length a.n.2] s.notes
section
variable {S S':Nat→Prop} {w w':World} {a:ScA} {s:Sc}
theorem ScR.keep (h:ScR S w a s) (hk:Keep S w w'):ScR S w' a s:=⟨Rp.keep h.b hk,Rp.keep h.p hk,Rp.keep h.n hk⟩
theorem ScR.any (h:ScR S w a s):ScR (fun _=>True) w a s:=⟨Rp.any h.b,Rp.any h.p,Rp.any h.n⟩
theorem ScR.now (h:ScR S w a s) (hk:Keep (fun _=>True) w w'):ScR S w' a s:=⟨Rp.now h.b hk,Rp.now h.p hk,Rp.now h.n hk⟩
end
def vwV (a:Sl) (v:Vw):Value:=.agg #[.int .i64 v.part,.slice a.1 v.ms.length a.2]
end Go.Proofs.YtolmeekbjonbcaaGreatDoor
namespace Go.Proofs.YtolmeekbjonbcaaGreatDoor
open Go Go.SX Go.RowKit
variable [Drw]
open Int renaming reduceEq → E, reduceLT → F, reduceBEq → G, reduceBNe → H, reduceNeg → Z1, reduceGT → Z2, reduceLE → Z3, reduceGE → Z4, reduceMul → Z5, reduceMod → Z6, reduceAdd → Z7, reduceTMod → Z8, reduceTDiv → Z9
open Nat renaming reduceAdd → J, reduceSub → M, reduceMul → R, reduceLT → Tz, reduceLeDiff → V, reduceEqDiff → X
open List renaming reduceReplicate → Y
abbrev scl (a:ScA) (s:Sc):List Value:=[.int .i64 s.ver,.slice a.b.1 s.bars.length a.b.2,.slice a.p.1 s.parts.length a.p.2,.slice a.n.1 s.notes.length a.n.2]
abbrev scw (a:ScA) (s:Sc):List SV:=[.val (.int .i64 s.ver),.val (.slice a.b.1 s.bars.length a.b.2),.val (.slice a.p.1 s.parts.length a.p.2),.val (.slice a.n.1 s.notes.length a.n.2)]
abbrev ptq (p:Pt):Value:=.agg #[.int .i64 p.id,.int .i64 p.sec,.int .i64 p.src,.int .i64 p.oct,.int .i64 p.desks,.int .i64 p.sa,.int .i64 p.sb,.int .i64 p.low.1,.int .i64 p.low.2.1,.int .i64 p.low.2.2,.int .i64 p.high.1,.int .i64 p.high.2.1,.int .i64 p.high.2.2]
abbrev ntq (p:Nt):Value:=.agg #[.int .i64 p.id,.int .i64 p.part,.int .i64 p.bar,.int .i64 p.voice,.int .i64 p.ossia,.int .i64 p.start.1,.int .i64 p.start.2,.int .i64 p.len.1,.int .i64 p.len.2,.int .i64 p.pit.1,.int .i64 p.pit.2.1,.int .i64 p.pit.2.2]
abbrev ptw (p:Pt):List SV:=[.val (.int .i64 p.id),.val (.int .i64 p.sec),.val (.int .i64 p.src),.val (.int .i64 p.oct),.val (.int .i64 p.desks),.val (.int .i64 p.sa),.val (.int .i64 p.sb),.val (.int .i64 p.low.1),.val (.int .i64 p.low.2.1),.val (.int .i64 p.low.2.2),.val (.int .i64 p.high.1),.val (.int .i64 p.high.2.1),.val (.int .i64 p.high.2.2)]
abbrev ntw (p:Nt):List SV:=[.val (.int .i64 p.id),.val (.int .i64 p.part),.val (.int .i64 p.bar),.val (.int .i64 p.voice),.val (.int .i64 p.ossia),.val (.int .i64 p.start.1),.val (.int .i64 p.start.2),.val (.int .i64 p.len.1),.val (.int .i64 p.len.2),.val (.int .i64 p.pit.1),.val (.int .i64 p.pit.2.1),.val (.int .i64 p.pit.2.2)]
theorem r8in_spec (w:World) (n lo hi:Int):Gives Tryz.prog 52 #[iv n,iv lo,iv hi] w fun r _=>r=.bool (within lo hi n):=by
 refine gives_of [wv n,wv lo,wv hi] 15 [.tmp 6] Tryz.func52 rfl rfl rfl (by simp) rfl rfl ?_
 refine W.pure dn fun K1 k1=>?_
 simp only[E,F,J,M,R,Tz,V,X,Y,reduceIte,G,H,sz];refine k1 _ ?_
 refine W.join 6 (.val (.bool (decide (lo≤n) && decide (n≤hi)))) [] (W.region ?_) ?_
 ·
  refine WO.go 4 (ds:=D1_) rfl ?_
  simp only[E,F,J,M,R,Tz,V,X,Y,reduceIte,G,H,sz]
  refine WO.cases 10 _ rfl (fun hg10=>?_) fun hg10=>?_
  ·
   refine WO.go 5 (ds:=D1_) rfl ?_
   simp only[E,F,J,M,R,Tz,V,X,Y,reduceIte,G,H,sz]
   refine WO.nil ?_
   refine⟨rfl,?_,⟨_,rfl⟩,by simp[Own.bnd,bndL,bnd,boxO],by simp⟩
   try rw[hg10]
   simp[getE,bnd,keepE]
  ·
   refine WO.go 5 (ds:=D1_) rfl ?_
   simp only[E,F,J,M,R,Tz,V,X,Y,reduceIte,G,H,sz]
   refine WO.nil ?_
   refine⟨rfl,?_,⟨_,rfl⟩,by simp[Own.bnd,bndL,bnd,boxO],by simp⟩
   try rw[hg10]
   simp[getE,bnd,keepE]
 ·
  simp only[E,F,J,M,R,Tz,V,X,Y,reduceIte,sxk,G,H,sz]
  refine W.ret ⟨by simp,_,rfl,fun ρ w1 hb=>?_⟩
  rfl
theorem r14in_spec (w:World) (n lo hi:Int):Gives Tryz.prog 57 #[iv n,iv lo,iv hi] w fun r _=>r=.bool (within lo hi n):=by
 refine gives_of [wv n,wv lo,wv hi] 15 [.tmp 6] Tryz.func57 rfl rfl rfl (by simp) rfl rfl ?_
 refine W.pure dn fun K1 k1=>?_
 simp only[E,F,J,M,R,Tz,V,X,Y,reduceIte,G,H,sz];refine k1 _ ?_
 refine W.join 6 (.val (.bool (decide (lo≤n) && decide (n≤hi)))) [] (W.region ?_) ?_
 ·
  refine WO.go 4 (ds:=D1_) rfl ?_
  simp only[E,F,J,M,R,Tz,V,X,Y,reduceIte,G,H,sz]
  refine WO.cases 10 _ rfl (fun hg10=>?_) fun hg10=>?_
  ·
   refine WO.go 5 (ds:=D1_) rfl ?_
   simp only[E,F,J,M,R,Tz,V,X,Y,reduceIte,G,H,sz]
   refine WO.nil ?_
   refine⟨rfl,?_,⟨_,rfl⟩,by simp[Own.bnd,bndL,bnd,boxO],by simp⟩
   try rw[hg10]
   simp[getE,bnd,keepE]
  ·
   refine WO.go 5 (ds:=D1_) rfl ?_
   simp only[E,F,J,M,R,Tz,V,X,Y,reduceIte,G,H,sz]
   refine WO.nil ?_
   refine⟨rfl,?_,⟨_,rfl⟩,by simp[Own.bnd,bndL,bnd,boxO],by simp⟩
   try rw[hg10]
   simp[getE,bnd,keepE]
 ·
  simp only[E,F,J,M,R,Tz,V,X,Y,reduceIte,sxk,G,H,sz]
  refine W.ret ⟨by simp,_,rfl,fun ρ w1 hb=>?_⟩
  rfl
theorem r7in_spec (w:World) (n lo hi:Int):Gives Tryz.prog 159 #[iv n,iv lo,iv hi] w fun r _=>r=.bool (within lo hi n):=by
 refine gives_of [wv n,wv lo,wv hi] 15 [.tmp 6] Tryz.func159 rfl rfl rfl (by simp) rfl rfl ?_
 refine W.pure dn fun K1 k1=>?_
 simp only[E,F,J,M,R,Tz,V,X,Y,reduceIte,G,H,sz];refine k1 _ ?_
 refine W.join 6 (.val (.bool (decide (lo≤n) && decide (n≤hi)))) [] (W.region ?_) ?_
 ·
  refine WO.go 4 (ds:=D1_) rfl ?_
  simp only[E,F,J,M,R,Tz,V,X,Y,reduceIte,G,H,sz]
  refine WO.cases 10 _ rfl (fun hg10=>?_) fun hg10=>?_
  ·
   refine WO.go 5 (ds:=D1_) rfl ?_
   simp only[E,F,J,M,R,Tz,V,X,Y,reduceIte,G,H,sz]
   refine WO.nil ?_
   refine⟨rfl,?_,⟨_,rfl⟩,by simp[Own.bnd,bndL,bnd,boxO],by simp⟩
   try rw[hg10]
   simp[getE,bnd,keepE]
  ·
   refine WO.go 5 (ds:=D1_) rfl ?_
   simp only[E,F,J,M,R,Tz,V,X,Y,reduceIte,G,H,sz]
   refine WO.nil ?_
   refine⟨rfl,?_,⟨_,rfl⟩,by simp[Own.bnd,bndL,bnd,boxO],by simp⟩
   try rw[hg10]
   simp[getE,bnd,keepE]
 ·
  simp only[E,F,J,M,R,Tz,V,X,Y,reduceIte,sxk,G,H,sz]
  refine W.ret ⟨by simp,_,rfl,fun ρ w1 hb=>?_⟩
  rfl
theorem vwithin_spec (w:World) (n lo hi:Int):Gives Tryz.prog 118 #[iv n,iv lo,iv hi] w fun r _=>r=.bool (within lo hi n):=by
 refine gives_of [wv n,wv lo,wv hi] 15 [.tmp 6] Tryz.func118 rfl rfl rfl (by simp) rfl rfl ?_
 refine W.pure dn fun K1 k1=>?_
 simp only[E,F,J,M,R,Tz,V,X,Y,reduceIte,G,H,sz];refine k1 _ ?_
 refine W.join 6 (.val (.bool (decide (lo≤n) && decide (n≤hi)))) [] (W.region ?_) ?_
 ·
  refine WO.go 4 (ds:=D1_) rfl ?_
  simp only[E,F,J,M,R,Tz,V,X,Y,reduceIte,G,H,sz]
  refine WO.cases 10 _ rfl (fun hg10=>?_) fun hg10=>?_
  ·
   refine WO.go 5 (ds:=D1_) rfl ?_
   simp only[E,F,J,M,R,Tz,V,X,Y,reduceIte,G,H,sz]
   refine WO.nil ?_
   refine⟨rfl,?_,⟨_,rfl⟩,by simp[Own.bnd,bndL,bnd,boxO],by simp⟩
   try rw[hg10]
   simp[getE,bnd,keepE]
  ·
   refine WO.go 5 (ds:=D1_) rfl ?_
   simp only[E,F,J,M,R,Tz,V,X,Y,reduceIte,G,H,sz]
   refine WO.nil ?_
   refine⟨rfl,?_,⟨_,rfl⟩,by simp[Own.bnd,bndL,bnd,boxO],by simp⟩
   try rw[hg10]
   simp[getE,bnd,keepE]
 ·
  simp only[E,F,J,M,R,Tz,V,X,Y,reduceIte,sxk,G,H,sz]
  refine W.ret ⟨by simp,_,rfl,fun ρ w1 hb=>?_⟩
  rfl
theorem swithin_spec (w:World) (n lo hi:Int):Gives Tryz.prog 123 #[iv n,iv lo,iv hi] w fun r _=>r=.bool (within lo hi n):=by
 refine gives_of [wv n,wv lo,wv hi] 15 [.tmp 6] Tryz.func123 rfl rfl rfl (by simp) rfl rfl ?_
 refine W.pure dn fun K1 k1=>?_
 simp only[E,F,J,M,R,Tz,V,X,Y,reduceIte,G,H,sz];refine k1 _ ?_
 refine W.join 6 (.val (.bool (decide (lo≤n) && decide (n≤hi)))) [] (W.region ?_) ?_
 ·
  refine WO.go 4 (ds:=D1_) rfl ?_
  simp only[E,F,J,M,R,Tz,V,X,Y,reduceIte,G,H,sz]
  refine WO.cases 10 _ rfl (fun hg10=>?_) fun hg10=>?_
  ·
   refine WO.go 5 (ds:=D1_) rfl ?_
   simp only[E,F,J,M,R,Tz,V,X,Y,reduceIte,G,H,sz]
   refine WO.nil ?_
   refine⟨rfl,?_,⟨_,rfl⟩,by simp[Own.bnd,bndL,bnd,boxO],by simp⟩
   try rw[hg10]
   simp[getE,bnd,keepE]
  ·
   refine WO.go 5 (ds:=D1_) rfl ?_
   simp only[E,F,J,M,R,Tz,V,X,Y,reduceIte,G,H,sz]
   refine WO.nil ?_
   refine⟨rfl,?_,⟨_,rfl⟩,by simp[Own.bnd,bndL,bnd,boxO],by simp⟩
   try rw[hg10]
   simp[getE,bnd,keepE]
 ·
  simp only[E,F,J,M,R,Tz,V,X,Y,reduceIte,sxk,G,H,sz]
  refine W.ret ⟨by simp,_,rfl,fun ρ w1 hb=>?_⟩
  rfl
theorem nwithin_spec (w:World) (n lo hi:Int):Gives Tryz.prog 173 #[iv n,iv lo,iv hi] w fun r _=>r=.bool (within lo hi n):=by
 refine gives_of [wv n,wv lo,wv hi] 15 [.tmp 6] Tryz.func173 rfl rfl rfl (by simp) rfl rfl ?_
 refine W.pure dn fun K1 k1=>?_
 simp only[E,F,J,M,R,Tz,V,X,Y,reduceIte,G,H,sz];refine k1 _ ?_
 refine W.join 6 (.val (.bool (decide (lo≤n) && decide (n≤hi)))) [] (W.region ?_) ?_
 ·
  refine WO.go 4 (ds:=D1_) rfl ?_
  simp only[E,F,J,M,R,Tz,V,X,Y,reduceIte,G,H,sz]
  refine WO.cases 10 _ rfl (fun hg10=>?_) fun hg10=>?_
  ·
   refine WO.go 5 (ds:=D1_) rfl ?_
   simp only[E,F,J,M,R,Tz,V,X,Y,reduceIte,G,H,sz]
   refine WO.nil ?_
   refine⟨rfl,?_,⟨_,rfl⟩,by simp[Own.bnd,bndL,bnd,boxO],by simp⟩
   try rw[hg10]
   simp[getE,bnd,keepE]
  ·
   refine WO.go 5 (ds:=D1_) rfl ?_
   simp only[E,F,J,M,R,Tz,V,X,Y,reduceIte,G,H,sz]
   refine WO.nil ?_
   refine⟨rfl,?_,⟨_,rfl⟩,by simp[Own.bnd,bndL,bnd,boxO],by simp⟩
   try rw[hg10]
   simp[getE,bnd,keepE]
 ·
  simp only[E,F,J,M,R,Tz,V,X,Y,reduceIte,sxk,G,H,sz]
  refine W.ret ⟨by simp,_,rfl,fun ρ w1 hb=>?_⟩
  rfl
theorem sisID_spec (w:World) (n:Int):Gives Tryz.prog 69 #[iv n] w fun r _=>r=.bool (within 1 1000000 n):=by
 refine gives_of [wv n] 5 [.tmp 2] Tryz.func69 rfl rfl rfl (by simp) rfl rfl ?_
 refine W.pure dn fun K1 k1=>?_
 simp only[E,F,J,M,R,Tz,V,X,Y,reduceIte,G,H,sz];refine k1 _ ?_
 refine W.seqK fun K2 k2=>W.region ?_
 refine WO.go 1 dn ?_
 simp only[E,F,J,M,R,Tz,V,X,Y,reduceIte,G,H,sz]
 refine WO.call (.bool (within 1 1000000 n)) dn rfl rfl rfl co123 (fun ρ w1 hb=>swithin_spec w1 _ _ _) ?_
 refine WO.go 1 dn ?_
 simp only[E,F,J,M,R,Tz,V,X,Y,reduceIte,G,H,sz]
 refine WO.nil ?_
 refine k2 _ ?_
 refine W.ret ⟨by simp,_,rfl,fun ρ w1 hb=>?_⟩
 rfl
theorem nisID_spec (w:World) (n:Int):Gives Tryz.prog 172 #[iv n] w fun r _=>r=.bool (within 1 1000000 n):=by
 refine gives_of [wv n] 5 [.tmp 2] Tryz.func172 rfl rfl rfl (by simp) rfl rfl ?_
 refine W.pure dn fun K1 k1=>?_
 simp only[E,F,J,M,R,Tz,V,X,Y,reduceIte,G,H,sz];refine k1 _ ?_
 refine W.seqK fun K2 k2=>W.region ?_
 refine WO.go 1 dn ?_
 simp only[E,F,J,M,R,Tz,V,X,Y,reduceIte,G,H,sz]
 refine WO.call (.bool (within 1 1000000 n)) dn rfl rfl rfl co173 (fun ρ w1 hb=>nwithin_spec w1 _ _ _) ?_
 refine WO.go 1 dn ?_
 simp only[E,F,J,M,R,Tz,V,X,Y,reduceIte,G,H,sz]
 refine WO.nil ?_
 refine k2 _ ?_
 refine W.ret ⟨by simp,_,rfl,fun ρ w1 hb=>?_⟩
 rfl
theorem tmodN (x y:Nat):(x:Int).tmod (y:Int)=((x % y:Nat):Int):=by rw[← Int.ofNat_eq_natCast,← Int.ofNat_eq_natCast];rfl
def okT (r:Rt):Bool:=decide (1≤r.2) && (decide ((1680:Int).tmod r.2=0) && (decide (0≤r.1) && (decide (r.1≤1000000000) && decide (Nat.gcd r.1.toNat r.2.toNat=1))))
def tickF (r:Rt):Int:=if okT r=true then r.1*(1680:Int).tdiv r.2 else -1
theorem okT_iff {r:Rt}:okT r=true↔1≤r.2∧(1680:Int).tmod r.2=0∧0≤r.1∧r.1≤1000000000∧Nat.gcd r.1.toNat r.2.toNat=1:=by simp[okT]
theorem okT_le {r:Rt} (h:1≤r.2) (h2:(1680:Int).tmod r.2=0):r.2≤1680:=Int.le_of_dvd (by decide) (Int.dvd_of_tmod_eq_zero h2)
theorem quo_bound {d:Int} (h:1≤d):0≤(1680:Int).tdiv d∧(1680:Int).tdiv d≤1680:=by
 obtain⟨n,rfl⟩:=Int.eq_ofNat_of_zero_le (show 0≤d by omega)
 rw[show(1680:Int).tdiv ((n:Nat):Int)=((1680 / n:Nat):Int) from rfl]
 have h2:=Nat.div_le_self 1680 n
 generalize 1680 / n=q at *
 omega
theorem tick_mul {r:Rt} (h:okT r=true):0≤r.1*(1680:Int).tdiv r.2∧r.1*(1680:Int).tdiv r.2≤1680000000000:=by
 rw[okT_iff] at h
 have hq:=quo_bound h.1
 have h1:=Int.mul_le_mul h.2.2.2.1 hq.2 hq.1 (by omega)
 have h2:=Int.mul_nonneg h.2.2.1 hq.1
 omega
theorem tick_bound (r:Rt):-1≤tickF r∧tickF r≤1680000000000:=by
 unfold tickF
 split
 · rename_i h;have:=tick_mul h;omega
 · omega
theorem tick_nonneg (r:Rt):decide (0≤tickF r)=okT r:=by
 unfold tickF
 cases h:okT r with
 | true=>rw[if_pos rfl];exact decide_eq_true (tick_mul h).1
 | false=>rfl
theorem rgcd_spec (w:World) (a b:Nat) (ha:a≤1000000000000000000) (hb9:b≤1000000000000000000):Gives Tryz.prog 109 #[iv (a:Int),iv (b:Int)] w fun r _=>r=iv ((Nat.gcd a b:Nat):Int):=by
 refine gives_of [wv (a:Int),wv (b:Int)] 14 [.tmp 4] Tryz.func109 rfl rfl rfl (by simp) rfl rfl ?_
 refine W.pure dn fun K1 k1=>?_
 simp only[E,F,J,M,R,Tz,V,X,Y,reduceIte,G,H,sz];refine k1 _ ?_
 refine W.seqK fun K2 k2=>?_
 refine W.block ?_
 refine W.loopK (X:=Nat×Nat) [] (fun x=>[(0,wv (x.1:Int)),(1,wv (x.2:Int))]) (fun x=>Nat.gcd x.1 x.2=Nat.gcd a b∧x.1≤1000000000000000000∧x.2≤1000000000000000000) (fun x=>x.2) (a,b) ?_ ?_ ?_
 · exact⟨rfl,by simp[getE,bnd,keepE],⟨[],by simp⟩,by simp[Own.bnd,bndL,bnd,boxO],by simp⟩
 ·
  exact⟨rfl,ha,hb9⟩
 ·
  rintro⟨x,y⟩ ⟨hg,h1,h2⟩
  simp only at hg h1 h2
  simp only[E,F,J,M,R,Tz,V,X,Y,reduceIte,sxk,G,H,sz]
  refine W.seqK fun K3 k3=>?_
  refine W.pure dn fun K4 k4=>?_
  simp only[E,F,J,M,R,Tz,V,X,Y,reduceIte,G,H,sz];refine k4 _ ?_
  refine W.cond rfl rfl (fun hc=>?_) fun hc=>?_
  ·
   have hy:¬ (y:Int)=0:=by simpa using hc
   refine W.skip (k3 _ ?_)
   refine W.block ?_
   refine W.seqK fun K5 k5=>W.region ?_
   refine WO.go 2 dn ?_
   simp only[E,F,J,M,R,Tz,V,X,Y,reduceIte,G,H,sz]
   refine WO.go 1 dn ?_
   simp only[E,F,J,M,R,Tz,V,X,Y,reduceIte,G,H,if_neg hy,tmodN,sz]
   refine WO.go 1 dn ?_
   simp only[E,F,J,M,R,Tz,V,X,Y,reduceIte,G,H,sz]
   refine WO.nil ?_
   refine k5 _ ?_
   refine W.pure dn fun K6 k6=>?_
   simp only[E,F,J,M,R,Tz,V,X,Y,reduceIte,G,H,sz];refine k6 _ ?_
   refine W.region ?_
   refine WO.go 2 dn ?_
   simp only[E,F,J,M,R,Tz,V,X,Y,reduceIte,G,H,sz]
   refine WO.nil ?_
   have hlt:=Nat.mod_lt x (show 0<y by omega)
   refine⟨(y,x % y),⟨by simp only;rw[← hg,Nat.gcd_comm y (x % y),← Nat.gcd_rec,Nat.gcd_comm],h2,by simp only;omega⟩,by simp only;omega,rfl,by simp[getE,bnd,keepE],⟨[],by simp⟩,by simp[Own.bnd,bndL,bnd],by simp⟩
  ·
   have hy:y=0:=by have h0:(y:Int)=0:=(by simpa using hc);omega
   subst hy
   rw[Nat.gcd_zero_right] at hg
   refine W.exit (k2 _ ?_)
   refine W.pure dn fun K7 k7=>?_
   simp only[E,F,J,M,R,Tz,V,X,Y,reduceIte,G,H,sz];refine k7 _ ?_
   refine W.ret ⟨by simp,_,rfl,fun ρ w1 hb=>?_⟩
   rw[← hg];rfl
theorem okT_gcd {r:Rt}:((((decide (r.2<1) || ((1680:Int).tmod r.2 != 0)) || decide (r.1<0)) || decide (1000000000<r.1)) || (((Nat.gcd r.1.toNat r.2.toNat:Nat):Int) != 1))=!okT r:=by
 rw[Bool.eq_iff_iff,Bool.not_eq_true',← Bool.not_eq_true,okT_iff]
 simp only[Bool.or_eq_true,decide_eq_true_eq,bne_iff_ne]
 omega
abbrev D18_:List (Option Nat):=[some 3,some 4,some 5,some 6,some 7,some 8,some 9,some 10,some 11,some 12,some 13,some 14,some 15,some 16,some 17,some 18,some 19,some 20,some 21,some 22,some 23,some 24,some 25,some 26,some 27,some 28,some 29]
theorem rTicks_spec (w:World) (r:Rt):Gives Tryz.prog 58 #[.agg #[iv r.1,iv r.2]] w fun v _=>v=iv (tickF r):=by
 refine gives_of [.agg [wv r.1,wv r.2]] 36 [.tmp 2] Tryz.func58 rfl rfl rfl (by simp) rfl rfl ?_
 refine W.pure dn fun K1 k1=>?_
 simp only[E,F,J,M,R,Tz,V,X,Y,reduceIte,G,H,sz];refine k1 _ ?_
 refine W.seqK fun K2 k2=>?_
 refine W.join 29 (.val (.bool (!okT r))) [1] (W.region ?_) ?_
 ·
  refine WO.go 4 (ds:=D18_) rfl ?_
  simp only[E,F,J,M,R,Tz,V,X,Y,reduceIte,G,H,sz]
  refine WO.cases 6 _ rfl (fun hg6=>?_) fun hg6=>?_
  ·
   refine WO.go 23 (ds:=D18_) rfl ?_
   simp only[E,F,J,M,R,Tz,V,X,Y,reduceIte,G,H,sz]
   refine WO.nil ?_
   refine⟨rfl,?_,⟨_,rfl⟩,by simp[Own.bnd,bndL,bnd,boxO],by simp⟩
   rw[← okT_gcd]
   try rw[hg6]
   try rw[hg12]
   try rw[hg17]
   try rw[hg22]
   simp[getE,bnd,keepE]
  ·
   have hd:¬ r.2=0:=by simp at hg6;omega
   refine WO.go 2 (ds:=D18_) rfl ?_
   simp only[E,F,J,M,R,Tz,V,X,Y,reduceIte,G,H,sz]
   refine WO.go 1 (ds:=D18_) rfl ?_
   simp only[E,F,J,M,R,Tz,V,X,Y,reduceIte,G,H,if_neg hd,sz]
   refine WO.go 3 (ds:=D18_) rfl ?_
   simp only[E,F,J,M,R,Tz,V,X,Y,reduceIte,G,H,sz]
   refine WO.cases 12 _ rfl (fun hg12=>?_) fun hg12=>?_
   ·
    refine WO.go 17 (ds:=D18_) rfl ?_
    simp only[E,F,J,M,R,Tz,V,X,Y,reduceIte,G,H,sz]
    refine WO.nil ?_
    refine⟨rfl,?_,⟨_,rfl⟩,by simp[Own.bnd,bndL,bnd,boxO],by simp⟩
    rw[← okT_gcd]
    try rw[hg6]
    try rw[hg12]
    try rw[hg17]
    try rw[hg22]
    simp[getE,bnd,keepE]
   ·
    refine WO.go 5 (ds:=D18_) rfl ?_
    simp only[E,F,J,M,R,Tz,V,X,Y,reduceIte,G,H,sz]
    refine WO.cases 17 _ rfl (fun hg17=>?_) fun hg17=>?_
    ·
     refine WO.go 12 (ds:=D18_) rfl ?_
     simp only[E,F,J,M,R,Tz,V,X,Y,reduceIte,G,H,sz]
     refine WO.nil ?_
     refine⟨rfl,?_,⟨_,rfl⟩,by simp[Own.bnd,bndL,bnd,boxO],by simp⟩
     rw[← okT_gcd]
     try rw[hg6]
     try rw[hg12]
     try rw[hg17]
     try rw[hg22]
     simp[getE,bnd,keepE]
    ·
     refine WO.go 5 (ds:=D18_) rfl ?_
     simp only[E,F,J,M,R,Tz,V,X,Y,reduceIte,G,H,sz]
     refine WO.cases 22 _ rfl (fun hg22=>?_) fun hg22=>?_
     ·
      refine WO.go 7 (ds:=D18_) rfl ?_
      simp only[E,F,J,M,R,Tz,V,X,Y,reduceIte,G,H,sz]
      refine WO.nil ?_
      refine⟨rfl,?_,⟨_,rfl⟩,by simp[Own.bnd,bndL,bnd,boxO],by simp⟩
      rw[← okT_gcd]
      try rw[hg6]
      try rw[hg12]
      try rw[hg17]
      try rw[hg22]
      simp[getE,bnd,keepE]
     ·
      have hr1:¬ r.2<1:=by simpa using hg6
      have hr2:=okT_le (r:=r) (by omega) (by simpa using hg12)
      have hr3:¬ r.1<0:=by simpa using hg17
      have hr4:¬ 1000000000<r.1:=by simpa using hg22
      refine WO.go 4 (ds:=D18_) rfl ?_
      simp only[E,F,J,M,R,Tz,V,X,Y,reduceIte,G,H,sz]
      refine WO.call (iv ((Nat.gcd r.1.toNat r.2.toNat:Nat):Int)) (ds:=D18_) rfl rfl rfl rfl co109 (fun ρ w1 hb=>by have h9:=rgcd_spec w1 r.1.toNat r.2.toNat (by omega) (by omega);rw[Int.toNat_of_nonneg (by omega),Int.toNat_of_nonneg (by omega)] at h9;exact h9) ?_
      refine WO.go 2 (ds:=D18_) rfl ?_
      simp only[E,F,J,M,R,Tz,V,X,Y,reduceIte,G,H,sz]
      refine WO.nil ?_
      refine⟨rfl,?_,⟨_,rfl⟩,by simp[Own.bnd,bndL,bnd,boxO],by simp⟩
      rw[← okT_gcd]
      try rw[hg6]
      try rw[hg12]
      try rw[hg17]
      try rw[hg22]
      simp[getE,bnd,keepE]
 ·
  simp only[E,F,J,M,R,Tz,V,X,Y,reduceIte,sxk,G,H,sz]
  refine W.cond rfl rfl (fun hc=>?_) fun hc=>?_
  ·
   have hok:okT r=false:=by simpa using hc
   refine W.pure dn fun K4 k4=>?_
   simp only[E,F,J,M,R,Tz,V,X,Y,reduceIte,G,H,sz];refine k4 _ ?_
   refine W.ret ⟨by simp,_,rfl,fun ρ w1 hb=>?_⟩
   simp only[den,tickF,hok];rfl
  ·
   have hok:okT r=true:=by simpa using hc
   have hq:=okT_iff.1 hok
   have hd:¬ r.2=0:=by omega
   have hm:=tick_mul hok
   have hqb:=quo_bound hq.1
   refine W.skip (k2 _ ?_)
   refine W.seqK fun K5 k5=>?_
   refine W.regionQ mixed (by kernel_rfl) ?_
   refine WQ.go 4 dn ?_
   simp only[E,F,J,M,R,Tz,V,X,Y,reduceIte,sxq,G,H,sz]
   refine WQ.go 1 dn ?_
   simp only[E,F,J,M,R,Tz,V,X,Y,reduceIte,sxq,G,H,if_neg hd,wrap_id (x:=(1680:Int).tdiv r.2) (by omega) (by omega),sz]
   refine WQ.go 2 dn ?_
   simp only[E,F,J,M,R,Tz,V,X,Y,reduceIte,sxq,G,H,sz]
   refine WQ.nil ?_
   refine k5 _ ?_
   refine W.ret ⟨by simp,_,rfl,fun ρ w1 hb=>?_⟩
   simp only[den,tickF,hok,if_true]
   rw[wrap_id (by omega) (by omega)]
theorem size_spec (w:World) (n:Int) (h:0≤n∧n≤1000000000):Gives Tryz.prog 226 #[iv n] w fun r _=>r=iv n:=by
 have hw:=wrap_id (x:=0 - n) (by omega) (by omega)
 refine gives_of [wv n] 7 [.tmp 2] Tryz.func226 rfl rfl rfl (by simp) rfl rfl ?_
 refine W.pure dn fun K1 k1=>?_
 simp only[E,F,J,M,R,Tz,V,X,Y,reduceIte,G,H,sz];refine k1 _ ?_
 refine W.seqK fun K2 k2=>W.region ?_
 refine WO.go 3 dn ?_
 simp only[E,F,J,M,R,Tz,V,X,Y,reduceIte,G,H,sz]
 refine WO.max2 dn rfl rfl rfl rfl rfl ?_
 rw[if_neg (by rw[hw];omega)]
 refine WO.go 1 dn ?_
 simp only[E,F,J,M,R,Tz,V,X,Y,reduceIte,G,H,sz]
 refine WO.nil ?_
 refine k2 _ ?_
 refine W.ret ⟨by simp,_,rfl,fun ρ w1 hb=>?_⟩
 rfl
theorem common_step {bp:Nat} (b a:Nat) (w:World) (ha:a≤1000000000000000000) (hb9:b≤1000000000000000000) (hat:At w ⟨bp,0,none⟩ [.func (.func 225) #[] #[.pointer (some ⟨bp,0,none⟩)]]) (hbz:bp<w.heap.size)
  (ih:∀ (w1:World),Keep (fun _=>True) w w1→0<b→Gives Tryz.prog 225 #[iv (b:Int),iv ((a % b:Nat):Int),.pointer (some ⟨bp,0,none⟩)] w1 fun r _=>r=iv ((Nat.gcd b (a % b):Nat):Int)) :
  Gives Tryz.prog 225 #[iv (a:Int),iv (b:Int),.pointer (some ⟨bp,0,none⟩)] w fun r _=>r=iv ((Nat.gcd a b:Nat):Int):=by
 refine gives_of [wv (a:Int),wv (b:Int),.val (.pointer (some ⟨bp,0,none⟩))] 15 [.tmp 5] Tryz.func225 rfl rfl rfl (by simp) rfl rfl ?_
 refine W.pure dn fun K1 k1=>?_
 simp only[E,F,J,M,R,Tz,V,X,Y,reduceIte,G,H,sz];refine k1 _ ?_
 refine W.seqK fun K2 k2=>?_
 refine W.pure dn fun K3 k3=>?_
 simp only[E,F,J,M,R,Tz,V,X,Y,reduceIte,G,H,sz];refine k3 _ ?_
 refine W.cond rfl rfl (fun hc=>?_) fun hc=>?_
 ·
  have hy:b=0:=by have h0:(b:Int)=0:=(by simpa using hc);omega
  refine W.pure dn fun K4 k4=>?_
  simp only[E,F,J,M,R,Tz,V,X,Y,reduceIte,G,H,sz];refine k4 _ ?_
  refine W.ret ⟨by simp,_,rfl,fun ρ w1 hb=>?_⟩
  rw[hy,Nat.gcd_zero_right];rfl
 ·
  have hy:¬ (b:Int)=0:=by simpa using hc
  have hmr:(a:Int).tmod (b:Int)=((a % b:Nat):Int):=tmodN a b
  refine W.skip (k2 _ ?_)
  refine W.seqK fun K5 k5=>?_
  refine W.regionQ mixed (by kernel_rfl) ?_
  refine WQ.q dn rfl rfl (QR.load [.func (.func 225) #[] #[.pointer (some ⟨bp,0,none⟩)]] false rfl rfl agg194 sz194 (.inr rfl) (fun ρ w1 hb=>hat.now (S:=fun _=>True) hb (by simp[St.put]) trivial hbz)) ?_
  simp only[ofCells,sr]
  refine WQ.go 3 dn ?_
  simp only[E,F,J,M,R,Tz,V,X,Y,reduceIte,sxq,G,H,sz]
  refine WQ.go 1 dn ?_
  simp only[E,F,J,M,R,Tz,V,X,Y,reduceIte,sxq,G,H,if_neg hy,hmr,sz]
  refine WQ.call (iv ((Nat.gcd b (a % b):Nat):Int)) dn rfl rfl rfl co225 (fun ρ w1 hb=>ih w1 (hb.first (by simp[St.put])) (by omega)) ?_
  refine WQ.go 1 dn ?_
  simp only[E,F,J,M,R,Tz,V,X,Y,reduceIte,sxq,G,H,sz]
  refine WQ.nil ?_
  refine k5 _ ?_
  refine W.ret ⟨by simp,_,rfl,fun ρ w1 hb=>?_⟩
  rw[Nat.gcd_comm b (a % b),← Nat.gcd_rec,Nat.gcd_comm];rfl
theorem common_spec {bp:Nat}:∀ (m b a:Nat) (w:World),b≤m→a≤1000000000000000000→b≤1000000000000000000→At w ⟨bp,0,none⟩ [.func (.func 225) #[] #[.pointer (some ⟨bp,0,none⟩)]]→bp<w.heap.size→Gives Tryz.prog 225 #[iv (a:Int),iv (b:Int),.pointer (some ⟨bp,0,none⟩)] w fun r _=>r=iv ((Nat.gcd a b:Nat):Int)
 | 0,b,a,w,hm,ha,hb,hat,hbz=>common_step b a w ha hb hat hbz fun _ _ h=>by omega
 |
  m+1,b,a,w,hm,ha,hb,hat,hbz=>common_step b a w ha hb hat hbz fun w1 hk h0=>by
  have hlt:=Nat.mod_lt a h0
  exact common_spec m (a % b) b w1 (by omega) hb (by omega) (hat.frame (hk.block _ trivial hbz)) (Nat.lt_of_lt_of_le hbz hk.size)
theorem reduced_spec (w:World) (n d:Int) (hn:0≤n∧n≤1000000000) (hd:1≤d∧d≤1000000000) (hg:Nat.gcd n.toNat d.toNat=1):Gives Tryz.prog 204 #[.agg #[iv n,iv d]] w fun r _=>r=.agg #[iv n,iv d]:=by
 refine gives_of [.agg [wv n,wv d]] 28 [.cell 2 267] Tryz.func204 rfl rfl rfl (by simp) rfl rfl ?_
 refine W.pure dn fun K1 k1=>?_
 simp only[E,F,J,M,R,Tz,V,X,Y,reduceIte,G,H,sz];refine k1 _ ?_
 refine W.pure dn fun K2 k2=>?_
 simp only[E,F,J,M,R,Tz,V,X,Y,reduceIte,G,H,sz];refine k2 _ ?_
 refine W.pure dn fun K3 k3=>?_
 simp only[E,F,J,M,R,Tz,V,X,Y,reduceIte,G,H,sz];refine k3 _ ?_
 refine W.seqK fun K4 k4=>?_
 refine W.regionQ mixed (by kernel_rfl) ?_
 refine WQ.go 3 dn ?_
 simp only[E,F,J,M,R,Tz,V,X,Y,reduceIte,sxq,G,H,sz]
 refine WQ.call (iv n) dn rfl rfl rfl co226 (fun ρ w1 hb=>size_spec w1 n hn) ?_
 refine WQ.go 2 dn ?_
 simp only[E,F,J,M,R,Tz,V,X,Y,reduceIte,sxq,G,H,sz]
 refine WQ.call (iv d) dn rfl rfl rfl co226 (fun ρ w1 hb=>size_spec w1 d (by omega)) ?_
 simp only[E,F,J,M,R,Tz,V,X,Y,reduceIte,G,H,sz]
 refine WQ.call (iv 1) dn rfl rfl rfl co225 (fun ρ w1 hb=>by
                              obtain⟨g1,g2⟩:=own_cells (k:=2) hb rfl 0
                              have h9:=common_spec d.toNat d.toNat n.toNat w1 (Nat.le_refl _) (by omega) (by omega) g1 g2
                              rw[hg,Int.toNat_of_nonneg (by omega),Int.toNat_of_nonneg (by omega)] at h9
                              exact h9) ?_
 refine WQ.go 1 dn ?_
 simp only[E,F,J,M,R,Tz,V,X,Y,reduceIte,sxq,G,H,sz]
 refine WQ.nil ?_
 refine k4 _ ?_
 refine W.seqK fun K5 k5=>?_
 refine W.pure dn fun K6 k6=>?_
 simp only[E,F,J,M,R,Tz,V,X,Y,reduceIte,G,H,sz];refine k6 _ ?_
 refine W.cond rfl rfl (fun hc=>?_) fun hc=>?_
 ·
  simp at hc;omega
 ·
  refine W.skip (k5 _ ?_)
  refine W.seqK fun K7 k7=>?_
  refine W.regionT' 9 [] [0,1,2,3,4,5,6,7,8] mixed (by kernel_rfl) ?_
  simp only[E,F,J,M,R,Tz,V,X,Y,reduceIte,sxt,List.toList_toArray,G,H,sz]
  refine WQ.go 3 dn ?_
  simp only[E,F,J,M,R,Tz,V,X,Y,reduceIte,sxq,G,H,sz]
  refine WQ.go 1 dn ?_
  simp only[E,F,J,M,R,Tz,V,X,Y,reduceIte,sxq,G,H,if_neg (show ¬ (1:Int)=0 by decide),Int.tdiv_one,wrap_id (x:=n) (by omega) (by omega),wrap_id (x:=d) (by omega) (by omega),sz]
  refine WQ.go 3 dn ?_
  simp only[E,F,J,M,R,Tz,V,X,Y,reduceIte,sxq,G,H,sz]
  refine WQ.go 1 dn ?_
  simp only[E,F,J,M,R,Tz,V,X,Y,reduceIte,sxq,G,H,if_neg (show ¬ (1:Int)=0 by decide),Int.tdiv_one,wrap_id (x:=n) (by omega) (by omega),wrap_id (x:=d) (by omega) (by omega),sz]
  refine WQ.go 1 dn ?_
  simp only[E,F,J,M,R,Tz,V,X,Y,reduceIte,sxq,G,H,sz]
  refine WQ.nil ?_
  refine WO.go 1 dn ?_
  simp only[E,F,J,M,R,Tz,V,X,Y,reduceIte,G,H,sz]
  refine WO.nil ?_
  refine k7 _ ?_
  refine W.ret ?_
  refine⟨by simp,RunR.ex ?_⟩
  simp only[E,F,J,M,R,Tz,V,X,Y,reduceIte,sxr,G,H,sz]
  intro ρ w1 hb
  rfl
abbrev D19_:List (Option Nat):=[some 3,some 4,some 5,some 6,some 7,some 8,some 9,some 10,some 11,some 12,some 13,some 14,some 15,some 16,some 17,some 18,some 19,some 20]
theorem ratValid_spec (w:World) (r:Rt) (h:okT r=true):Gives Tryz.prog 167 #[.agg #[iv r.1,iv r.2]] w fun v _=>v=.bool true:=by
 have hq:=okT_iff.1 h
 have hr2:=okT_le (r:=r) hq.1 hq.2.1
 have hd:¬ r.2=0:=by omega
 refine gives_of [.agg [wv r.1,wv r.2]] 33 [.tmp 2] Tryz.func167 rfl rfl rfl (by simp) rfl rfl ?_
 refine W.pure dn fun K1 k1=>?_
 simp only[E,F,J,M,R,Tz,V,X,Y,reduceIte,G,H,sz];refine k1 _ ?_
 refine W.seqK fun K2 k2=>?_
 refine W.seqK fun K3 k3=>W.region ?_
 refine WO.go 4 (ds:=D19_) rfl ?_
 simp only[E,F,J,M,R,Tz,V,X,Y,reduceIte,G,H,sz]
 refine WO.cases 6 _ rfl (fun hg6=>?_) fun hg6=>?_
 ·
  simp at hg6;omega
 ·
  refine WO.go 5 (ds:=D19_) rfl ?_
  simp only[E,F,J,M,R,Tz,V,X,Y,reduceIte,G,H,sz]
  refine WO.cases 11 _ rfl (fun hg11=>?_) fun hg11=>?_
  ·
   simp at hg11;omega
  ·
   refine WO.go 5 (ds:=D19_) rfl ?_
   simp only[E,F,J,M,R,Tz,V,X,Y,reduceIte,G,H,sz]
   refine WO.cases 16 _ rfl (fun hg16=>?_) fun hg16=>?_
   ·
    simp at hg16;omega
   ·
    refine WO.go 4 (ds:=D19_) rfl ?_
    simp only[E,F,J,M,R,Tz,V,X,Y,reduceIte,G,H,sz]
    refine WO.nil ?_
    refine k3 _ ?_
    refine W.cond rfl rfl (fun hc=>?_) fun hc=>?_
    ·
     simp at hc;omega
    ·
     refine W.skip (k2 _ ?_)
     refine W.seqK fun K4 k4=>?_
     refine W.regionQ mixed (by kernel_rfl) ?_
     refine WQ.go 5 dn ?_
     simp only[E,F,J,M,R,Tz,V,X,Y,reduceIte,sxq,G,H,sz]
     refine WQ.call (.agg #[iv r.1,iv r.2]) dn rfl rfl rfl co204 (fun ρ w1 hb=>reduced_spec w1 r.1 r.2 (by omega) (by omega) hq.2.2.2.2) ?_
     refine WQ.go 5 dn ?_
     simp only[E,F,J,M,R,Tz,V,X,Y,reduceIte,sxq,G,H,sz]
     refine WQ.aggCmp [r.1,r.2] [r.1,r.2] dn rfl rfl rfl ⟨_,rfl,fun _=>rfl⟩ ⟨_,rfl,fun _=>rfl⟩ it267 rfl rfl rfl ?_
     refine WQ.go 1 dn ?_
     simp only[E,F,J,M,R,Tz,V,X,Y,reduceIte,sxq,G,H,sz]
     refine WQ.nil ?_
     refine k4 _ ?_
     refine W.ret ⟨by simp,_,rfl,fun ρ w1 hb=>?_⟩
     simp[den]
abbrev D20_:List (Option Nat):=[some 4,some 5,some 6,some 7,some 8,some 9,some 10,some 11,some 12,some 13,some 14,some 15,some 16,some 17]
theorem nticks_spec (w:World) (r:Rt) (h:okT r=true):Gives Tryz.prog 171 #[.agg #[iv r.1,iv r.2]] w fun v _=>v=.tuple #[iv (tickF r),.bool true]:=by
 have hq:=okT_iff.1 h
 have hr2:=okT_le (r:=r) hq.1 hq.2.1
 have hd:¬ r.2=0:=by omega
 have hm:=tick_mul h
 have hqb:=quo_bound hq.1
 have ht:tickF r=r.1*(1680:Int).tdiv r.2:=if_pos h
 refine gives_of [.agg [wv r.1,wv r.2]] 24 [.tmp 2,.tmp 3] Tryz.func171 rfl rfl rfl (by simp) rfl rfl ?_
 refine W.pure dn fun K1 k1=>?_
 simp only[E,F,J,M,R,Tz,V,X,Y,reduceIte,G,H,sz];refine k1 _ ?_
 refine W.seqK fun K2 k2=>?_
 refine W.seqK fun K3 k3=>W.region ?_
 refine WO.go 1 (ds:=D20_) rfl ?_
 simp only[E,F,J,M,R,Tz,V,X,Y,reduceIte,G,H,sz]
 refine WO.call (.bool true) (ds:=D20_) rfl rfl rfl rfl co167 (fun ρ w1 hb=>ratValid_spec w1 r h) ?_
 refine WO.go 7 (ds:=D20_) rfl ?_
 simp only[E,F,J,M,R,Tz,V,X,Y,reduceIte,G,H,sz]
 refine WO.cases 12 _ rfl (fun hg12=>?_) fun hg12=>?_
 ·
  simp at hg12;omega
 ·
  refine WO.go 2 (ds:=D20_) rfl ?_
  simp only[E,F,J,M,R,Tz,V,X,Y,reduceIte,G,H,sz]
  refine WO.go 1 (ds:=D20_) rfl ?_
  simp only[E,F,J,M,R,Tz,V,X,Y,reduceIte,G,H,if_neg hd,hq.2.1,sz]
  refine WO.go 2 (ds:=D20_) rfl ?_
  simp only[E,F,J,M,R,Tz,V,X,Y,reduceIte,G,H,sz]
  refine WO.nil ?_
  refine k3 _ ?_
  refine W.cond rfl rfl (fun hc=>?_) fun hc=>?_
  ·
   simp at hc
  ·
   refine W.skip (k2 _ ?_)
   refine W.seqK fun K4 k4=>?_
   refine W.regionQ mixed (by kernel_rfl) ?_
   refine WQ.go 4 dn ?_
   simp only[E,F,J,M,R,Tz,V,X,Y,reduceIte,sxq,G,H,sz]
   refine WQ.go 1 dn ?_
   simp only[E,F,J,M,R,Tz,V,X,Y,reduceIte,sxq,G,H,if_neg hd,wrap_id (x:=(1680:Int).tdiv r.2) (by omega) (by omega),sz]
   refine WQ.go 3 dn ?_
   simp only[E,F,J,M,R,Tz,V,X,Y,reduceIte,sxq,G,H,sz]
   refine WQ.nil ?_
   refine k4 _ ?_
   refine W.ret ⟨by simp,_,rfl,fun ρ w1 hb=>?_⟩
   rw[ht]
   simp only[den,denL]
   rw[wrap_id (by omega) (by omega)]
abbrev D21_:List (Option Nat):=[some 3,some 4,some 5,some 6,some 7,some 8,some 9,some 10,some 11,some 12,some 13,some 14,some 15,some 16]
theorem vticks_spec (w:World) (r:Rt) (h:okT r=true):Gives Tryz.prog 117 #[.agg #[iv r.1,iv r.2]] w fun v _=>v=iv (tickF r):=by
 have hq:=okT_iff.1 h
 have hr2:=okT_le (r:=r) hq.1 hq.2.1
 have hd:¬ r.2=0:=by omega
 have hm:=tick_mul h
 have hqb:=quo_bound hq.1
 have ht:tickF r=r.1*(1680:Int).tdiv r.2:=if_pos h
 refine gives_of [.agg [wv r.1,wv r.2]] 23 [.tmp 2] Tryz.func117 rfl rfl rfl (by simp) rfl rfl ?_
 refine W.pure dn fun K1 k1=>?_
 simp only[E,F,J,M,R,Tz,V,X,Y,reduceIte,G,H,sz];refine k1 _ ?_
 refine W.seqK fun K2 k2=>?_
 refine W.seqK fun K3 k3=>W.region ?_
 refine WO.go 1 (ds:=D21_) rfl ?_
 simp only[E,F,J,M,R,Tz,V,X,Y,reduceIte,G,H,sz]
 refine WO.call (.bool true) (ds:=D21_) rfl rfl rfl rfl co167 (fun ρ w1 hb=>ratValid_spec w1 r h) ?_
 refine WO.go 7 (ds:=D21_) rfl ?_
 simp only[E,F,J,M,R,Tz,V,X,Y,reduceIte,G,H,sz]
 refine WO.cases 11 _ rfl (fun hg11=>?_) fun hg11=>?_
 ·
  simp at hg11;omega
 ·
  refine WO.go 2 (ds:=D21_) rfl ?_
  simp only[E,F,J,M,R,Tz,V,X,Y,reduceIte,G,H,sz]
  refine WO.go 1 (ds:=D21_) rfl ?_
  simp only[E,F,J,M,R,Tz,V,X,Y,reduceIte,G,H,if_neg hd,hq.2.1,sz]
  refine WO.go 2 (ds:=D21_) rfl ?_
  simp only[E,F,J,M,R,Tz,V,X,Y,reduceIte,G,H,sz]
  refine WO.nil ?_
  refine k3 _ ?_
  refine W.cond rfl rfl (fun hc=>?_) fun hc=>?_
  ·
   simp at hc
  ·
   refine W.skip (k2 _ ?_)
   refine W.seqK fun K4 k4=>?_
   refine W.regionQ mixed (by kernel_rfl) ?_
   refine WQ.go 4 dn ?_
   simp only[E,F,J,M,R,Tz,V,X,Y,reduceIte,sxq,G,H,sz]
   refine WQ.go 1 dn ?_
   simp only[E,F,J,M,R,Tz,V,X,Y,reduceIte,sxq,G,H,if_neg hd,wrap_id (x:=(1680:Int).tdiv r.2) (by omega) (by omega),sz]
   refine WQ.go 2 dn ?_
   simp only[E,F,J,M,R,Tz,V,X,Y,reduceIte,sxq,G,H,sz]
   refine WQ.nil ?_
   refine k4 _ ?_
   refine W.ret ⟨by simp,_,rfl,fun ρ w1 hb=>?_⟩
   rw[ht]
   simp only[den,denL]
   rw[wrap_id (by omega) (by omega)]
theorem isDuration_spec (w:World) (r:Rt) (h:okT r=true):Gives Tryz.prog 134 #[.agg #[iv r.1,iv r.2]] w fun v _=>v=.bool true:=by
 have hq:=okT_iff.1 h
 have hr2:=okT_le (r:=r) hq.1 hq.2.1
 have hd:¬ r.2=0:=by omega
 have hm:=tick_mul h
 have hqb:=quo_bound hq.1
 have ht:tickF r=r.1*(1680:Int).tdiv r.2:=if_pos h
 refine gives_of [.agg [wv r.1,wv r.2]] 16 [.tmp 2] Tryz.func134 rfl rfl rfl (by simp) rfl rfl ?_
 refine W.pure dn fun K1 k1=>?_
 simp only[E,F,J,M,R,Tz,V,X,Y,reduceIte,G,H,sz];refine k1 _ ?_
 refine W.seqK fun K2 k2=>W.region ?_
 refine WO.go 1 (ds:=D4_) rfl ?_
 simp only[E,F,J,M,R,Tz,V,X,Y,reduceIte,G,H,sz]
 refine WO.call (.bool true) (ds:=D4_) rfl rfl rfl rfl co167 (fun ρ w1 hb=>ratValid_spec w1 r h) ?_
 refine WO.go 6 (ds:=D4_) rfl ?_
 simp only[E,F,J,M,R,Tz,V,X,Y,reduceIte,G,H,sz]
 refine WO.cases 10 _ rfl (fun hg10=>?_) fun hg10=>?_
 ·
  refine WO.go 2 (ds:=D4_) rfl ?_
  simp only[E,F,J,M,R,Tz,V,X,Y,reduceIte,G,H,sz]
  refine WO.go 1 (ds:=D4_) rfl ?_
  simp only[E,F,J,M,R,Tz,V,X,Y,reduceIte,G,H,if_neg hd,hq.2.1,sz]
  refine WO.go 3 (ds:=D4_) rfl ?_
  simp only[E,F,J,M,R,Tz,V,X,Y,reduceIte,G,H,sz]
  refine WO.nil ?_
  refine k2 _ ?_
  refine W.ret ⟨by simp,_,rfl,fun ρ w1 hb=>?_⟩
  rfl
 ·
  simp at hg10;omega
theorem mul_small {x y:Int} (h1:0≤x) (h2:x≤1000000000) (h3:0≤y) (h4:y≤1680):0≤x*y∧x*y≤1680000000000:=by
 have g1:=Int.mul_le_mul h2 h4 h3 (by omega)
 have g2:=Int.mul_nonneg h1 h3
 omega
abbrev D22_:List (Option Nat):=[some 8,some 9,some 10,some 11,some 12,some 13,some 14,some 15]
theorem ratCompare_spec (w:World) (a b:Rt) (h1:okT a=true) (h2:okT b=true):Gives Tryz.prog 188 #[.agg #[iv a.1,iv a.2],.agg #[iv b.1,iv b.2]] w fun v _=>∃ n:Int,v=.tuple #[iv n,iv 0]∧decide (n<0)=decide (a.1*b.2<b.1*a.2):=by
 have ha:=okT_iff.1 h1
 have hb:=okT_iff.1 h2
 have ha2:=okT_le (r:=a) ha.1 ha.2.1
 have hb2:=okT_le (r:=b) hb.1 hb.2.1
 have hm1:=mul_small (x:=a.1) (y:=b.2) (by omega) (by omega) (by omega) (by omega)
 have hm2:=mul_small (x:=b.1) (y:=a.2) (by omega) (by omega) (by omega) (by omega)
 have hw1:=wrap_id (x:=a.1*b.2) (by omega) (by omega)
 have hw2:=wrap_id (x:=b.1*a.2) (by omega) (by omega)
 clear ha hb ha2 hb2 hm1 hm2
 refine gives_of [.agg [wv a.1,wv a.2],.agg [wv b.1,wv b.2]] 34 [.tmp 4,.tmp 5] Tryz.func188 rfl rfl rfl (by simp) rfl rfl ?_
 refine W.pure dn fun K1 k1=>?_
 simp only[E,F,J,M,R,Tz,V,X,Y,reduceIte,G,H,sz];refine k1 _ ?_
 refine W.seqK fun K2 k2=>?_
 refine W.seqK fun K3 k3=>W.region ?_
 refine WO.go 1 (ds:=D22_) rfl ?_
 simp only[E,F,J,M,R,Tz,V,X,Y,reduceIte,G,H,sz]
 refine WO.call (.bool true) (ds:=D22_) rfl rfl rfl rfl co167 (fun ρ w1 hb=>ratValid_spec w1 a h1) ?_
 refine WO.go 3 (ds:=D22_) rfl ?_
 simp only[E,F,J,M,R,Tz,V,X,Y,reduceIte,G,H,sz]
 refine WO.call (.bool true) (ds:=D22_) rfl rfl rfl rfl co167 (fun ρ w1 hb=>ratValid_spec w1 b h2) ?_
 refine WO.go 2 (ds:=D22_) rfl ?_
 simp only[E,F,J,M,R,Tz,V,X,Y,reduceIte,G,H,sz]
 refine WO.nil ?_
 refine k3 _ ?_
 refine W.cond rfl rfl (fun hc=>?_) fun hc=>?_
 ·
  simp at hc
 ·
  refine W.skip (k2 _ ?_)
  refine W.seqK fun K4 k4=>?_
  refine W.seqK fun K5 k5=>?_
  refine W.regionQ mixed (by kernel_rfl) ?_
  refine WQ.go 12 dn ?_
  simp only[E,F,J,M,R,Tz,V,X,Y,reduceIte,sxq,G,H,sz]
  refine WQ.nil ?_
  refine k5 _ ?_
  refine W.block ?_
  refine W.pure dn fun K6 k6=>?_
  simp only[E,F,J,M,R,Tz,V,X,Y,reduceIte,G,H,hw1,hw2,sz];refine k6 _ ?_
  refine W.cond rfl rfl (fun hc=>?_) fun hc=>?_
  ·
   have hlt:a.1*b.2<b.1*a.2:=by simpa using hc
   refine W.pure dn fun K7 k7=>?_
   simp only[E,F,J,M,R,Tz,V,X,Y,reduceIte,G,H,hw1,hw2,sz];refine k7 _ ?_
   refine W.ret ⟨by simp,_,rfl,fun ρ w1 hb=>?_⟩
   exact⟨-1,rfl,by simp[hlt]⟩
  ·
   have hlt:¬ a.1*b.2<b.1*a.2:=by simpa using hc
   refine W.pure dn fun K8 k8=>?_
   simp only[E,F,J,M,R,Tz,V,X,Y,reduceIte,G,H,hw1,hw2,sz];refine k8 _ ?_
   refine W.cond rfl rfl (fun hc=>?_) fun hc=>?_
   ·
    refine W.pure dn fun K9 k9=>?_
    simp only[E,F,J,M,R,Tz,V,X,Y,reduceIte,G,H,hw1,hw2,sz];refine k9 _ ?_
    refine W.ret ⟨by simp,_,rfl,fun ρ w1 hb=>?_⟩
    exact⟨1,rfl,by simp[hlt]⟩
   ·
    refine W.skip (k4 _ ?_)
    refine W.pure dn fun K10 k10=>?_
    simp only[E,F,J,M,R,Tz,V,X,Y,reduceIte,G,H,hw1,hw2,sz];refine k10 _ ?_
    refine W.ret ⟨by simp,_,rfl,fun ρ w1 hb=>?_⟩
    exact⟨0,rfl,by simp[hlt]⟩
theorem mless_spec (w:World) (a b:Rt) (h1:okT a=true) (h2:okT b=true):Gives Tryz.prog 135 #[.agg #[iv a.1,iv a.2],.agg #[iv b.1,iv b.2]] w fun v _=>v=.bool (decide (a.1*b.2<b.1*a.2)):=by
 refine gives_of [.agg [wv a.1,wv a.2],.agg [wv b.1,wv b.2]] 15 [.tmp 4] Tryz.func135 rfl rfl rfl (by simp) rfl rfl ?_
 refine W.pure dn fun K1 k1=>?_
 simp only[E,F,J,M,R,Tz,V,X,Y,reduceIte,G,H,sz];refine k1 _ ?_
 refine W.seqK fun K2 k2=>W.region ?_
 refine WO.go 2 dn ?_
 simp only[E,F,J,M,R,Tz,V,X,Y,reduceIte,G,H,sz]
 refine WO.callX (fun n:Int=>.tuple #[iv n,iv 0]) (fun n=>decide (n<0)=decide (a.1*b.2<b.1*a.2)) dn rfl rfl rfl co188 (fun ρ w1 hb=>Gives.mono (ratCompare_spec w1 a b h1 h2) fun r w9 _ ⟨n,h1,h2⟩=>⟨n,h1,h2⟩) fun n hn=>?_
 refine WO.go 5 dn ?_
 simp only[E,F,J,M,R,Tz,V,X,Y,reduceIte,G,H,sz]
 refine WO.nil ?_
 refine k2 _ ?_
 refine W.pure dn fun K3 k3=>?_
 simp only[E,F,J,M,R,Tz,V,X,Y,reduceIte,G,H,sz];refine k3 _ ?_
 refine W.ret ⟨by simp,_,rfl,fun ρ w1 hb=>?_⟩
 rw[← hn];rfl
end Go.Proofs.YtolmeekbjonbcaaGreatDoor
namespace Go.Proofs.YtolmeekbjonbcaaGreatDoor
open Go Go.SX Go.RowKit
variable [Drw]
noncomputable def pb (p:Prop):Bool:=@decide p (Classical.propDecidable p)
theorem pb_yes {p:Prop} (h:p):pb p=true:=@decide_eq_true p (Classical.propDecidable p) h
theorem pb_no {p:Prop} (h:¬ p):pb p=false:=@decide_eq_false p (Classical.propDecidable p) h
theorem pb_of {p:Prop} (h:pb p=true):p:=@of_decide_eq_true p (Classical.propDecidable p) h
theorem pb_not {p:Prop} (h:pb p=false):¬ p:=@of_decide_eq_false p (Classical.propDecidable p) h
def ixOf (l:List Int) (x:Int):Int:=match l.findIdx? (fun y=>y == x) with
 | some i=>i
 | none=>-1
theorem ix_some {l:List Int} {x:Int} {i:Nat} (h:∀ j,j<i→∀ y,l[j]?=some y→y≠x) (hi:l[i]?=some x):ixOf l x=i:=by
 unfold ixOf
 obtain⟨hlt,he⟩:=List.getElem?_eq_some_iff.1 hi
 have:l.findIdx? (fun y=>y == x)=some i:=by
  rw[List.findIdx?_eq_some_iff_getElem]
  refine⟨hlt,by rw[he];simp,fun j hj=>?_⟩
  have:=h j hj l[j] (List.getElem?_eq_getElem (by omega))
  simpa using this
 rw[this]
theorem ix_none {l:List Int} {x:Int} (h:∀ (j:Nat) y,l[j]?=some y→y≠x):ixOf l x=-1:=by
 unfold ixOf
 have:l.findIdx? (fun y=>y == x)=none:=by
  rw[List.findIdx?_eq_none_iff]
  intro y hy
  obtain⟨j,hj,hjy⟩:=List.getElem_of_mem hy
  have:=h j y (by rw[List.getElem?_eq_getElem hj,hjy])
  simpa using this
 rw[this]
theorem ix_cases (l:List Int) (x:Int):(ixOf l x=-1∧x∉l)∨∃ i:Nat,ixOf l x=i∧l[i]?=some x∧∀ j,j<i→∀ y,l[j]?=some y→y≠x:=by
 unfold ixOf
 cases h:l.findIdx? (fun y=>y == x) with
 |
  none=>
  rw[List.findIdx?_eq_none_iff] at h
  exact .inl ⟨rfl,fun hx=>by simpa using h x hx⟩
 |
  some i=>
  rw[List.findIdx?_eq_some_iff_getElem] at h
  obtain⟨hi,h1,h2⟩:=h
  refine .inr ⟨i,rfl,by rw[List.getElem?_eq_getElem hi];simpa using h1,fun j hj y hy=>?_⟩
  obtain⟨hj',rfl⟩:=List.getElem?_eq_some_iff.1 hy
  simpa using h2 j hj
theorem ix_mem {l:List Int} {x:Int}:0≤ixOf l x↔x∈l:=by
 rcases ix_cases l x with⟨h,h2⟩ | ⟨i,h,h2,_⟩
 · simp[h,h2]
 · simp[h,List.mem_of_getElem? h2]
theorem ix_get {l:List Int} (hnd:l.Nodup) {i:Nat} {x:Int} (h:l[i]?=some x):ixOf l x=i:=by
 refine ix_some (fun j hj y hy he=>?_) h
 subst he
 have:=(List.getElem?_inj (List.getElem?_eq_some_iff.1 hy).1 hnd).1 (hy.trans h.symm)
 omega
structure BarOk (b:Br):Prop where
 id:1≤b.id∧b.id≤1000000
 tick:1≤tickF b.len∧tickF b.len≤40320
 key:-7≤b.key∧b.key≤7
structure BarsOk (l:List Br):Prop where
 one:1≤l.length
 len:l.length≤4000
 all:∀ b,b∈l→BarOk b
 nd:(l.map Br.id).Nodup
def isNoteP (p:Pit):Bool:=validP p && (within (-2) 2 p.2.1 && within 0 9 p.2.2)
structure NoteOk (bars:List Br) (n:Nt):Prop where
 pit:isNoteP n.pit=true
 id:within 1 1000000 n.id=true
 part:within 1 1000000 n.part=true
 voice:within 0 9 n.voice=true
 ossia:within 0 20 n.ossia=true
 start:okT n.start=true
 len:0<tickF n.len
 bar:∃ b,b∈bars∧b.id=n.bar∧tickF n.start+tickF n.len≤tickF b.len
structure NotesOk (bars:List Br) (l:List Nt):Prop where
 br:BarsOk bars
 len:l.length≤20000
 all:∀ n,n∈l→NoteOk bars n
 nd:(l.map Nt.id).Nodup
def keyL (bars:List Br) (n:Nt):List Int:=[ixOf (bars.map Br.id) n.bar,n.part,tickF n.start,n.voice,numF n.pit,n.id]
def ltL:List Int→List Int→Bool
 | x::a,y::b=>if x=y then ltL a b else decide (x<y)
 | _,_=>false
def shiftOk (a b:Int):Bool:=formed a b && (within (-21) 21 a && (within (-36) 36 b && within (-12) 12 (7*b - 12*a)))
structure PartOk (p:Pt):Prop where
 id:within 1 1000000 p.id=true
 sec:within 0 99 p.sec=true
 src:within 0 1000000 p.src=true
 oct:within (-2) 2 p.oct=true
 desks:within 1 40 p.desks=true
 shift:shiftOk p.sa p.sb=true
 low:validP p.low=true
 high:validP p.high=true
 ne:p.src≠p.id
 own:p.src=0→p.oct=0
 range:numF p.low≤numF p.high
structure PartsOk (l:List Pt):Prop where
 one:1≤l.length
 len:l.length≤60
 all:∀ p,p∈l→PartOk p
 nd:(l.map Pt.id).Nodup
 src:∀ p,p∈l→p.src≠0→∃ q,q∈l∧q.id=p.src∧q.src=0
def OwnOk (l:List Pt) (n:Nt):Prop:=∃ p,p∈l∧p.id=n.part∧p.src=0∧numF p.low≤numF n.pit∧numF n.pit≤numF p.high
structure ScOk (s:Sc):Prop where
 ver:within 1 1000000 s.ver=true
 parts:PartsOk s.parts
 notes:NotesOk s.bars s.notes
 own:∀ n,n∈s.notes→OwnOk s.parts n
 ord:∀ (i:Nat) a b,s.notes[i]?=some a→s.notes[i+1]?=some b→ltL (keyL s.bars a) (keyL s.bars b)=true
theorem ScOk.bars {s:Sc} (h:ScOk s):BarsOk s.bars:=h.notes.br
theorem nodup_snoc {α:Type} {f:α→Int} {l:List α} {i:Nat} {y:α} (hn:((l.take i).map f).Nodup) (hy:l[i]?=some y) (hno:∀ j,j<i→∀ z,l[j]?=some z→f z≠f y):((l.take (i+1)).map f).Nodup:=by
 rw[List.take_add_one,hy,List.map_append,List.nodup_append]
 refine⟨hn,by simp,fun a ha b hb=>?_⟩
 simp at hb
 subst hb
 obtain⟨z,hz,rfl⟩:=List.mem_map.1 ha
 obtain⟨j,hj⟩:=List.mem_iff_getElem?.1 hz
 rw[List.getElem?_take] at hj
 split at hj
 · rename_i hlt;exact hno j hlt z hj
 · cases hj
theorem nodup_not {α:Type} {f:α→Int} {l:List α} {i j:Nat} {y z:α} (hn:(l.map f).Nodup) (hy:l[i]?=some y) (hz:l[j]?=some z) (he:f z=f y):j=i:=by
 have h1:(l.map f)[i]?=some (f y):=by rw[List.getElem?_map,hy];rfl
 have h2:(l.map f)[j]?=some (f y):=by rw[List.getElem?_map,hz,← he];rfl
 exact(List.getElem?_inj (List.getElem?_eq_some_iff.1 h2).1 hn).1 (h2.trans h1.symm)
theorem all_at {α:Type} {p:α→Prop} {l:List α} (h:∀ (j:Nat) y,l[j]?=some y→p y):∀ y,y∈l→p y:=fun y hy=>by
 obtain⟨j,hj⟩:=List.mem_iff_getElem?.1 hy
 exact h j y hj
theorem tick_ok {r:Rt} (h:0≤tickF r):okT r=true:=by rw[← tick_nonneg];exact decide_eq_true h
theorem BarOk.t {b:Br} (h:BarOk b):okT b.len=true:=tick_ok (by have:=h.tick;omega)
end Go.Proofs.YtolmeekbjonbcaaGreatDoor
namespace Go.Proofs.YtolmeekbjonbcaaGreatDoor
open Go Go.SX Go.RowKit
variable [Drw]
open Int renaming reduceEq → E, reduceLT → F, reduceBEq → G, reduceBNe → H, reduceNeg → Z1, reduceGT → Z2, reduceLE → Z3, reduceGE → Z4, reduceMul → Z5, reduceMod → Z6, reduceAdd → Z7, reduceTMod → Z8, reduceTDiv → Z9
open Nat renaming reduceAdd → J, reduceSub → M, reduceMul → R, reduceLT → Tz, reduceLeDiff → V, reduceEqDiff → X
open List renaming reduceReplicate → Y
abbrev D23_:List (Option Nat):=[some 6,some 7,some 8,some 9,some 10,some 11,some 12,some 13,some 14,some 15,some 16,some 2]
theorem r2isNote_spec (w:World) (p:Pit):Gives Tryz.prog 158 #[.agg #[iv p.1,iv p.2.1,iv p.2.2]] w fun r _=>r=.bool (isNoteP p):=by
 refine gives_of [.agg [wv p.1,wv p.2.1,wv p.2.2]] 17 [.tmp 2] Tryz.func158 rfl rfl rfl (by simp) rfl rfl ?_
 refine W.pure dn fun K1 k1=>?_
 simp only[E,F,J,M,R,Tz,V,X,Y,reduceIte,G,H,sz];refine k1 _ ?_
 refine W.seqK fun K2 k2=>W.region ?_
 refine WO.go 1 dn ?_
 simp only[E,F,J,M,R,Tz,V,X,Y,reduceIte,G,H,sz]
 refine WO.call (.bool (validP p)) dn rfl rfl rfl co59 (fun ρ w1 hb=>r2valid_spec w1 p) ?_
 refine WO.go 1 dn ?_
 simp only[E,F,J,M,R,Tz,V,X,Y,reduceIte,G,H,sz]
 refine WO.nil ?_
 refine k2 _ ?_
 refine W.join 2 (.val (.bool (isNoteP p))) [] (W.region ?_) ?_
 ·
  refine WO.go 2 (ds:=D23_) rfl ?_
  simp only[E,F,J,M,R,Tz,V,X,Y,reduceIte,G,H,sz]
  refine WO.cases 7 _ rfl (fun hg7=>?_) fun hg7=>?_
  ·
   refine WO.go 2 (ds:=D23_) rfl ?_
   simp only[E,F,J,M,R,Tz,V,X,Y,reduceIte,G,H,sz]
   refine WO.call (.bool (within (-2) 2 p.2.1)) (ds:=D23_) rfl rfl rfl rfl co110 (fun ρ w1 hb=>r2in_spec w1 _ _ _) ?_
   refine WO.go 2 (ds:=D23_) rfl ?_
   simp only[E,F,J,M,R,Tz,V,X,Y,reduceIte,G,H,sz]
   refine WO.cases 12 _ rfl (fun hg12=>?_) fun hg12=>?_
   ·
    refine WO.go 2 (ds:=D23_) rfl ?_
    simp only[E,F,J,M,R,Tz,V,X,Y,reduceIte,G,H,sz]
    refine WO.call (.bool (within 0 9 p.2.2)) (ds:=D23_) rfl rfl rfl rfl co110 (fun ρ w1 hb=>r2in_spec w1 _ _ _) ?_
    refine WO.go 2 (ds:=D23_) rfl ?_
    simp only[E,F,J,M,R,Tz,V,X,Y,reduceIte,G,H,sz]
    refine WO.nil ?_
    refine⟨rfl,?_,⟨_,rfl⟩,by simp[Own.bnd,bndL,bnd,boxO],by simp⟩
    try rw[hg7]
    try rw[hg12]
    simp[getE,bnd,keepE]
    try simp_all [isNoteP]
   ·
    refine WO.go 5 (ds:=D23_) rfl ?_
    simp only[E,F,J,M,R,Tz,V,X,Y,reduceIte,G,H,sz]
    refine WO.nil ?_
    refine⟨rfl,?_,⟨_,rfl⟩,by simp[Own.bnd,bndL,bnd,boxO],by simp⟩
    try rw[hg7]
    try rw[hg12]
    simp[getE,bnd,keepE]
    try simp_all [isNoteP]
  ·
   refine WO.go 10 (ds:=D23_) rfl ?_
   simp only[E,F,J,M,R,Tz,V,X,Y,reduceIte,G,H,sz]
   refine WO.nil ?_
   refine⟨rfl,?_,⟨_,rfl⟩,by simp[Own.bnd,bndL,bnd,boxO],by simp⟩
   try rw[hg7]
   try rw[hg12]
   simp[getE,bnd,keepE]
   try simp_all [isNoteP]
 ·
  simp only[E,F,J,M,R,Tz,V,X,Y,reduceIte,sxk,G,H,sz]
  refine W.ret ⟨by simp,_,rfl,fun ρ w1 hb=>?_⟩
  rfl
theorem len_lt {α:Type} {l:List α} {i n:Nat} (h:l.length=n) (hi:i<n):∃ x,l[i]?=some x:=⟨_,List.getElem?_eq_getElem (by omega)⟩
theorem bar_eq {y:Br}:(!pb (BarOk y))=(((((decide (y.id<1) || decide (1000000<y.id)) || decide (tickF y.len<1)) || decide (40320<tickF y.len)) || decide (y.key < -7)) || decide (7<y.key)):=by
 by_cases h:BarOk y
 ·
  rw[pb_yes h]
  obtain⟨h1,h2,h3⟩:=h
  symm
  simp
  omega
 ·
  rw[pb_no h]
  symm
  rw[Bool.not_false,← Bool.not_eq_false]
  intro h9
  simp at h9
  exact h ⟨by omega,by omega,by omega⟩
theorem rBar_spec {S:Nat→Prop} {w:World} {v:Value} {l:List Br} (hl:rBrs.rd S w [v] l) (id:Int):Gives Tryz.prog 152 #[v,iv id] w fun r _=>r=iv (ixOf (l.map Br.id) id):=by
 obtain⟨p,c,rfl,hc1,hc2⟩:=Rp.slice_val hl
 have hl:(Rp.slice rBr).rd (fun _=>True) w _ l:=Rp.any hl
 refine gives_of [.val (.slice p l.length c),wv id] 20 [.tmp 4] Tryz.func152 rfl rfl rfl (by simp) rfl rfl ?_
 refine W.pure dn fun K1 k1=>?_
 simp only[E,F,J,M,R,Tz,V,X,Y,reduceIte,G,H,sz];refine k1 _ ?_
 refine W.seqK fun K2 k2=>?_
 refine W.pure dn fun K3 k3=>?_
 simp only[E,F,J,M,R,Tz,V,X,Y,reduceIte,G,H,sz];refine k3 _ ?_
 refine W.block ?_
 refine W.loopK (X:=Nat) [0,1] (fun x=>[(5,wv (x:Int))]) (fun x=>x≤l.length∧∀ j,j<x→∀ y,(l.map Br.id)[j]?=some y→y≠id) (fun x=>l.length - x) 0 ?_ ?_ ?_
 · exact⟨rfl,by simp[getE,bnd,keepE],⟨[],by simp⟩,by simp[Own.bnd,bndL,bnd,boxO],by simp⟩
 ·
  exact⟨Nat.zero_le _,fun j hj=>by omega⟩
 ·
  rintro i ⟨hi,hno⟩
  simp only[E,F,J,M,R,Tz,V,X,Y,reduceIte,sxk,G,H,sz]
  refine W.seqK fun K4 k4=>?_
  refine W.pure dn fun K5 k5=>?_
  simp only[E,F,J,M,R,Tz,V,X,Y,reduceIte,G,H,sz];refine k5 _ ?_
  refine W.cond rfl rfl (fun hc=>?_) fun hc=>?_
  ·
   have hlt:i<l.length:=by simpa using hc
   obtain⟨y,hy⟩:=len_lt (rfl:l.length=_) hlt
   refine W.skip (k4 _ ?_)
   refine W.seqK fun K6 k6=>?_
   refine W.block ?_
   refine W.seqK fun K7 k7=>W.region ?_
   refine WO.go 2 dn ?_
   simp only[E,F,J,M,R,Tz,V,X,Y,reduceIte,G,H,sz]
   refine WO.elemF (y:=y) hl (by simp[St.put]) dn rfl rfl (by simp[St.put]) (fun _=>rfl) rfl (by simp[St.put]) (fun _ _=>rfl) rfl rfl rfl rfl rfl rfl el22 fo75_0 agg3 sz3 (Nat.le_of_ble_eq_true rfl) (.inr rfl) (by omega) (hy) fun p q ces hces=>?_
   have hces:ces=brV y:=hces
   subst hces
   simp only[brV,ofCells,if_true,List.toList_toArray,sr]
   refine WO.go 2 dn ?_
   simp only[E,F,J,M,R,Tz,V,X,Y,reduceIte,G,H,sz]
   refine WO.nil ?_
   refine k7 _ ?_
   refine W.cond rfl rfl (fun hc=>?_) fun hc=>?_
   ·
    have he:y.id=id:=by simpa using hc
    refine W.pure dn fun K8 k8=>?_
    simp only[E,F,J,M,R,Tz,V,X,Y,reduceIte,G,H,sz];refine k8 _ ?_
    refine W.ret ⟨by simp,_,rfl,fun ρ w1 hb=>?_⟩
    rw[ix_some hno (by rw[List.getElem?_map,hy];simp[he])];rfl
   ·
    have he:¬ y.id=id:=by simpa using hc
    refine W.skip (k6 _ ?_)
    refine W.region ?_
    refine WO.go 3 dn ?_
    simp only[E,F,J,M,R,Tz,V,X,Y,reduceIte,G,H,sz]
    refine WO.nil ?_
    refine⟨i+1,?_,by first | omega | (simp;omega),rfl,by simp[getE,bnd,keepE,wrap_succ (show i+1≤9223372036854775807 by omega)],⟨_,rfl⟩,by simp[Own.bnd,bndL,bnd,boxO],by simp⟩
    refine⟨hlt,fun j hj z hz=>?_⟩
    rcases Nat.lt_succ_iff_lt_or_eq.1 hj with h | rfl
    · exact hno j h z hz
    · rw[List.getElem?_map,hy] at hz;obtain rfl:=Option.some.inj hz;exact he
  ·
   have hge:l.length≤i:=by simpa using hc
   refine W.exit (k2 _ ?_)
   refine W.pure dn fun K9 k9=>?_
   simp only[E,F,J,M,R,Tz,V,X,Y,reduceIte,G,H,sz];refine k9 _ ?_
   refine W.ret ⟨by simp,_,rfl,fun ρ w1 hb=>?_⟩
   rw[ix_none fun j y hy=>hno j (by have:=(List.getElem?_eq_some_iff.1 hy).1;simp at this;omega) y hy];rfl
theorem rPartAt_spec {S:Nat→Prop} {w:World} {v:Value} {l:List Pt} (hl:rPts.rd S w [v] l) (id:Int):Gives Tryz.prog 13 #[v,iv id] w fun r _=>r=iv (ixOf (l.map Pt.id) id):=by
 obtain⟨p,c,rfl,hc1,hc2⟩:=Rp.slice_val hl
 have hl:(Rp.slice rPt).rd (fun _=>True) w _ l:=Rp.any hl
 refine gives_of [.val (.slice p l.length c),wv id] 20 [.tmp 4] Tryz.func13 rfl rfl rfl (by simp) rfl rfl ?_
 refine W.pure dn fun K1 k1=>?_
 simp only[E,F,J,M,R,Tz,V,X,Y,reduceIte,G,H,sz];refine k1 _ ?_
 refine W.seqK fun K2 k2=>?_
 refine W.pure dn fun K3 k3=>?_
 simp only[E,F,J,M,R,Tz,V,X,Y,reduceIte,G,H,sz];refine k3 _ ?_
 refine W.block ?_
 refine W.loopK (X:=Nat) [0,1] (fun x=>[(5,wv (x:Int))]) (fun x=>x≤l.length∧∀ j,j<x→∀ y,(l.map Pt.id)[j]?=some y→y≠id) (fun x=>l.length - x) 0 ?_ ?_ ?_
 · exact⟨rfl,by simp[getE,bnd,keepE],⟨[],by simp⟩,by simp[Own.bnd,bndL,bnd,boxO],by simp⟩
 ·
  exact⟨Nat.zero_le _,fun j hj=>by omega⟩
 ·
  rintro i ⟨hi,hno⟩
  simp only[E,F,J,M,R,Tz,V,X,Y,reduceIte,sxk,G,H,sz]
  refine W.seqK fun K4 k4=>?_
  refine W.pure dn fun K5 k5=>?_
  simp only[E,F,J,M,R,Tz,V,X,Y,reduceIte,G,H,sz];refine k5 _ ?_
  refine W.cond rfl rfl (fun hc=>?_) fun hc=>?_
  ·
   have hlt:i<l.length:=by simpa using hc
   obtain⟨y,hy⟩:=len_lt (rfl:l.length=_) hlt
   refine W.skip (k4 _ ?_)
   refine W.seqK fun K6 k6=>?_
   refine W.block ?_
   refine W.seqK fun K7 k7=>W.region ?_
   refine WO.go 2 dn ?_
   simp only[E,F,J,M,R,Tz,V,X,Y,reduceIte,G,H,sz]
   refine WO.elemF (y:=y) hl (by simp[St.put]) dn rfl rfl (by simp[St.put]) (fun _=>rfl) rfl (by simp[St.put]) (fun _ _=>rfl) rfl rfl rfl rfl rfl rfl el23 fo50_0 agg3 sz3 (Nat.le_of_ble_eq_true rfl) (.inr rfl) (by omega) (hy) fun p q ces hces=>?_
   have hces:ces=ptV y:=hces
   subst hces
   simp only[ptV,ofCells,if_true,List.toList_toArray,sr]
   refine WO.go 2 dn ?_
   simp only[E,F,J,M,R,Tz,V,X,Y,reduceIte,G,H,sz]
   refine WO.nil ?_
   refine k7 _ ?_
   refine W.cond rfl rfl (fun hc=>?_) fun hc=>?_
   ·
    have he:y.id=id:=by simpa using hc
    refine W.pure dn fun K8 k8=>?_
    simp only[E,F,J,M,R,Tz,V,X,Y,reduceIte,G,H,sz];refine k8 _ ?_
    refine W.ret ⟨by simp,_,rfl,fun ρ w1 hb=>?_⟩
    rw[ix_some hno (by rw[List.getElem?_map,hy];simp[he])];rfl
   ·
    have he:¬ y.id=id:=by simpa using hc
    refine W.skip (k6 _ ?_)
    refine W.region ?_
    refine WO.go 3 dn ?_
    simp only[E,F,J,M,R,Tz,V,X,Y,reduceIte,G,H,sz]
    refine WO.nil ?_
    refine⟨i+1,?_,by first | omega | (simp;omega),rfl,by simp[getE,bnd,keepE,wrap_succ (show i+1≤9223372036854775807 by omega)],⟨_,rfl⟩,by simp[Own.bnd,bndL,bnd,boxO],by simp⟩
    refine⟨hlt,fun j hj z hz=>?_⟩
    rcases Nat.lt_succ_iff_lt_or_eq.1 hj with h | rfl
    · exact hno j h z hz
    · rw[List.getElem?_map,hy] at hz;obtain rfl:=Option.some.inj hz;exact he
  ·
   have hge:l.length≤i:=by simpa using hc
   refine W.exit (k2 _ ?_)
   refine W.pure dn fun K9 k9=>?_
   simp only[E,F,J,M,R,Tz,V,X,Y,reduceIte,G,H,sz];refine k9 _ ?_
   refine W.ret ⟨by simp,_,rfl,fun ρ w1 hb=>?_⟩
   rw[ix_none fun j y hy=>hno j (by have:=(List.getElem?_eq_some_iff.1 hy).1;simp at this;omega) y hy];rfl
abbrev D24_:List (Option Nat):=[some 6,some 7,some 8,some 9,some 10,some 11,some 12,some 13]
abbrev D25_:List (Option Nat):=[some 26,some 27,some 28,some 29,some 30,some 31,some 32,some 33,some 34,some 35,some 36,some 37,some 38,some 39,some 40,some 41,some 42,some 43,some 44,some 45,some 46,some 47,some 48,some 49,some 50,some 51,some 52,some 53,some 54,some 55,some 56,some 57,some 58,some 59,some 60,some 61,some 62,some 63]
theorem r6Valid_spec {S:Nat→Prop} {w:World} {v:Value} {l:List Br} (hl:rBrs.rd S w [v] l):Gives Tryz.prog 50 #[v] w fun r _=>r=.bool (pb (BarsOk l)):=by
 obtain⟨p,c,rfl,hc1,hc2⟩:=Rp.slice_val hl
 have hl:(Rp.slice rBr).rd (fun _=>True) w _ l:=Rp.any hl
 have e1:∀ n:Nat,decide ((n:Int)<1)=decide (n<1):=fun n=>decide_eq_decide.2 (by omega)
 refine gives_of [.val (.slice p l.length c)] 80 [.tmp 2] Tryz.func50 rfl rfl rfl (by simp) rfl rfl ?_
 refine W.pure dn fun K1 k1=>?_
 simp only[E,F,J,M,R,Tz,V,X,Y,reduceIte,G,H,sz];refine k1 _ ?_
 refine W.seqK fun K2 k2=>?_
 refine W.join 13 (.val (.bool (decide ((l.length:Int)<1) || decide (4000<(l.length:Int))))) [0] (W.region ?_) ?_
 ·
  refine WO.go 4 (ds:=D24_) rfl ?_
  simp only[E,F,J,M,R,Tz,V,X,Y,reduceIte,G,H,sz]
  refine WO.cases 9 _ rfl (fun hg9=>?_) fun hg9=>?_
  ·
   refine WO.go 4 (ds:=D24_) rfl ?_
   simp only[E,F,J,M,R,Tz,V,X,Y,reduceIte,G,H,sz]
   refine WO.nil ?_
   refine⟨rfl,?_,⟨_,rfl⟩,by simp[Own.bnd,bndL,bnd,boxO],by simp⟩
   try rw[hg9]
   simp[getE,bnd,keepE]
  ·
   refine WO.go 4 (ds:=D24_) rfl ?_
   simp only[E,F,J,M,R,Tz,V,X,Y,reduceIte,G,H,sz]
   refine WO.nil ?_
   refine⟨rfl,?_,⟨_,rfl⟩,by simp[Own.bnd,bndL,bnd,boxO],by simp⟩
   try rw[hg9]
   simp[getE,bnd,keepE]
 ·
  simp only[E,F,J,M,R,Tz,V,X,Y,reduceIte,sxk,G,H,sz]
  refine W.cond rfl rfl (fun hc=>?_) fun hc=>?_
  ·
   have hn:¬ (1≤l.length∧l.length≤4000):=by rw[Bool.or_eq_true,decide_eq_true_eq,decide_eq_true_eq] at hc;omega
   refine W.pure dn fun K4 k4=>?_
   simp only[E,F,J,M,R,Tz,V,X,Y,reduceIte,G,H,sz];refine k4 _ ?_
   refine W.ret ⟨by simp,_,rfl,fun ρ w1 hb=>?_⟩
   rw[pb_no fun h=>hn ⟨h.one,h.len⟩];rfl
  ·
   have hn:1≤l.length∧l.length≤4000:=by rw[Bool.or_eq_false_iff,decide_eq_false_iff_not,decide_eq_false_iff_not] at hc;omega
   refine W.skip (k2 _ ?_)
   refine W.seqK fun K5 k5=>?_
   refine W.pure dn fun K6 k6=>?_
   simp only[E,F,J,M,R,Tz,V,X,Y,reduceIte,G,H,sz];refine k6 _ ?_
   refine W.block ?_
   refine W.loopK (X:=Nat) [0] (fun x=>[(3,wv (x:Int))]) (fun x=>x≤l.length∧(∀ (j:Nat) y,j<x→l[j]?=some y→BarOk y)∧((l.take x).map Br.id).Nodup) (fun x=>l.length - x) 0 ?_ ?_ ?_
   · exact⟨rfl,by simp[getE,bnd,keepE],⟨[],by simp⟩,by simp[Own.bnd,bndL,bnd,boxO],by simp⟩
   ·
    exact⟨Nat.zero_le _,fun j _ hj=>by omega,by simp⟩
   ·
    rintro i ⟨hi,hall,hnd⟩
    simp only[E,F,J,M,R,Tz,V,X,Y,reduceIte,sxk,G,H,sz]
    refine W.seqK fun K7 k7=>?_
    refine W.pure dn fun K8 k8=>?_
    simp only[E,F,J,M,R,Tz,V,X,Y,reduceIte,G,H,sz];refine k8 _ ?_
    refine W.cond rfl rfl (fun hc=>?_) fun hc=>?_
    ·
     have hlt:i<l.length:=by simpa using hc
     obtain⟨y,hy⟩:=len_lt (rfl:l.length=_) hlt
     refine W.skip (k7 _ ?_)
     refine W.seqK fun K9 k9=>?_
     refine W.block ?_
     refine W.seqK fun K10 k10=>W.region ?_
     refine WO.go 2 dn ?_
     simp only[E,F,J,M,R,Tz,V,X,Y,reduceIte,G,H,sz]
     refine WO.elemF (y:=y) hl (by simp[St.put]) dn rfl rfl (by simp[St.put]) (fun _=>rfl) rfl (by simp[St.put]) (fun _ _=>rfl) rfl rfl rfl rfl rfl rfl el22 fo75_1 agg57 sz57 (Nat.le_of_ble_eq_true rfl) (.inl rfl) (by omega) (hy) fun p q ces hces=>?_
     have hces:ces=brV y:=hces
     subst hces
     simp only[brV,ofCells,if_true,List.toList_toArray,sr]
     simp only[E,F,J,M,R,Tz,V,X,Y,reduceIte,G,H,sz]
     refine WO.call (iv (tickF y.len)) dn rfl rfl rfl co58 (fun ρ w1 hb=>rTicks_spec w1 y.len) ?_
     refine WO.go 1 dn ?_
     simp only[E,F,J,M,R,Tz,V,X,Y,reduceIte,G,H,sz]
     refine WO.nil ?_
     refine k10 _ ?_
     refine W.seqK fun K11 k11=>?_
     refine W.join 63 (.val (.bool (!pb (BarOk y)))) [0,3] (W.region ?_) ?_
     ·
      refine WO.go 2 (ds:=D25_) rfl ?_
      simp only[E,F,J,M,R,Tz,V,X,Y,reduceIte,G,H,sz]
      refine WO.elemF (y:=y) hl (by simp[St.put]) (ds:=D25_) rfl rfl rfl (by simp[St.put]) (fun _=>rfl) rfl (by simp[St.put]) (fun _ _=>rfl) rfl rfl rfl rfl rfl rfl el22 fo75_0 agg3 sz3 (Nat.le_of_ble_eq_true rfl) (.inr rfl) (by omega) (hy) fun p q ces hces=>?_
      have hces:ces=brV y:=hces
      subst hces
      simp only[brV,ofCells,if_true,List.toList_toArray,sr]
      refine WO.go 2 (ds:=D25_) rfl ?_
      simp only[E,F,J,M,R,Tz,V,X,Y,reduceIte,G,H,sz]
      refine WO.cases 32 _ rfl (fun hg32=>?_) fun hg32=>?_
      ·
       refine WO.go 31 (ds:=D25_) rfl ?_
       simp only[E,F,J,M,R,Tz,V,X,Y,reduceIte,G,H,sz]
       refine WO.nil ?_
       refine⟨rfl,?_,⟨_,rfl⟩,by simp[Own.bnd,bndL,bnd,boxO],by simp⟩
       rw[bar_eq]
       try rw[hg32]
       try rw[hg40]
       try rw[hg44]
       try rw[hg48]
       try rw[hg56]
       simp[getE,bnd,keepE]
      ·
       refine WO.go 2 (ds:=D25_) rfl ?_
       simp only[E,F,J,M,R,Tz,V,X,Y,reduceIte,G,H,sz]
       refine WO.elemF (y:=y) hl (by simp[St.put]) (ds:=D25_) rfl rfl rfl (by simp[St.put]) (fun _=>rfl) rfl (by simp[St.put]) (fun _ _=>rfl) rfl rfl rfl rfl rfl rfl el22 fo75_0 agg3 sz3 (Nat.le_of_ble_eq_true rfl) (.inr rfl) (by omega) (hy) fun p q ces hces=>?_
       have hces:ces=brV y:=hces
       subst hces
       simp only[brV,ofCells,if_true,List.toList_toArray,sr]
       refine WO.go 3 (ds:=D25_) rfl ?_
       simp only[E,F,J,M,R,Tz,V,X,Y,reduceIte,G,H,sz]
       refine WO.cases 40 _ rfl (fun hg40=>?_) fun hg40=>?_
       ·
        refine WO.go 23 (ds:=D25_) rfl ?_
        simp only[E,F,J,M,R,Tz,V,X,Y,reduceIte,G,H,sz]
        refine WO.nil ?_
        refine⟨rfl,?_,⟨_,rfl⟩,by simp[Own.bnd,bndL,bnd,boxO],by simp⟩
        rw[bar_eq]
        try rw[hg32]
        try rw[hg40]
        try rw[hg44]
        try rw[hg48]
        try rw[hg56]
        simp[getE,bnd,keepE]
       ·
        refine WO.go 4 (ds:=D25_) rfl ?_
        simp only[E,F,J,M,R,Tz,V,X,Y,reduceIte,G,H,sz]
        refine WO.cases 44 _ rfl (fun hg44=>?_) fun hg44=>?_
        ·
         refine WO.go 19 (ds:=D25_) rfl ?_
         simp only[E,F,J,M,R,Tz,V,X,Y,reduceIte,G,H,sz]
         refine WO.nil ?_
         refine⟨rfl,?_,⟨_,rfl⟩,by simp[Own.bnd,bndL,bnd,boxO],by simp⟩
         rw[bar_eq]
         try rw[hg32]
         try rw[hg40]
         try rw[hg44]
         try rw[hg48]
         try rw[hg56]
         simp[getE,bnd,keepE]
        ·
         refine WO.go 4 (ds:=D25_) rfl ?_
         simp only[E,F,J,M,R,Tz,V,X,Y,reduceIte,G,H,sz]
         refine WO.cases 48 _ rfl (fun hg48=>?_) fun hg48=>?_
         ·
          refine WO.go 15 (ds:=D25_) rfl ?_
          simp only[E,F,J,M,R,Tz,V,X,Y,reduceIte,G,H,sz]
          refine WO.nil ?_
          refine⟨rfl,?_,⟨_,rfl⟩,by simp[Own.bnd,bndL,bnd,boxO],by simp⟩
          rw[bar_eq]
          try rw[hg32]
          try rw[hg40]
          try rw[hg44]
          try rw[hg48]
          try rw[hg56]
          simp[getE,bnd,keepE]
         ·
          refine WO.go 2 (ds:=D25_) rfl ?_
          simp only[E,F,J,M,R,Tz,V,X,Y,reduceIte,G,H,sz]
          refine WO.elemF (y:=y) hl (by simp[St.put]) (ds:=D25_) rfl rfl rfl (by simp[St.put]) (fun _=>rfl) rfl (by simp[St.put]) (fun _ _=>rfl) rfl rfl rfl rfl rfl rfl el22 fo75_2 agg3 sz3 (Nat.le_of_ble_eq_true rfl) (.inr rfl) (by omega) (hy) fun p q ces hces=>?_
          have hces:ces=brV y:=hces
          subst hces
          simp only[brV,ofCells,if_true,List.toList_toArray,sr]
          refine WO.go 3 (ds:=D25_) rfl ?_
          simp only[E,F,J,M,R,Tz,V,X,Y,reduceIte,G,H,sz]
          refine WO.cases 56 _ rfl (fun hg56=>?_) fun hg56=>?_
          ·
           refine WO.go 7 (ds:=D25_) rfl ?_
           simp only[E,F,J,M,R,Tz,V,X,Y,reduceIte,G,H,sz]
           refine WO.nil ?_
           refine⟨rfl,?_,⟨_,rfl⟩,by simp[Own.bnd,bndL,bnd,boxO],by simp⟩
           rw[bar_eq]
           try rw[hg32]
           try rw[hg40]
           try rw[hg44]
           try rw[hg48]
           try rw[hg56]
           simp[getE,bnd,keepE]
          ·
           refine WO.go 2 (ds:=D25_) rfl ?_
           simp only[E,F,J,M,R,Tz,V,X,Y,reduceIte,G,H,sz]
           refine WO.elemF (y:=y) hl (by simp[St.put]) (ds:=D25_) rfl rfl rfl (by simp[St.put]) (fun _=>rfl) rfl (by simp[St.put]) (fun _ _=>rfl) rfl rfl rfl rfl rfl rfl el22 fo75_2 agg3 sz3 (Nat.le_of_ble_eq_true rfl) (.inr rfl) (by omega) (hy) fun p q ces hces=>?_
           have hces:ces=brV y:=hces
           subst hces
           simp only[brV,ofCells,if_true,List.toList_toArray,sr]
           refine WO.go 2 (ds:=D25_) rfl ?_
           simp only[E,F,J,M,R,Tz,V,X,Y,reduceIte,G,H,sz]
           refine WO.nil ?_
           refine⟨rfl,?_,⟨_,rfl⟩,by simp[Own.bnd,bndL,bnd,boxO],by simp⟩
           rw[bar_eq]
           try rw[hg32]
           try rw[hg40]
           try rw[hg44]
           try rw[hg48]
           try rw[hg56]
           simp[getE,bnd,keepE]
     ·
      simp only[E,F,J,M,R,Tz,V,X,Y,reduceIte,sxk,G,H,sz]
      refine W.cond rfl rfl (fun hc=>?_) fun hc=>?_
      ·
       have hb9:¬ BarOk y:=pb_not (by simpa using hc)
       refine W.pure dn fun K13 k13=>?_
       simp only[E,F,J,M,R,Tz,V,X,Y,reduceIte,G,H,sz];refine k13 _ ?_
       refine W.ret ⟨by simp,_,rfl,fun ρ w1 hb=>?_⟩
       rw[pb_no fun h=>hb9 (h.all y (List.mem_of_getElem? hy))];rfl
      ·
       have hb9:BarOk y:=pb_of (by simpa using hc)
       refine W.skip (k11 _ ?_)
       refine W.pure dn fun K14 k14=>?_
       simp only[E,F,J,M,R,Tz,V,X,Y,reduceIte,G,H,sz];refine k14 _ ?_
       refine W.block ?_
       refine W.loopK (X:=Nat) [0,3] (fun x=>[(5,wv (x:Int))]) (fun x=>x≤i∧∀ j,j<x→∀ z,l[j]?=some z→z.id≠y.id) (fun x=>i - x) 0 ?_ ?_ ?_
       · exact⟨rfl,by simp[getE,bnd,keepE],⟨[],by simp⟩,by simp[Own.bnd,bndL,bnd,boxO],by simp⟩
       ·
        exact⟨Nat.zero_le _,fun j hj=>by omega⟩
       ·
        rintro k ⟨hk,hno⟩
        simp only[E,F,J,M,R,Tz,V,X,Y,reduceIte,sxk,G,H,sz]
        refine W.seqK fun K15 k15=>?_
        refine W.pure dn fun K16 k16=>?_
        simp only[E,F,J,M,R,Tz,V,X,Y,reduceIte,G,H,sz];refine k16 _ ?_
        refine W.cond rfl rfl (fun hc=>?_) fun hc=>?_
        ·
         have hlk:k<i:=by simpa using hc
         obtain⟨z,hz⟩:=len_lt (rfl:l.length=_) (show k<l.length by omega)
         refine W.skip (k15 _ ?_)
         refine W.seqK fun K17 k17=>?_
         refine W.block ?_
         refine W.seqK fun K18 k18=>?_
         refine W.regionQ mixed (by kernel_rfl) ?_
         refine WQ.go 2 dn ?_
         simp only[E,F,J,M,R,Tz,V,X,Y,reduceIte,sxq,G,H,sz]
         refine WQ.elemF (y:=z) hl (by simp[St.put]) dn rfl rfl (by simp[St.put]) (fun _=>rfl) rfl (by simp[St.put]) (fun _ _=>rfl) rfl rfl rfl rfl rfl rfl el22 fo75_0 agg3 sz3 (Nat.le_of_ble_eq_true rfl) (.inr rfl) (by omega) (hz) fun p q ces hces=>?_
         have hces:ces=brV z:=hces
         subst hces
         simp only[brV,ofCells,if_true,List.toList_toArray,sr]
         refine WQ.go 2 dn ?_
         simp only[E,F,J,M,R,Tz,V,X,Y,reduceIte,sxq,G,H,sz]
         refine WQ.elemF (y:=y) hl (by simp[St.put]) dn rfl rfl (by simp[St.put]) (fun _=>rfl) rfl (by simp[St.put]) (fun _ _=>rfl) rfl rfl rfl rfl rfl rfl el22 fo75_0 agg3 sz3 (Nat.le_of_ble_eq_true rfl) (.inr rfl) (by omega) (hy) fun p q ces hces=>?_
         have hces:ces=brV y:=hces
         subst hces
         simp only[brV,ofCells,if_true,List.toList_toArray,sr]
         refine WQ.go 1 dn ?_
         simp only[E,F,J,M,R,Tz,V,X,Y,reduceIte,sxq,G,H,sz]
         refine WQ.nil ?_
         refine k18 _ ?_
         refine W.cond rfl rfl (fun hc=>?_) fun hc=>?_
         ·
          have he:z.id=y.id:=by simpa using hc
          refine W.pure dn fun K19 k19=>?_
          simp only[E,F,J,M,R,Tz,V,X,Y,reduceIte,G,H,sz];refine k19 _ ?_
          refine W.ret ⟨by simp,_,rfl,fun ρ w1 hb=>?_⟩
          rw[pb_no fun h=>by have:=nodup_not h.nd hy hz he;omega];rfl
         ·
          have he:¬ z.id=y.id:=by simpa using hc
          refine W.skip (k17 _ ?_)
          refine W.region ?_
          refine WO.go 3 dn ?_
          simp only[E,F,J,M,R,Tz,V,X,Y,reduceIte,G,H,sz]
          refine WO.nil ?_
          refine⟨k+1,?_,by first | omega | (simp;omega),rfl,by simp[getE,bnd,keepE,wrap_succ (show k+1≤9223372036854775807 by omega)],⟨_,rfl⟩,by simp[Own.bnd,bndL,bnd,boxO],by simp⟩
          refine⟨hlk,fun j hj u hu=>?_⟩
          rcases Nat.lt_succ_iff_lt_or_eq.1 hj with h | rfl
          · exact hno j h u hu
          · rw[hz] at hu;obtain rfl:=Option.some.inj hu;exact he
        ·
         have hki:k=i:=by have:¬ k<i:=(by simpa using hc);omega
         refine W.exit (k9 _ ?_)
         refine W.region ?_
         refine WO.go 3 dn ?_
         simp only[E,F,J,M,R,Tz,V,X,Y,reduceIte,G,H,sz]
         refine WO.nil ?_
         refine⟨i+1,?_,by first | omega | (simp;omega),rfl,by simp[getE,bnd,keepE,wrap_succ (show i+1≤9223372036854775807 by omega)],⟨_,rfl⟩,by simp[Own.bnd,bndL,bnd,boxO],by simp⟩
         subst hki
         refine⟨hlt,fun j u hj hu=>?_,nodup_snoc hnd hy hno⟩
         rcases Nat.lt_succ_iff_lt_or_eq.1 hj with h | rfl
         · exact hall j u h hu
         · rw[hy] at hu;obtain rfl:=Option.some.inj hu;exact hb9
    ·
     have hge:l.length≤i:=by simpa using hc
     refine W.exit (k5 _ ?_)
     refine W.pure dn fun K20 k20=>?_
     simp only[E,F,J,M,R,Tz,V,X,Y,reduceIte,G,H,sz];refine k20 _ ?_
     refine W.ret ⟨by simp,_,rfl,fun ρ w1 hb=>?_⟩
     rw[pb_yes ⟨hn.1,hn.2,all_at fun j y hy=>hall j y (by have:=(List.getElem?_eq_some_iff.1 hy).1;omega) hy,by rw[List.take_of_length_le hge] at hnd;exact hnd⟩];rfl
def noteE (bars:List Br) (n:Nt):Bool:=(((((decide (ixOf (bars.map Br.id) n.bar<0) || !isNoteP n.pit) || !within 1 1000000 n.id) || !within 1 1000000 n.part) || !within 0 9 n.voice) || !within 0 20 n.ossia)
theorem noteE_eq (bars:List Br) (n:Nt):noteE bars n=(((((decide (ixOf (bars.map Br.id) n.bar<0) || !isNoteP n.pit) || !within 1 1000000 n.id) || !within 1 1000000 n.part) || !within 0 9 n.voice) || !within 0 20 n.ossia):=rfl
theorem noteE_no {bars:List Br} {n:Nt} (h:noteE bars n=true):¬ NoteOk bars n:=fun h9=>by
 obtain⟨b,h1,h2,_⟩:=h9.bar
 have h3:0≤ixOf (bars.map Br.id) n.bar:=ix_mem.2 (List.mem_map.2 ⟨b,h1,h2⟩)
 have h4:¬ ixOf (bars.map Br.id) n.bar<0:=by omega
 simp[noteE,h9.pit,h9.id,h9.part,h9.voice,h9.ossia,h4] at h
theorem noteE_yes {bars:List Br} {n:Nt} (h:noteE bars n=false):∃ (i:Nat) (b:Br),ixOf (bars.map Br.id) n.bar=i∧bars[i]?=some b∧b.id=n.bar∧isNoteP n.pit=true∧within 1 1000000 n.id=true∧within 1 1000000 n.part=true∧within 0 9 n.voice=true∧within 0 20 n.ossia=true:=by
 unfold noteE at h
 simp only[Bool.or_eq_false_iff,Bool.not_eq_false',decide_eq_false_iff_not] at h
 obtain⟨⟨⟨⟨⟨h1,h2⟩,h3⟩,h4⟩,h5⟩,h6⟩:=h
 rcases ix_cases (bars.map Br.id) n.bar with⟨g,_⟩ | ⟨i,g1,g2,_⟩
 · omega
 ·
  rw[List.getElem?_map,Option.map_eq_some_iff] at g2
  obtain⟨b,g3,g4⟩:=g2
  exact⟨i,b,g1,g3,g4,h2,h3,h4,h5,h6⟩
theorem note_eq {bars:List Br} {n:Nt} (hb:BarsOk bars) (h:noteE bars n=false) {i:Nat} {b:Br} (hi:ixOf (bars.map Br.id) n.bar=i) (hy:bars[i]?=some b):pb (NoteOk bars n)=(decide (0≤tickF n.start) && (decide (0<tickF n.len) && decide (tickF n.start+tickF n.len≤tickF b.len))):=by
 obtain⟨i',b',g1,g2,g3,g4,g5,g6,g7,g8⟩:=noteE_yes h
 obtain rfl:i'=i:=by omega
 obtain rfl:b'=b:=Option.some.inj (g2.symm.trans hy)
 by_cases h9:0≤tickF n.start∧0<tickF n.len∧tickF n.start+tickF n.len≤tickF b'.len
 ·
  rw[pb_yes ⟨g4,g5,g6,g7,g8,tick_ok h9.1,h9.2.1,b',List.mem_of_getElem? g2,g3,h9.2.2⟩]
  simp[h9]
 ·
  rw[pb_no fun hn=>by
   obtain⟨b2,q1,q2,q3⟩:=hn.bar
   obtain⟨j,q4⟩:=List.mem_iff_getElem?.1 q1
   obtain rfl:=nodup_not hb.nd g2 q4 (by rw[q2,g3])
   obtain rfl:b2=b':=Option.some.inj (q4.symm.trans g2)
   have:=hn.start
   rw[← tick_nonneg] at this
   exact h9 ⟨of_decide_eq_true this,hn.len,q3⟩]
  symm
  rw[← Bool.not_eq_true]
  intro h8
  simp only[Bool.and_eq_true,decide_eq_true_eq] at h8
  exact h9 h8
abbrev D27_:List (Option Nat):=[some 52,some 53,some 54,some 55,some 56,some 57,some 58,some 59,some 60,some 61,some 62,some 63,some 64,some 65,some 66,some 67,some 68,some 69,some 4]
abbrev D26_:List (Option Nat):=[some 16,some 17,some 18,some 19,some 20,some 21,some 22,some 23,some 24,some 25,some 26,some 27,some 28,some 29,some 30,some 31,some 32,some 33,some 34,some 35,some 36,some 37,some 38,some 39,some 40,some 41,some 42,some 43,some 44,some 45]
theorem r7Note_spec {S:Nat→Prop} {w:World} {v:Value} {bars:List Br} (hl:rBrs.rd S w [v] bars) (hb9:BarsOk bars) (n:Nt):Gives Tryz.prog 102 #[v,(ntq n)] w fun r _=>r=.bool (pb (NoteOk bars n)):=by
 obtain⟨p,c,rfl,hc1,hc2⟩:=Rp.slice_val hl
 have hl:(Rp.slice rBr).rd (fun _=>True) w _ bars:=Rp.any hl
 have t1:=tick_bound n.start
 have t2:=tick_bound n.len
 have hww:=wrap_id (x:=tickF n.start+tickF n.len) (by omega) (by omega)
 refine gives_of [.val (.slice p bars.length c),.agg (ntw n)] 70 [.tmp 4] Tryz.func102 rfl rfl rfl (by simp) rfl rfl ?_
 refine W.pure dn fun K1 k1=>?_
 simp only[E,F,J,M,R,Tz,V,X,Y,reduceIte,G,H,sz];refine k1 _ ?_
 refine W.seqK fun K2 k2=>W.region ?_
 refine WO.go 3 dn ?_
 simp only[E,F,J,M,R,Tz,V,X,Y,reduceIte,G,H,sz]
 refine WO.call (iv (ixOf (bars.map Br.id) n.bar)) dn rfl rfl rfl co152 (fun ρ w1 hb=>rBar_spec (Rp.now hl (hb.first (by simp))) n.bar) ?_
 refine WO.go 1 dn ?_
 simp only[E,F,J,M,R,Tz,V,X,Y,reduceIte,G,H,sz]
 refine WO.nil ?_
 refine k2 _ ?_
 refine W.seqK fun K3 k3=>W.region ?_
 refine WO.go 2 dn ?_
 simp only[E,F,J,M,R,Tz,V,X,Y,reduceIte,G,H,sz]
 refine WO.call (.bool (isNoteP n.pit)) dn rfl rfl rfl co158 (fun ρ w1 hb=>r2isNote_spec w1 n.pit) ?_
 refine WO.go 1 dn ?_
 simp only[E,F,J,M,R,Tz,V,X,Y,reduceIte,G,H,sz]
 refine WO.nil ?_
 refine k3 _ ?_
 refine W.seqK fun K4 k4=>?_
 refine W.join 45 (.val (.bool (noteE bars n))) [0,3,5] (W.region ?_) ?_
 ·
  refine WO.go 3 (ds:=D26_) rfl ?_
  simp only[E,F,J,M,R,Tz,V,X,Y,reduceIte,G,H,sz]
  refine WO.cases 18 _ rfl (fun hg18=>?_) fun hg18=>?_
  ·
   refine WO.go 27 (ds:=D26_) rfl ?_
   simp only[E,F,J,M,R,Tz,V,X,Y,reduceIte,G,H,sz]
   refine WO.nil ?_
   refine⟨rfl,?_,⟨_,rfl⟩,by simp[Own.bnd,bndL,bnd,boxO],by simp⟩
   rw[noteE_eq]
   try rw[hg18]
   try rw[hg22]
   try rw[hg28]
   try rw[hg34]
   try rw[hg40]
   simp[getE,bnd,keepE]
  ·
   refine WO.go 4 (ds:=D26_) rfl ?_
   simp only[E,F,J,M,R,Tz,V,X,Y,reduceIte,G,H,sz]
   refine WO.cases 22 _ rfl (fun hg22=>?_) fun hg22=>?_
   ·
    refine WO.go 23 (ds:=D26_) rfl ?_
    simp only[E,F,J,M,R,Tz,V,X,Y,reduceIte,G,H,sz]
    refine WO.nil ?_
    refine⟨rfl,?_,⟨_,rfl⟩,by simp[Own.bnd,bndL,bnd,boxO],by simp⟩
    rw[noteE_eq]
    try rw[hg18]
    try rw[hg22]
    try rw[hg28]
    try rw[hg34]
    try rw[hg40]
    simp[getE,bnd,keepE]
   ·
    refine WO.go 2 (ds:=D26_) rfl ?_
    simp only[E,F,J,M,R,Tz,V,X,Y,reduceIte,G,H,sz]
    refine WO.call (.bool (within 1 1000000 n.id)) (ds:=D26_) rfl rfl rfl rfl co159 (fun ρ w1 hb=>r7in_spec w1 _ _ _) ?_
    refine WO.go 3 (ds:=D26_) rfl ?_
    simp only[E,F,J,M,R,Tz,V,X,Y,reduceIte,G,H,sz]
    refine WO.cases 28 _ rfl (fun hg28=>?_) fun hg28=>?_
    ·
     refine WO.go 17 (ds:=D26_) rfl ?_
     simp only[E,F,J,M,R,Tz,V,X,Y,reduceIte,G,H,sz]
     refine WO.nil ?_
     refine⟨rfl,?_,⟨_,rfl⟩,by simp[Own.bnd,bndL,bnd,boxO],by simp⟩
     rw[noteE_eq]
     try rw[hg18]
     try rw[hg22]
     try rw[hg28]
     try rw[hg34]
     try rw[hg40]
     simp[getE,bnd,keepE]
    ·
     refine WO.go 2 (ds:=D26_) rfl ?_
     simp only[E,F,J,M,R,Tz,V,X,Y,reduceIte,G,H,sz]
     refine WO.call (.bool (within 1 1000000 n.part)) (ds:=D26_) rfl rfl rfl rfl co159 (fun ρ w1 hb=>r7in_spec w1 _ _ _) ?_
     refine WO.go 3 (ds:=D26_) rfl ?_
     simp only[E,F,J,M,R,Tz,V,X,Y,reduceIte,G,H,sz]
     refine WO.cases 34 _ rfl (fun hg34=>?_) fun hg34=>?_
     ·
      refine WO.go 11 (ds:=D26_) rfl ?_
      simp only[E,F,J,M,R,Tz,V,X,Y,reduceIte,G,H,sz]
      refine WO.nil ?_
      refine⟨rfl,?_,⟨_,rfl⟩,by simp[Own.bnd,bndL,bnd,boxO],by simp⟩
      rw[noteE_eq]
      try rw[hg18]
      try rw[hg22]
      try rw[hg28]
      try rw[hg34]
      try rw[hg40]
      simp[getE,bnd,keepE]
     ·
      refine WO.go 2 (ds:=D26_) rfl ?_
      simp only[E,F,J,M,R,Tz,V,X,Y,reduceIte,G,H,sz]
      refine WO.call (.bool (within 0 9 n.voice)) (ds:=D26_) rfl rfl rfl rfl co159 (fun ρ w1 hb=>r7in_spec w1 _ _ _) ?_
      refine WO.go 3 (ds:=D26_) rfl ?_
      simp only[E,F,J,M,R,Tz,V,X,Y,reduceIte,G,H,sz]
      refine WO.cases 40 _ rfl (fun hg40=>?_) fun hg40=>?_
      ·
       refine WO.go 5 (ds:=D26_) rfl ?_
       simp only[E,F,J,M,R,Tz,V,X,Y,reduceIte,G,H,sz]
       refine WO.nil ?_
       refine⟨rfl,?_,⟨_,rfl⟩,by simp[Own.bnd,bndL,bnd,boxO],by simp⟩
       rw[noteE_eq]
       try rw[hg18]
       try rw[hg22]
       try rw[hg28]
       try rw[hg34]
       try rw[hg40]
       simp[getE,bnd,keepE]
      ·
       refine WO.go 2 (ds:=D26_) rfl ?_
       simp only[E,F,J,M,R,Tz,V,X,Y,reduceIte,G,H,sz]
       refine WO.call (.bool (within 0 20 n.ossia)) (ds:=D26_) rfl rfl rfl rfl co159 (fun ρ w1 hb=>r7in_spec w1 _ _ _) ?_
       refine WO.go 2 (ds:=D26_) rfl ?_
       simp only[E,F,J,M,R,Tz,V,X,Y,reduceIte,G,H,sz]
       refine WO.nil ?_
       refine⟨rfl,?_,⟨_,rfl⟩,by simp[Own.bnd,bndL,bnd,boxO],by simp⟩
       rw[noteE_eq]
       try rw[hg18]
       try rw[hg22]
       try rw[hg28]
       try rw[hg34]
       try rw[hg40]
       simp[getE,bnd,keepE]
 ·
  simp only[E,F,J,M,R,Tz,V,X,Y,reduceIte,sxk,G,H,sz]
  refine W.cond rfl rfl (fun hc=>?_) fun hc=>?_
  ·
   have hno:=noteE_no (by simpa using hc:noteE bars n=true)
   refine W.pure dn fun K6 k6=>?_
   simp only[E,F,J,M,R,Tz,V,X,Y,reduceIte,G,H,sz];refine k6 _ ?_
   refine W.ret ⟨by simp,_,rfl,fun ρ w1 hb=>?_⟩
   rw[pb_no hno];rfl
  ·
   have hE:noteE bars n=false:=by simpa using hc
   obtain⟨i,y,hix,hy,_⟩:=noteE_yes hE
   have hne:=note_eq hb9 hE hix hy
   simp only[hix]
   refine W.skip (k4 _ ?_)
   refine W.seqK fun K7 k7=>W.region ?_
   refine WO.go 2 dn ?_
   simp only[E,F,J,M,R,Tz,V,X,Y,reduceIte,G,H,sz]
   refine WO.call (iv (tickF n.start)) dn rfl rfl rfl co58 (fun ρ w1 hb=>rTicks_spec w1 n.start) ?_
   refine WO.go 1 dn ?_
   simp only[E,F,J,M,R,Tz,V,X,Y,reduceIte,G,H,sz]
   refine WO.nil ?_
   refine k7 _ ?_
   refine W.seqK fun K8 k8=>W.region ?_
   refine WO.go 2 dn ?_
   simp only[E,F,J,M,R,Tz,V,X,Y,reduceIte,G,H,sz]
   refine WO.call (iv (tickF n.len)) dn rfl rfl rfl co58 (fun ρ w1 hb=>rTicks_spec w1 n.len) ?_
   refine WO.go 1 dn ?_
   simp only[E,F,J,M,R,Tz,V,X,Y,reduceIte,G,H,sz]
   refine WO.nil ?_
   refine k8 _ ?_
   refine W.join 4 (.val (.bool (pb (NoteOk bars n)))) [] (W.region ?_) ?_
   ·
    refine WO.go 3 (ds:=D27_) rfl ?_
    simp only[E,F,J,M,R,Tz,V,X,Y,reduceIte,G,H,hww,sz]
    refine WO.cases 54 _ rfl (fun hg54=>?_) fun hg54=>?_
    ·
     refine WO.go 4 (ds:=D27_) rfl ?_
     simp only[E,F,J,M,R,Tz,V,X,Y,reduceIte,G,H,hww,sz]
     refine WO.cases 58 _ rfl (fun hg58=>?_) fun hg58=>?_
     ·
      refine WO.go 5 (ds:=D27_) rfl ?_
      simp only[E,F,J,M,R,Tz,V,X,Y,reduceIte,G,H,hww,sz]
      refine WO.elemF (y:=y) hl (by simp[St.put]) (ds:=D27_) rfl rfl rfl (by simp[St.put]) (fun _=>rfl) rfl (by simp[St.put]) (fun _ _=>rfl) rfl rfl rfl rfl rfl rfl el22 fo75_1 agg57 sz57 (Nat.le_of_ble_eq_true rfl) (.inl rfl) (by omega) (hy) fun p q ces hces=>?_
      have hces:ces=brV y:=hces
      subst hces
      simp only[brV,ofCells,if_true,List.toList_toArray,sr]
      simp only[E,F,J,M,R,Tz,V,X,Y,reduceIte,G,H,hww,sz]
      refine WO.call (iv (tickF y.len)) (ds:=D27_) rfl rfl rfl rfl co58 (fun ρ w1 hb=>rTicks_spec w1 y.len) ?_
      refine WO.go 3 (ds:=D27_) rfl ?_
      simp only[E,F,J,M,R,Tz,V,X,Y,reduceIte,G,H,hww,sz]
      refine WO.nil ?_
      refine⟨rfl,?_,⟨_,rfl⟩,by simp[Own.bnd,bndL,bnd,boxO],by simp⟩
      rw[hne]
      try rw[hg54]
      try rw[hg58]
      simp[getE,bnd,keepE]
     ·
      refine WO.go 12 (ds:=D27_) rfl ?_
      simp only[E,F,J,M,R,Tz,V,X,Y,reduceIte,G,H,hww,sz]
      refine WO.nil ?_
      refine⟨rfl,?_,⟨_,rfl⟩,by simp[Own.bnd,bndL,bnd,boxO],by simp⟩
      rw[hne]
      try rw[hg54]
      try rw[hg58]
      simp[getE,bnd,keepE]
    ·
     refine WO.go 16 (ds:=D27_) rfl ?_
     simp only[E,F,J,M,R,Tz,V,X,Y,reduceIte,G,H,hww,sz]
     refine WO.nil ?_
     refine⟨rfl,?_,⟨_,rfl⟩,by simp[Own.bnd,bndL,bnd,boxO],by simp⟩
     rw[hne]
     try rw[hg54]
     try rw[hg58]
     simp[getE,bnd,keepE]
   ·
    simp only[E,F,J,M,R,Tz,V,X,Y,reduceIte,sxk,G,H,hww,sz]
    refine W.ret ⟨by simp,_,rfl,fun ρ w1 hb=>?_⟩
    rfl
theorem r7Valid_spec {S S2:Nat→Prop} {w:World} {v u:Value} {bars:List Br} {l:List Nt} (hl:rBrs.rd S w [v] bars) (hl2:rNts.rd S2 w [u] l):Gives Tryz.prog 53 #[v,u] w fun r _=>r=.bool (pb (NotesOk bars l)):=by
 obtain⟨p,c,rfl,hc1,hc2⟩:=Rp.slice_val hl
 have hl:(Rp.slice rBr).rd (fun _=>True) w _ bars:=Rp.any hl
 obtain⟨p2,c2,rfl,hc3,hc4⟩:=Rp.slice_val hl2
 have hl2:(Rp.slice rNt).rd (fun _=>True) w _ l:=Rp.any hl2
 refine gives_of [.val (.slice p bars.length c),.val (.slice p2 l.length c2)] 48 [.tmp 4] Tryz.func53 rfl rfl rfl (by simp) rfl rfl ?_
 refine W.pure dn fun K1 k1=>?_
 simp only[E,F,J,M,R,Tz,V,X,Y,reduceIte,G,H,sz];refine k1 _ ?_
 refine W.seqK fun K2 k2=>W.region ?_
 refine WO.go 1 dn ?_
 simp only[E,F,J,M,R,Tz,V,X,Y,reduceIte,G,H,sz]
 refine WO.call (.bool (pb (BarsOk bars))) dn rfl rfl rfl co50 (fun ρ w1 hb=>r6Valid_spec (Rp.now hl (hb.first (by simp)))) ?_
 refine WO.go 1 dn ?_
 simp only[E,F,J,M,R,Tz,V,X,Y,reduceIte,G,H,sz]
 refine WO.nil ?_
 refine k2 _ ?_
 refine W.seqK fun K3 k3=>?_
 refine W.join 17 (.val (.bool (!(pb (BarsOk bars)) || decide (20000<(l.length:Int))))) [0,1] (W.region ?_) ?_
 ·
  refine WO.go 3 (ds:=D17_) rfl ?_
  simp only[E,F,J,M,R,Tz,V,X,Y,reduceIte,G,H,sz]
  refine WO.cases 13 _ rfl (fun hg13=>?_) fun hg13=>?_
  ·
   refine WO.go 4 (ds:=D17_) rfl ?_
   simp only[E,F,J,M,R,Tz,V,X,Y,reduceIte,G,H,sz]
   refine WO.nil ?_
   refine⟨rfl,?_,⟨_,rfl⟩,by simp[Own.bnd,bndL,bnd,boxO],by simp⟩
   try rw[hg13]
   simp[getE,bnd,keepE]
  ·
   refine WO.go 4 (ds:=D17_) rfl ?_
   simp only[E,F,J,M,R,Tz,V,X,Y,reduceIte,G,H,sz]
   refine WO.nil ?_
   refine⟨rfl,?_,⟨_,rfl⟩,by simp[Own.bnd,bndL,bnd,boxO],by simp⟩
   try rw[hg13]
   simp[getE,bnd,keepE]
 ·
  simp only[E,F,J,M,R,Tz,V,X,Y,reduceIte,sxk,G,H,sz]
  refine W.cond rfl rfl (fun hc=>?_) fun hc=>?_
  ·
   have hn:¬ (BarsOk bars∧l.length≤20000):=fun⟨q1,q2⟩=>by rw[pb_yes q1,Bool.not_true,Bool.false_or,decide_eq_true_eq] at hc;omega
   refine W.pure dn fun K5 k5=>?_
   simp only[E,F,J,M,R,Tz,V,X,Y,reduceIte,G,H,sz];refine k5 _ ?_
   refine W.ret ⟨by simp,_,rfl,fun ρ w1 hb=>?_⟩
   rw[pb_no fun h=>hn ⟨h.br,h.len⟩];rfl
  ·
   have hn:BarsOk bars∧l.length≤20000:=by rw[Bool.or_eq_false_iff,Bool.not_eq_false',decide_eq_false_iff_not] at hc;exact⟨pb_of hc.1,by omega⟩
   refine W.skip (k3 _ ?_)
   refine W.seqK fun K6 k6=>?_
   refine W.pure dn fun K7 k7=>?_
   simp only[E,F,J,M,R,Tz,V,X,Y,reduceIte,G,H,sz];refine k7 _ ?_
   refine W.block ?_
   refine W.loopK (X:=Nat) [0,1] (fun x=>[(6,wv (x:Int))]) (fun x=>x≤l.length∧(∀ (j:Nat) y,j<x→l[j]?=some y→NoteOk bars y)∧((l.take x).map Nt.id).Nodup) (fun x=>l.length - x) 0 ?_ ?_ ?_
   · exact⟨rfl,by simp[getE,bnd,keepE],⟨[],by simp⟩,by simp[Own.bnd,bndL,bnd,boxO],by simp⟩
   ·
    exact⟨Nat.zero_le _,fun j _ hj=>by omega,by simp⟩
   ·
    rintro i ⟨hi,hall,hnd⟩
    simp only[E,F,J,M,R,Tz,V,X,Y,reduceIte,sxk,G,H,sz]
    refine W.seqK fun K8 k8=>?_
    refine W.pure dn fun K9 k9=>?_
    simp only[E,F,J,M,R,Tz,V,X,Y,reduceIte,G,H,sz];refine k9 _ ?_
    refine W.cond rfl rfl (fun hc=>?_) fun hc=>?_
    ·
     have hlt:i<l.length:=by simpa using hc
     obtain⟨y,hy⟩:=len_lt (rfl:l.length=_) hlt
     refine W.skip (k8 _ ?_)
     refine W.seqK fun K10 k10=>?_
     refine W.block ?_
     refine W.seqK fun K11 k11=>W.region ?_
     refine WO.go 3 dn ?_
     simp only[E,F,J,M,R,Tz,V,X,Y,reduceIte,G,H,sz]
     refine WO.elem (y:=y) hl2 (by simp[St.put]) dn rfl rfl (by simp[St.put]) (fun _=>rfl) rfl rfl rfl rfl rfl el24 agg89 sz89 (.inl rfl) (by omega) (hy) fun p ces hces=>?_
     have hces:ces=ntV y:=hces
     subst hces
     simp only[ntV,ofCells,if_true,List.toList_toArray,sr]
     simp only[E,F,J,M,R,Tz,V,X,Y,reduceIte,G,H,sz]
     refine WO.call (.bool (pb (NoteOk bars y))) dn rfl rfl rfl co102 (fun ρ w1 hb=>r7Note_spec (Rp.now hl (hb.first (by simp))) hn.1 y) ?_
     refine WO.go 1 dn ?_
     simp only[E,F,J,M,R,Tz,V,X,Y,reduceIte,G,H,sz]
     refine WO.nil ?_
     refine k11 _ ?_
     refine W.seqK fun K12 k12=>?_
     refine W.pure dn fun K13 k13=>?_
     simp only[E,F,J,M,R,Tz,V,X,Y,reduceIte,G,H,sz];refine k13 _ ?_
     refine W.cond rfl rfl (fun hc=>?_) fun hc=>?_
     ·
      have hb9:¬ NoteOk bars y:=pb_not (by simpa using hc)
      refine W.pure dn fun K14 k14=>?_
      simp only[E,F,J,M,R,Tz,V,X,Y,reduceIte,G,H,sz];refine k14 _ ?_
      refine W.ret ⟨by simp,_,rfl,fun ρ w1 hb=>?_⟩
      rw[pb_no fun h=>hb9 (h.all y (List.mem_of_getElem? hy))];rfl
     ·
      have hb9:NoteOk bars y:=pb_of (by simpa using hc)
      refine W.skip (k12 _ ?_)
      refine W.pure dn fun K15 k15=>?_
      simp only[E,F,J,M,R,Tz,V,X,Y,reduceIte,G,H,sz];refine k15 _ ?_
      refine W.block ?_
      refine W.loopK (X:=Nat) [0,1,6] (fun x=>[(8,wv (x:Int))]) (fun x=>x≤i∧∀ j,j<x→∀ z,l[j]?=some z→z.id≠y.id) (fun x=>i - x) 0 ?_ ?_ ?_
      · exact⟨rfl,by simp[getE,bnd,keepE],⟨[],by simp⟩,by simp[Own.bnd,bndL,bnd,boxO],by simp⟩
      ·
       exact⟨Nat.zero_le _,fun j hj=>by omega⟩
      ·
       rintro k ⟨hk,hno⟩
       simp only[E,F,J,M,R,Tz,V,X,Y,reduceIte,sxk,G,H,sz]
       refine W.seqK fun K16 k16=>?_
       refine W.pure dn fun K17 k17=>?_
       simp only[E,F,J,M,R,Tz,V,X,Y,reduceIte,G,H,sz];refine k17 _ ?_
       refine W.cond rfl rfl (fun hc=>?_) fun hc=>?_
       ·
        have hlk:k<i:=by simpa using hc
        obtain⟨z,hz⟩:=len_lt (rfl:l.length=_) (show k<l.length by omega)
        refine W.skip (k16 _ ?_)
        refine W.seqK fun K18 k18=>?_
        refine W.block ?_
        refine W.seqK fun K19 k19=>?_
        refine W.regionQ mixed (by kernel_rfl) ?_
        refine WQ.go 2 dn ?_
        simp only[E,F,J,M,R,Tz,V,X,Y,reduceIte,sxq,G,H,sz]
        refine WQ.elemF (y:=z) hl2 (by simp[St.put]) dn rfl rfl (by simp[St.put]) (fun _=>rfl) rfl (by simp[St.put]) (fun _ _=>rfl) rfl rfl rfl rfl rfl rfl el24 fo89_0 agg3 sz3 (Nat.le_of_ble_eq_true rfl) (.inr rfl) (by omega) (hz) fun p q ces hces=>?_
        have hces:ces=ntV z:=hces
        subst hces
        simp only[ntV,ofCells,if_true,List.toList_toArray,sr]
        refine WQ.go 2 dn ?_
        simp only[E,F,J,M,R,Tz,V,X,Y,reduceIte,sxq,G,H,sz]
        refine WQ.elemF (y:=y) hl2 (by simp[St.put]) dn rfl rfl (by simp[St.put]) (fun _=>rfl) rfl (by simp[St.put]) (fun _ _=>rfl) rfl rfl rfl rfl rfl rfl el24 fo89_0 agg3 sz3 (Nat.le_of_ble_eq_true rfl) (.inr rfl) (by omega) (hy) fun p q ces hces=>?_
        have hces:ces=ntV y:=hces
        subst hces
        simp only[ntV,ofCells,if_true,List.toList_toArray,sr]
        refine WQ.go 1 dn ?_
        simp only[E,F,J,M,R,Tz,V,X,Y,reduceIte,sxq,G,H,sz]
        refine WQ.nil ?_
        refine k19 _ ?_
        refine W.cond rfl rfl (fun hc=>?_) fun hc=>?_
        ·
         have he:z.id=y.id:=by simpa using hc
         refine W.pure dn fun K20 k20=>?_
         simp only[E,F,J,M,R,Tz,V,X,Y,reduceIte,G,H,sz];refine k20 _ ?_
         refine W.ret ⟨by simp,_,rfl,fun ρ w1 hb=>?_⟩
         rw[pb_no fun h=>by have:=nodup_not h.nd hy hz he;omega];rfl
        ·
         have he:¬ z.id=y.id:=by simpa using hc
         refine W.skip (k18 _ ?_)
         refine W.region ?_
         refine WO.go 3 dn ?_
         simp only[E,F,J,M,R,Tz,V,X,Y,reduceIte,G,H,sz]
         refine WO.nil ?_
         refine⟨k+1,?_,by first | omega | (simp;omega),rfl,by simp[getE,bnd,keepE,wrap_succ (show k+1≤9223372036854775807 by omega)],⟨_,rfl⟩,by simp[Own.bnd,bndL,bnd,boxO],by simp⟩
         refine⟨hlk,fun j hj u hu=>?_⟩
         rcases Nat.lt_succ_iff_lt_or_eq.1 hj with h | rfl
         · exact hno j h u hu
         · rw[hz] at hu;obtain rfl:=Option.some.inj hu;exact he
       ·
        have hki:k=i:=by have:¬ k<i:=(by simpa using hc);omega
        refine W.exit (k10 _ ?_)
        refine W.region ?_
        refine WO.go 3 dn ?_
        simp only[E,F,J,M,R,Tz,V,X,Y,reduceIte,G,H,sz]
        refine WO.nil ?_
        refine⟨i+1,?_,by first | omega | (simp;omega),rfl,by simp[getE,bnd,keepE,wrap_succ (show i+1≤9223372036854775807 by omega)],⟨_,rfl⟩,by simp[Own.bnd,bndL,bnd,boxO],by simp⟩
        subst hki
        refine⟨hlt,fun j u hj hu=>?_,nodup_snoc hnd hy hno⟩
        rcases Nat.lt_succ_iff_lt_or_eq.1 hj with h | rfl
        · exact hall j u h hu
        · rw[hy] at hu;obtain rfl:=Option.some.inj hu;exact hb9
    ·
     have hge:l.length≤i:=by simpa using hc
     refine W.exit (k6 _ ?_)
     refine W.pure dn fun K21 k21=>?_
     simp only[E,F,J,M,R,Tz,V,X,Y,reduceIte,G,H,sz];refine k21 _ ?_
     refine W.ret ⟨by simp,_,rfl,fun ρ w1 hb=>?_⟩
     rw[pb_yes ⟨hn.1,hn.2,all_at fun j y hy=>hall j y (by have:=(List.getElem?_eq_some_iff.1 hy).1;omega) hy,by rw[List.take_of_length_le hge] at hnd;exact hnd⟩];rfl
theorem isNote_b {p:Pit} (h:isNoteP p=true):(0≤p.1∧p.1≤6)∧(-2≤p.2.1∧p.2.1≤2)∧0≤p.2.2∧p.2.2≤9:=by
 simp only[isNoteP,Bool.and_eq_true,validP_iff,within_iff] at h
 omega
theorem isNote_v {p:Pit} (h:isNoteP p=true):validP p=true:=by simp only[isNoteP,Bool.and_eq_true] at h;exact h.1
theorem ltL_step {a b:List Int} {i:Nat} {y z:Int} (hy:a[i]?=some y) (hz:b[i]?=some z):ltL (a.drop i) (b.drop i)=if y=z then ltL (a.drop (i+1)) (b.drop (i+1)) else decide (y<z):=by
 obtain⟨h1,rfl⟩:=List.getElem?_eq_some_iff.1 hy
 obtain⟨h2,rfl⟩:=List.getElem?_eq_some_iff.1 hz
 rw[List.drop_eq_getElem_cons h1,List.drop_eq_getElem_cons h2,ltL]
theorem r7keys_spec {S:Nat→Prop} {w:World} {v:Value} {bars:List Br} (hl:rBrs.rd S w [v] bars) (n:Nt) (hv:isNoteP n.pit=true):Gives Tryz.prog 105 #[v,(ntq n)] w fun r w'=>∃ b,r=.slice (some ⟨b,0,none⟩) 6 6∧rInts.rd (fun a=>w.heap.size≤a) w' [r] (keyL bars n):=by
 obtain⟨p,c,rfl,hc1,hc2⟩:=Rp.slice_val hl
 have hl:(Rp.slice rBr).rd (fun _=>True) w _ bars:=Rp.any hl
 have hvb:=isNote_b hv
 refine gives_of [.val (.slice p bars.length c),.agg (ntw n)] 22 [.tmp 4] Tryz.func105 rfl rfl rfl (by simp) rfl rfl ?_
 refine W.pure dn fun K1 k1=>?_
 simp only[E,F,J,M,R,Tz,V,X,Y,reduceIte,G,H,sz];refine k1 _ ?_
 refine W.seqK fun K2 k2=>?_
 refine W.regionT' 16 [] [0,1,2,3,4,5,6,7,8,9,10,11,12,13,14,15] mixed (by kernel_rfl) ?_
 simp only[E,F,J,M,R,Tz,V,X,Y,reduceIte,sxt,List.toList_toArray,G,H,sz]
 refine WQ.go 3 dn ?_
 simp only[E,F,J,M,R,Tz,V,X,Y,reduceIte,sxq,G,H,sz]
 refine WQ.call (iv (ixOf (bars.map Br.id) n.bar)) dn rfl rfl rfl co152 (fun ρ w1 hb=>rBar_spec (Rp.now hl (hb.first (by simp))) n.bar) ?_
 refine WQ.go 4 dn ?_
 simp only[E,F,J,M,R,Tz,V,X,Y,reduceIte,sxq,G,H,sz]
 refine WQ.call (iv (tickF n.start)) dn rfl rfl rfl co58 (fun ρ w1 hb=>rTicks_spec w1 n.start) ?_
 refine WQ.go 4 dn ?_
 simp only[E,F,J,M,R,Tz,V,X,Y,reduceIte,sxq,G,H,sz]
 refine WQ.call (iv (numF n.pit)) dn rfl rfl rfl co60 (fun ρ w1 hb=>r2sound_spec w1 n.pit hvb.1 (by omega)) ?_
 refine WQ.go 2 dn ?_
 simp only[E,F,J,M,R,Tz,V,X,Y,reduceIte,sxq,G,H,sz]
 refine WQ.nil ?_
 refine WO.go 2 dn ?_
 simp only[E,F,J,M,R,Tz,V,X,Y,reduceIte,G,H,sz]
 refine WO.nil ?_
 refine k2 _ ?_
 refine W.ret ⟨by simp,_,rfl,fun ρ w1 hb=>?_⟩
 exact⟨ρ 1,rfl,own_listS (A:=rInt) (k:=1) (n:=6) (c:=6) (xs:=keyL bars n) hb rfl rfl (Nat.le_refl _) (by omega) (own_new (w0:=w) (b:=ρ 1) hb (by simp) (k:=1) rfl rfl) (by rintro (_ | _ | _ | _ | _ | _ | i) y hy<;>first | (cases hy;rfl) | simp[keyL] at hy)⟩
theorem r7Before_spec {S:Nat→Prop} {w:World} {v:Value} {bars:List Br} (hl:rBrs.rd S w [v] bars) (n m:Nt) (hv:isNoteP n.pit=true) (hv2:isNoteP m.pit=true):Gives Tryz.prog 55 #[v,(ntq n),(ntq m)] w fun r _=>r=.bool (ltL (keyL bars n) (keyL bars m)):=by
 obtain⟨p,c,rfl,hc1,hc2⟩:=Rp.slice_val hl
 have hl:(Rp.slice rBr).rd (fun _=>True) w _ bars:=Rp.any hl
 refine gives_of [.val (.slice p bars.length c),.agg (ntw n),.agg (ntw m)] 40 [.tmp 6] Tryz.func55 rfl rfl rfl (by simp) rfl rfl ?_
 refine W.pure dn fun K1 k1=>?_
 simp only[E,F,J,M,R,Tz,V,X,Y,reduceIte,G,H,sz];refine k1 _ ?_
 refine W.seqK fun K2 k2=>W.region ?_
 refine WO.go 2 dn ?_
 simp only[E,F,J,M,R,Tz,V,X,Y,reduceIte,G,H,sz]
 refine WO.callM (fun b:Nat=>.slice (some ⟨b,0,none⟩) 6 6) (fun lo b s9=>rInts.rd (fun a=>lo≤a) s9 [.slice (some ⟨b,0,none⟩) 6 6] (keyL bars n)) dn rfl rfl rfl co105 (fun ρ w1 hb=>Gives.mono (r7keys_spec (Rp.now hl (hb.first (by simp))) n hv) fun r w9 _ ⟨b,h1,h2⟩=>⟨b,h1,by rw[← h1];exact h2⟩) fun b1 lo1 s1 h1=>?_
 refine WO.go 1 dn ?_
 simp only[E,F,J,M,R,Tz,V,X,Y,reduceIte,G,H,sz]
 refine WO.nil ?_
 refine k2 _ ?_
 refine W.seqK fun K3 k3=>W.region ?_
 refine WO.go 2 dn ?_
 simp only[E,F,J,M,R,Tz,V,X,Y,reduceIte,G,H,sz]
 refine WO.callM (fun b:Nat=>.slice (some ⟨b,0,none⟩) 6 6) (fun lo b s9=>rInts.rd (fun a=>lo≤a) s9 [.slice (some ⟨b,0,none⟩) 6 6] (keyL bars m)) dn rfl rfl rfl co105 (fun ρ w1 hb=>Gives.mono (r7keys_spec (Rp.now hl (hb.first (by simp))) m hv2) fun r w9 _ ⟨b,h1,h2⟩=>⟨b,h1,by rw[← h1];exact h2⟩) fun b2 lo2 s2 h2=>?_
 have k1:(keyL bars n).length=6:=rfl
 have k2:(keyL bars m).length=6:=rfl
 obtain⟨a9,ha9⟩:∃ a,a=keyL bars n:=⟨_,rfl⟩
 obtain⟨b9,hb9⟩:∃ a,a=keyL bars m:=⟨_,rfl⟩
 simp only[← ha9,← hb9] at h1 h2 k1 k2 ⊢
 refine WO.go 1 dn ?_
 simp only[E,F,J,M,R,Tz,V,X,Y,reduceIte,G,H,sz]
 refine WO.nil ?_
 refine k3 _ ?_
 refine W.seqK fun K4 k4=>?_
 refine W.pure dn fun K5 k5=>?_
 simp only[E,F,J,M,R,Tz,V,X,Y,reduceIte,G,H,sz];refine k5 _ ?_
 refine W.block ?_
 refine W.loopK (X:=Nat) [7,8] (fun x=>[(9,wv (x:Int))]) (fun x=>x≤6∧ltL a9 b9=ltL (a9.drop x) (b9.drop x)) (fun x=>6 - x) 0 ?_ ?_ ?_
 · exact⟨rfl,by simp[getE,bnd,keepE],⟨[],by simp⟩,by simp[Own.bnd,bndL,bnd,boxO],by simp⟩
 ·
  exact⟨by omega,rfl⟩
 ·
  rintro i ⟨hi,hE⟩
  simp only[E,F,J,M,R,Tz,V,X,Y,reduceIte,sxk,G,H,sz]
  refine W.seqK fun K6 k6=>?_
  refine W.pure dn fun K7 k7=>?_
  simp only[E,F,J,M,R,Tz,V,X,Y,reduceIte,G,H,sz];refine k7 _ ?_
  refine W.cond rfl rfl (fun hc=>?_) fun hc=>?_
  ·
   have hlt:i<6:=by simp at hc;omega
   obtain⟨y,hy⟩:=len_lt k1 hlt
   obtain⟨z,hz⟩:=len_lt k2 hlt
   have hst:=ltL_step hy hz
   refine W.skip (k6 _ ?_)
   refine W.seqK fun K8 k8=>?_
   refine W.block ?_
   refine W.seqK fun K9 k9=>?_
   refine W.regionQ mixed (by kernel_rfl) ?_
   refine WQ.go 2 dn ?_
   simp only[E,F,J,M,R,Tz,V,X,Y,reduceIte,sxq,G,H,sz]
   refine WQ.elem (y:=y) h1 (by simp[St.put]) dn rfl rfl (by simp[St.put]) (fun _=>rfl) rfl rfl rfl rfl rfl el94 agg3 sz3 (.inr rfl) (by omega) (hy) fun p ces hces=>?_
   obtain rfl:=rInt_open hces
   clear hces
   refine WQ.go 2 dn ?_
   simp only[E,F,J,M,R,Tz,V,X,Y,reduceIte,sxq,G,H,sz]
   refine WQ.elem (y:=z) h2 (by simp[St.put]) dn rfl rfl (by simp[St.put]) (fun _=>rfl) rfl rfl rfl rfl rfl el94 agg3 sz3 (.inr rfl) (by omega) (hz) fun p ces hces=>?_
   obtain rfl:=rInt_open hces
   clear hces
   refine WQ.go 1 dn ?_
   simp only[E,F,J,M,R,Tz,V,X,Y,reduceIte,sxq,G,H,sz]
   refine WQ.nil ?_
   refine k9 _ ?_
   refine W.cond rfl rfl (fun hc=>?_) fun hc=>?_
   ·
    have he:¬ y=z:=by simpa using hc
    refine W.seqK fun K10 k10=>?_
    refine W.regionQ mixed (by kernel_rfl) ?_
    refine WQ.go 2 dn ?_
    simp only[E,F,J,M,R,Tz,V,X,Y,reduceIte,sxq,G,H,sz]
    refine WQ.elem (y:=y) h1 (by simp[St.put]) dn rfl rfl (by simp[St.put]) (fun _=>rfl) rfl rfl rfl rfl rfl el94 agg3 sz3 (.inr rfl) (by omega) (hy) fun p ces hces=>?_
    obtain rfl:=rInt_open hces
    clear hces
    refine WQ.go 2 dn ?_
    simp only[E,F,J,M,R,Tz,V,X,Y,reduceIte,sxq,G,H,sz]
    refine WQ.elem (y:=z) h2 (by simp[St.put]) dn rfl rfl (by simp[St.put]) (fun _=>rfl) rfl rfl rfl rfl rfl el94 agg3 sz3 (.inr rfl) (by omega) (hz) fun p ces hces=>?_
    obtain rfl:=rInt_open hces
    clear hces
    refine WQ.go 2 dn ?_
    simp only[E,F,J,M,R,Tz,V,X,Y,reduceIte,sxq,G,H,sz]
    refine WQ.nil ?_
    refine k10 _ ?_
    refine W.ret ⟨by simp,_,rfl,fun ρ w1 hb=>?_⟩
    show _=Value.bool (ltL (keyL bars n) (keyL bars m))
    rw[← ha9,← hb9,hE,hst,if_neg he];rfl
   ·
    have he:y=z:=by simpa using hc
    refine W.skip (k8 _ ?_)
    refine W.region ?_
    refine WO.go 3 dn ?_
    simp only[E,F,J,M,R,Tz,V,X,Y,reduceIte,G,H,sz]
    refine WO.nil ?_
    refine⟨i+1,?_,by first | omega | (simp;omega),rfl,by simp[getE,bnd,keepE,wrap_succ (show i+1≤9223372036854775807 by omega)],⟨_,rfl⟩,by simp[Own.bnd,bndL,bnd,boxO],by simp⟩
    exact⟨hlt,by rw[hE,hst,if_pos he]⟩
  ·
   have hge:i=6:=by simp at hc;omega
   refine W.exit (k4 _ ?_)
   refine W.pure dn fun K11 k11=>?_
   simp only[E,F,J,M,R,Tz,V,X,Y,reduceIte,G,H,sz];refine k11 _ ?_
   refine W.ret ⟨by simp,_,rfl,fun ρ w1 hb=>?_⟩
   show _=Value.bool (ltL (keyL bars n) (keyL bars m))
   rw[← ha9,← hb9,hE,hge,List.drop_of_length_le (by omega)];rfl
abbrev D28_:List (Option Nat):=[some 10,some 11,some 12,some 13,some 14,some 15,some 16,some 17,some 18,some 19,some 20,some 21,some 22,some 23,some 24,some 25,some 2]
theorem r8Shift_spec (w:World) (a b:Int):Gives Tryz.prog 157 #[.agg #[iv a,iv b]] w fun r _=>r=.bool (shiftOk a b):=by
 refine gives_of [.agg [wv a,wv b]] 26 [.tmp 2] Tryz.func157 rfl rfl rfl (by simp) rfl rfl ?_
 refine W.pure dn fun K1 k1=>?_
 simp only[E,F,J,M,R,Tz,V,X,Y,reduceIte,G,H,sz];refine k1 _ ?_
 refine W.seqK fun K2 k2=>W.region ?_
 refine WO.go 1 dn ?_
 simp only[E,F,J,M,R,Tz,V,X,Y,reduceIte,G,H,sz]
 refine WO.call (.tuple #[iv (fifthsF a b).1,iv (fifthsF a b).2]) dn rfl rfl rfl co199 (fun ρ w1 hb=>rfifths_spec w1 a b) ?_
 refine WO.go 5 dn ?_
 simp only[E,F,J,M,R,Tz,V,X,Y,reduceIte,G,H,sz]
 refine WO.nil ?_
 refine k2 _ ?_
 refine W.join 2 (.val (.bool (shiftOk a b))) [] (W.region ?_) ?_
 ·
  refine WO.go 3 (ds:=D28_) rfl ?_
  simp only[E,F,J,M,R,Tz,V,X,Y,reduceIte,G,H,sz]
  refine WO.cases 12 _ rfl (fun hg12=>?_) fun hg12=>?_
  ·
   rw[fifths_ok] at hg12
   simp only[fifthsF_yes hg12]
   refine WO.go 2 (ds:=D28_) rfl ?_
   simp only[E,F,J,M,R,Tz,V,X,Y,reduceIte,G,H,sz]
   refine WO.call (.bool (within (-21) 21 a)) (ds:=D28_) rfl rfl rfl rfl co52 (fun ρ w1 hb=>r8in_spec w1 _ _ _) ?_
   refine WO.go 2 (ds:=D28_) rfl ?_
   simp only[E,F,J,M,R,Tz,V,X,Y,reduceIte,G,H,sz]
   refine WO.cases 17 _ rfl (fun hg17=>?_) fun hg17=>?_
   ·
    refine WO.go 2 (ds:=D28_) rfl ?_
    simp only[E,F,J,M,R,Tz,V,X,Y,reduceIte,G,H,sz]
    refine WO.call (.bool (within (-36) 36 b)) (ds:=D28_) rfl rfl rfl rfl co52 (fun ρ w1 hb=>r8in_spec w1 _ _ _) ?_
    refine WO.go 2 (ds:=D28_) rfl ?_
    simp only[E,F,J,M,R,Tz,V,X,Y,reduceIte,G,H,sz]
    refine WO.cases 22 _ rfl (fun hg22=>?_) fun hg22=>?_
    ·
     refine WO.go 1 (ds:=D28_) rfl ?_
     simp only[E,F,J,M,R,Tz,V,X,Y,reduceIte,G,H,sz]
     refine WO.call (.bool (within (-12) 12 (7*b - 12*a))) (ds:=D28_) rfl rfl rfl rfl co52 (fun ρ w1 hb=>r8in_spec w1 _ _ _) ?_
     refine WO.go 2 (ds:=D28_) rfl ?_
     simp only[E,F,J,M,R,Tz,V,X,Y,reduceIte,G,H,sz]
     refine WO.nil ?_
     refine⟨rfl,?_,⟨_,rfl⟩,by simp[Own.bnd,bndL,bnd,boxO],by simp⟩
     unfold shiftOk
     try simp only[fifths_ok] at hg12
     try rw[hg17]
     try rw[hg22]
     try rw[hg12]
     simp[getE,bnd,keepE]
     try simp_all
    ·
     refine WO.go 4 (ds:=D28_) rfl ?_
     simp only[E,F,J,M,R,Tz,V,X,Y,reduceIte,G,H,sz]
     refine WO.nil ?_
     refine⟨rfl,?_,⟨_,rfl⟩,by simp[Own.bnd,bndL,bnd,boxO],by simp⟩
     unfold shiftOk
     try simp only[fifths_ok] at hg12
     try rw[hg17]
     try rw[hg22]
     try rw[hg12]
     simp[getE,bnd,keepE]
     try simp_all
   ·
    refine WO.go 9 (ds:=D28_) rfl ?_
    simp only[E,F,J,M,R,Tz,V,X,Y,reduceIte,G,H,sz]
    refine WO.nil ?_
    refine⟨rfl,?_,⟨_,rfl⟩,by simp[Own.bnd,bndL,bnd,boxO],by simp⟩
    unfold shiftOk
    try simp only[fifths_ok] at hg12
    try rw[hg17]
    try rw[hg22]
    try rw[hg12]
    simp[getE,bnd,keepE]
    try simp_all
  ·
   refine WO.go 14 (ds:=D28_) rfl ?_
   simp only[E,F,J,M,R,Tz,V,X,Y,reduceIte,G,H,sz]
   refine WO.nil ?_
   refine⟨rfl,?_,⟨_,rfl⟩,by simp[Own.bnd,bndL,bnd,boxO],by simp⟩
   unfold shiftOk
   try simp only[fifths_ok] at hg12
   try rw[hg17]
   try rw[hg22]
   try rw[hg12]
   simp[getE,bnd,keepE]
   try simp_all
 ·
  simp only[E,F,J,M,R,Tz,V,X,Y,reduceIte,sxk,G,H,sz]
  refine W.ret ⟨by simp,_,rfl,fun ρ w1 hb=>?_⟩
  rfl
def partE (p:Pt):Bool:=(((((((!within 1 1000000 p.id || !within 0 99 p.sec) || !within 0 1000000 p.src) || !within (-2) 2 p.oct) || !within 1 40 p.desks) || !shiftOk p.sa p.sb) || !validP p.low) || !validP p.high)
theorem partE_eq (p:Pt):partE p=(((((((!within 1 1000000 p.id || !within 0 99 p.sec) || !within 0 1000000 p.src) || !within (-2) 2 p.oct) || !within 1 40 p.desks) || !shiftOk p.sa p.sb) || !validP p.low) || !validP p.high):=rfl
theorem partE_no {p:Pt} (h:partE p=true):¬ PartOk p:=fun h9=>by
 simp[partE,h9.id,h9.sec,h9.src,h9.oct,h9.desks,h9.shift,h9.low,h9.high] at h
theorem partE_val {p:Pt} (h:partE p=false):validP p.low=true∧validP p.high=true:=by
 unfold partE at h
 simp only[Bool.or_eq_false_iff,Bool.not_eq_false'] at h
 exact⟨h.1.2,h.2⟩
theorem part_eq' {p:Pt} (h:partE p=false):pb (PartOk p)=(((p.src != p.id) && ((p.src != 0) || (p.oct == 0))) && decide (numF p.low≤numF p.high)):=by
 unfold partE at h
 simp only[Bool.or_eq_false_iff,Bool.not_eq_false'] at h
 obtain⟨⟨⟨⟨⟨⟨⟨h1,h2⟩,h3⟩,h4⟩,h5⟩,h6⟩,h7⟩,h8⟩:=h
 by_cases h9:p.src≠p.id∧(p.src=0→p.oct=0)∧numF p.low≤numF p.high
 ·
  rw[pb_yes ⟨h1,h2,h3,h4,h5,h6,h7,h8,h9.1,h9.2.1,h9.2.2⟩]
  obtain⟨q1,q2,q3⟩:=h9
  symm
  simp only[Bool.and_eq_true,bne_iff_ne,Bool.or_eq_true,beq_iff_eq,decide_eq_true_eq]
  exact⟨⟨q1,by by_cases h0:p.src=0<;>simp[h0] at q2 ⊢;exact q2⟩,q3⟩
 ·
  rw[pb_no fun hp=>h9 ⟨hp.ne,hp.own,hp.range⟩]
  symm
  rw[← Bool.not_eq_true]
  intro h0
  simp only[Bool.and_eq_true,bne_iff_ne,Bool.or_eq_true,beq_iff_eq,decide_eq_true_eq] at h0
  exact h9 ⟨h0.1.1,fun hz=>h0.1.2.elim (fun g=>absurd hz g) id,h0.2⟩
abbrev D30_:List (Option Nat):=[some 65,some 66,some 67,some 68,some 69,some 70,some 71,some 72,some 73,some 74,some 75,some 76,some 77,some 78,some 79,some 80,some 81,some 82,some 83,some 84,some 85,some 86,some 87,some 88,some 2]
abbrev D29_:List (Option Nat):=[some 35,some 36,some 37,some 38,some 39,some 40,some 41,some 42,some 43,some 44,some 45,some 46,some 47,some 48,some 49,some 50,some 51,some 52,some 53,some 54,some 55,some 56,some 57,some 58,some 59,some 60,some 61,some 62,some 63,some 64]
theorem r8Part_spec (w:World) (p:Pt):Gives Tryz.prog 101 #[(ptq p)] w fun r _=>r=.bool (pb (PartOk p)):=by
 refine gives_of [.agg (ptw p)] 89 [.tmp 2] Tryz.func101 rfl rfl rfl (by simp) rfl rfl ?_
 refine W.pure dn fun K1 k1=>?_
 simp only[E,F,J,M,R,Tz,V,X,Y,reduceIte,G,H,sz];refine k1 _ ?_
 refine W.seqK fun K2 k2=>W.region ?_
 refine WO.go 2 dn ?_
 simp only[E,F,J,M,R,Tz,V,X,Y,reduceIte,G,H,sz]
 refine WO.call (.bool (within 1 1000000 p.id)) dn rfl rfl rfl co52 (fun ρ w1 hb=>r8in_spec w1 _ _ _) ?_
 refine WO.go 1 dn ?_
 simp only[E,F,J,M,R,Tz,V,X,Y,reduceIte,G,H,sz]
 refine WO.nil ?_
 refine k2 _ ?_
 refine W.seqK fun K3 k3=>W.region ?_
 refine WO.go 2 dn ?_
 simp only[E,F,J,M,R,Tz,V,X,Y,reduceIte,G,H,sz]
 refine WO.call (.bool (within 0 99 p.sec)) dn rfl rfl rfl co52 (fun ρ w1 hb=>r8in_spec w1 _ _ _) ?_
 refine WO.go 1 dn ?_
 simp only[E,F,J,M,R,Tz,V,X,Y,reduceIte,G,H,sz]
 refine WO.nil ?_
 refine k3 _ ?_
 refine W.seqK fun K4 k4=>W.region ?_
 refine WO.go 2 dn ?_
 simp only[E,F,J,M,R,Tz,V,X,Y,reduceIte,G,H,sz]
 refine WO.call (.bool (within 0 1000000 p.src)) dn rfl rfl rfl co52 (fun ρ w1 hb=>r8in_spec w1 _ _ _) ?_
 refine WO.go 1 dn ?_
 simp only[E,F,J,M,R,Tz,V,X,Y,reduceIte,G,H,sz]
 refine WO.nil ?_
 refine k4 _ ?_
 refine W.seqK fun K5 k5=>W.region ?_
 refine WO.go 2 dn ?_
 simp only[E,F,J,M,R,Tz,V,X,Y,reduceIte,G,H,sz]
 refine WO.call (.bool (within (-2) 2 p.oct)) dn rfl rfl rfl co52 (fun ρ w1 hb=>r8in_spec w1 _ _ _) ?_
 refine WO.go 1 dn ?_
 simp only[E,F,J,M,R,Tz,V,X,Y,reduceIte,G,H,sz]
 refine WO.nil ?_
 refine k5 _ ?_
 refine W.seqK fun K6 k6=>W.region ?_
 refine WO.go 2 dn ?_
 simp only[E,F,J,M,R,Tz,V,X,Y,reduceIte,G,H,sz]
 refine WO.call (.bool (within 1 40 p.desks)) dn rfl rfl rfl co52 (fun ρ w1 hb=>r8in_spec w1 _ _ _) ?_
 refine WO.go 1 dn ?_
 simp only[E,F,J,M,R,Tz,V,X,Y,reduceIte,G,H,sz]
 refine WO.nil ?_
 refine k6 _ ?_
 refine W.seqK fun K7 k7=>W.region ?_
 refine WO.go 2 dn ?_
 simp only[E,F,J,M,R,Tz,V,X,Y,reduceIte,G,H,sz]
 refine WO.call (.bool (shiftOk p.sa p.sb)) dn rfl rfl rfl co157 (fun ρ w1 hb=>r8Shift_spec w1 _ _) ?_
 refine WO.go 1 dn ?_
 simp only[E,F,J,M,R,Tz,V,X,Y,reduceIte,G,H,sz]
 refine WO.nil ?_
 refine k7 _ ?_
 refine W.seqK fun K8 k8=>W.region ?_
 refine WO.go 2 dn ?_
 simp only[E,F,J,M,R,Tz,V,X,Y,reduceIte,G,H,sz]
 refine WO.call (.bool (validP p.low)) dn rfl rfl rfl co59 (fun ρ w1 hb=>r2valid_spec w1 p.low) ?_
 refine WO.go 1 dn ?_
 simp only[E,F,J,M,R,Tz,V,X,Y,reduceIte,G,H,sz]
 refine WO.nil ?_
 refine k8 _ ?_
 refine W.seqK fun K9 k9=>W.region ?_
 refine WO.go 2 dn ?_
 simp only[E,F,J,M,R,Tz,V,X,Y,reduceIte,G,H,sz]
 refine WO.call (.bool (validP p.high)) dn rfl rfl rfl co59 (fun ρ w1 hb=>r2valid_spec w1 p.high) ?_
 refine WO.go 1 dn ?_
 simp only[E,F,J,M,R,Tz,V,X,Y,reduceIte,G,H,sz]
 refine WO.nil ?_
 refine k9 _ ?_
 refine W.seqK fun K10 k10=>?_
 refine W.join 64 (.val (.bool (partE p))) [1] (W.region ?_) ?_
 ·
  refine WO.go 3 (ds:=D29_) rfl ?_
  simp only[E,F,J,M,R,Tz,V,X,Y,reduceIte,G,H,sz]
  refine WO.cases 37 _ rfl (fun hg37=>?_) fun hg37=>?_
  ·
   refine WO.go 27 (ds:=D29_) rfl ?_
   simp only[E,F,J,M,R,Tz,V,X,Y,reduceIte,G,H,sz]
   refine WO.nil ?_
   refine⟨rfl,?_,⟨_,rfl⟩,by simp[Own.bnd,bndL,bnd,boxO],by simp⟩
   rw[partE_eq]
   try rw[hg37]
   try rw[hg41]
   try rw[hg45]
   try rw[hg49]
   try rw[hg53]
   try rw[hg57]
   try rw[hg61]
   simp[getE,bnd,keepE]
  ·
   refine WO.go 4 (ds:=D29_) rfl ?_
   simp only[E,F,J,M,R,Tz,V,X,Y,reduceIte,G,H,sz]
   refine WO.cases 41 _ rfl (fun hg41=>?_) fun hg41=>?_
   ·
    refine WO.go 23 (ds:=D29_) rfl ?_
    simp only[E,F,J,M,R,Tz,V,X,Y,reduceIte,G,H,sz]
    refine WO.nil ?_
    refine⟨rfl,?_,⟨_,rfl⟩,by simp[Own.bnd,bndL,bnd,boxO],by simp⟩
    rw[partE_eq]
    try rw[hg37]
    try rw[hg41]
    try rw[hg45]
    try rw[hg49]
    try rw[hg53]
    try rw[hg57]
    try rw[hg61]
    simp[getE,bnd,keepE]
   ·
    refine WO.go 4 (ds:=D29_) rfl ?_
    simp only[E,F,J,M,R,Tz,V,X,Y,reduceIte,G,H,sz]
    refine WO.cases 45 _ rfl (fun hg45=>?_) fun hg45=>?_
    ·
     refine WO.go 19 (ds:=D29_) rfl ?_
     simp only[E,F,J,M,R,Tz,V,X,Y,reduceIte,G,H,sz]
     refine WO.nil ?_
     refine⟨rfl,?_,⟨_,rfl⟩,by simp[Own.bnd,bndL,bnd,boxO],by simp⟩
     rw[partE_eq]
     try rw[hg37]
     try rw[hg41]
     try rw[hg45]
     try rw[hg49]
     try rw[hg53]
     try rw[hg57]
     try rw[hg61]
     simp[getE,bnd,keepE]
    ·
     refine WO.go 4 (ds:=D29_) rfl ?_
     simp only[E,F,J,M,R,Tz,V,X,Y,reduceIte,G,H,sz]
     refine WO.cases 49 _ rfl (fun hg49=>?_) fun hg49=>?_
     ·
      refine WO.go 15 (ds:=D29_) rfl ?_
      simp only[E,F,J,M,R,Tz,V,X,Y,reduceIte,G,H,sz]
      refine WO.nil ?_
      refine⟨rfl,?_,⟨_,rfl⟩,by simp[Own.bnd,bndL,bnd,boxO],by simp⟩
      rw[partE_eq]
      try rw[hg37]
      try rw[hg41]
      try rw[hg45]
      try rw[hg49]
      try rw[hg53]
      try rw[hg57]
      try rw[hg61]
      simp[getE,bnd,keepE]
     ·
      refine WO.go 4 (ds:=D29_) rfl ?_
      simp only[E,F,J,M,R,Tz,V,X,Y,reduceIte,G,H,sz]
      refine WO.cases 53 _ rfl (fun hg53=>?_) fun hg53=>?_
      ·
       refine WO.go 11 (ds:=D29_) rfl ?_
       simp only[E,F,J,M,R,Tz,V,X,Y,reduceIte,G,H,sz]
       refine WO.nil ?_
       refine⟨rfl,?_,⟨_,rfl⟩,by simp[Own.bnd,bndL,bnd,boxO],by simp⟩
       rw[partE_eq]
       try rw[hg37]
       try rw[hg41]
       try rw[hg45]
       try rw[hg49]
       try rw[hg53]
       try rw[hg57]
       try rw[hg61]
       simp[getE,bnd,keepE]
      ·
       refine WO.go 4 (ds:=D29_) rfl ?_
       simp only[E,F,J,M,R,Tz,V,X,Y,reduceIte,G,H,sz]
       refine WO.cases 57 _ rfl (fun hg57=>?_) fun hg57=>?_
       ·
        refine WO.go 7 (ds:=D29_) rfl ?_
        simp only[E,F,J,M,R,Tz,V,X,Y,reduceIte,G,H,sz]
        refine WO.nil ?_
        refine⟨rfl,?_,⟨_,rfl⟩,by simp[Own.bnd,bndL,bnd,boxO],by simp⟩
        rw[partE_eq]
        try rw[hg37]
        try rw[hg41]
        try rw[hg45]
        try rw[hg49]
        try rw[hg53]
        try rw[hg57]
        try rw[hg61]
        simp[getE,bnd,keepE]
       ·
        refine WO.go 4 (ds:=D29_) rfl ?_
        simp only[E,F,J,M,R,Tz,V,X,Y,reduceIte,G,H,sz]
        refine WO.cases 61 _ rfl (fun hg61=>?_) fun hg61=>?_
        ·
         refine WO.go 3 (ds:=D29_) rfl ?_
         simp only[E,F,J,M,R,Tz,V,X,Y,reduceIte,G,H,sz]
         refine WO.nil ?_
         refine⟨rfl,?_,⟨_,rfl⟩,by simp[Own.bnd,bndL,bnd,boxO],by simp⟩
         rw[partE_eq]
         try rw[hg37]
         try rw[hg41]
         try rw[hg45]
         try rw[hg49]
         try rw[hg53]
         try rw[hg57]
         try rw[hg61]
         simp[getE,bnd,keepE]
        ·
         refine WO.go 3 (ds:=D29_) rfl ?_
         simp only[E,F,J,M,R,Tz,V,X,Y,reduceIte,G,H,sz]
         refine WO.nil ?_
         refine⟨rfl,?_,⟨_,rfl⟩,by simp[Own.bnd,bndL,bnd,boxO],by simp⟩
         rw[partE_eq]
         try rw[hg37]
         try rw[hg41]
         try rw[hg45]
         try rw[hg49]
         try rw[hg53]
         try rw[hg57]
         try rw[hg61]
         simp[getE,bnd,keepE]
 ·
  simp only[E,F,J,M,R,Tz,V,X,Y,reduceIte,sxk,G,H,sz]
  refine W.cond rfl rfl (fun hc=>?_) fun hc=>?_
  ·
   have hno:=partE_no (by simpa using hc:partE p=true)
   refine W.pure dn fun K12 k12=>?_
   simp only[E,F,J,M,R,Tz,V,X,Y,reduceIte,G,H,sz];refine k12 _ ?_
   refine W.ret ⟨by simp,_,rfl,fun ρ w1 hb=>?_⟩
   rw[pb_no hno];rfl
  ·
   have hE:partE p=false:=by simpa using hc
   have hpe:=part_eq' hE
   obtain⟨hlv,hhv⟩:=partE_val hE
   rw[validP_iff] at hlv hhv
   refine W.skip (k10 _ ?_)
   refine W.join 2 (.val (.bool (pb (PartOk p)))) [] (W.regionQ mixed (by kernel_rfl) ?_) ?_
   ·
    refine WQ.go 6 (ds:=D30_) rfl ?_
    simp only[E,F,J,M,R,Tz,V,X,Y,reduceIte,sxq,G,H,sz]
    refine WQ.cases 70 _ rfl (fun hg70=>?_) fun hg70=>?_
    ·
     refine WQ.go 4 (ds:=D30_) rfl ?_
     simp only[E,F,J,M,R,Tz,V,X,Y,reduceIte,sxq,G,H,sz]
     refine WQ.cases 74 _ rfl (fun hg74=>?_) fun hg74=>?_
     ·
      refine WQ.go 8 (ds:=D30_) rfl ?_
      simp only[E,F,J,M,R,Tz,V,X,Y,reduceIte,sxq,G,H,sz]
      refine WQ.call (iv (numF p.low)) (ds:=D30_) rfl rfl rfl rfl co60 (fun ρ w1 hb=>r2sound_spec w1 p.low hlv.1 (by omega)) ?_
      refine WQ.go 2 (ds:=D30_) rfl ?_
      simp only[E,F,J,M,R,Tz,V,X,Y,reduceIte,sxq,G,H,sz]
      refine WQ.call (iv (numF p.high)) (ds:=D30_) rfl rfl rfl rfl co60 (fun ρ w1 hb=>r2sound_spec w1 p.high hhv.1 (by omega)) ?_
      refine WQ.go 3 (ds:=D30_) rfl ?_
      simp only[E,F,J,M,R,Tz,V,X,Y,reduceIte,sxq,G,H,sz]
      refine WQ.nil ?_
      refine⟨rfl,?_,⟨_,rfl⟩,by simp[Own.bnd,bndL,bnd,boxO],by simp⟩
      rw[hpe]
      try rw[hg70]
      try rw[hg74]
      try rw[hg80]
      simp[getE,bnd,keepE]
     ·
      refine WQ.go 6 (ds:=D30_) rfl ?_
      simp only[E,F,J,M,R,Tz,V,X,Y,reduceIte,sxq,G,H,sz]
      refine WQ.cases 80 _ rfl (fun hg80=>?_) fun hg80=>?_
      ·
       refine WQ.go 2 (ds:=D30_) rfl ?_
       simp only[E,F,J,M,R,Tz,V,X,Y,reduceIte,sxq,G,H,sz]
       refine WQ.call (iv (numF p.low)) (ds:=D30_) rfl rfl rfl rfl co60 (fun ρ w1 hb=>r2sound_spec w1 p.low hlv.1 (by omega)) ?_
       refine WQ.go 2 (ds:=D30_) rfl ?_
       simp only[E,F,J,M,R,Tz,V,X,Y,reduceIte,sxq,G,H,sz]
       refine WQ.call (iv (numF p.high)) (ds:=D30_) rfl rfl rfl rfl co60 (fun ρ w1 hb=>r2sound_spec w1 p.high hhv.1 (by omega)) ?_
       refine WQ.go 3 (ds:=D30_) rfl ?_
       simp only[E,F,J,M,R,Tz,V,X,Y,reduceIte,sxq,G,H,sz]
       refine WQ.nil ?_
       refine⟨rfl,?_,⟨_,rfl⟩,by simp[Own.bnd,bndL,bnd,boxO],by simp⟩
       rw[hpe]
       try rw[hg70]
       try rw[hg74]
       try rw[hg80]
       simp[getE,bnd,keepE]
      ·
       refine WQ.go 9 (ds:=D30_) rfl ?_
       simp only[E,F,J,M,R,Tz,V,X,Y,reduceIte,sxq,G,H,sz]
       refine WQ.nil ?_
       refine⟨rfl,?_,⟨_,rfl⟩,by simp[Own.bnd,bndL,bnd,boxO],by simp⟩
       rw[hpe]
       try rw[hg70]
       try rw[hg74]
       try rw[hg80]
       simp[getE,bnd,keepE]
    ·
     refine WQ.go 19 (ds:=D30_) rfl ?_
     simp only[E,F,J,M,R,Tz,V,X,Y,reduceIte,sxq,G,H,sz]
     refine WQ.nil ?_
     refine⟨rfl,?_,⟨_,rfl⟩,by simp[Own.bnd,bndL,bnd,boxO],by simp⟩
     rw[hpe]
     try rw[hg70]
     try rw[hg74]
     try rw[hg80]
     simp[getE,bnd,keepE]
   ·
    simp only[E,F,J,M,R,Tz,V,X,Y,reduceIte,sxk,G,H,sz]
    refine W.ret ⟨by simp,_,rfl,fun ρ w1 hb=>?_⟩
    rfl
theorem nodup_ix {l:List Int} (h:∀ (j:Nat) y,l[j]?=some y→ixOf l y=j):l.Nodup:=by
 rw[List.nodup_iff_pairwise_ne,List.pairwise_iff_getElem]
 intro i j hi hj hij he
 have h1:=h i l[i] (List.getElem?_eq_getElem hi)
 have h2:=h j l[j] (List.getElem?_eq_getElem hj)
 rw[← he,h1] at h2
 omega
def SrcOk (l:List Pt) (y:Pt):Prop:=y.src≠0→∃ q,q∈l∧q.id=y.src∧q.src=0
theorem src_no {l:List Pt} {y:Pt} (hy:y∈l) (hs:¬ y.src=0) (h:ixOf (l.map Pt.id) y.src<0):¬ PartsOk l:=fun hp=>by
 obtain⟨q,h1,h2,_⟩:=hp.src y hy hs
 have:0≤ixOf (l.map Pt.id) y.src:=ix_mem.2 (List.mem_map.2 ⟨q,h1,h2⟩)
 omega
theorem at_ix {α:Type} {f:α→Int} {l:List α} {x:Int} (h:¬ ixOf (l.map f) x<0):∃ (k:Nat) (q:α),ixOf (l.map f) x=k∧l[k]?=some q∧f q=x:=by
 rcases ix_cases (l.map f) x with⟨g,_⟩ | ⟨i,g1,g2,_⟩
 · omega
 ·
  rw[List.getElem?_map,Option.map_eq_some_iff] at g2
  obtain⟨b,g3,g4⟩:=g2
  exact⟨i,b,g1,g3,g4⟩
abbrev D31_:List (Option Nat):=[some 25,some 26,some 27,some 28,some 29,some 30,some 31,some 32,some 33,some 34,some 35,some 36,some 37]
theorem r8Parts_spec {S:Nat→Prop} {w:World} {v:Value} {l:List Pt} (hl:rPts.rd S w [v] l):Gives Tryz.prog 51 #[v] w fun r _=>r=.bool (pb (PartsOk l)):=by
 obtain⟨p,c,rfl,hc1,hc2⟩:=Rp.slice_val hl
 have hl:(Rp.slice rPt).rd (fun _=>True) w _ l:=Rp.any hl
 refine gives_of [.val (.slice p l.length c)] 59 [.tmp 2] Tryz.func51 rfl rfl rfl (by simp) rfl rfl ?_
 refine W.pure dn fun K1 k1=>?_
 simp only[E,F,J,M,R,Tz,V,X,Y,reduceIte,G,H,sz];refine k1 _ ?_
 refine W.seqK fun K2 k2=>?_
 refine W.join 13 (.val (.bool (decide ((l.length:Int)<1) || decide (60<(l.length:Int))))) [0] (W.region ?_) ?_
 ·
  refine WO.go 4 (ds:=D24_) rfl ?_
  simp only[E,F,J,M,R,Tz,V,X,Y,reduceIte,G,H,sz]
  refine WO.cases 9 _ rfl (fun hg9=>?_) fun hg9=>?_
  ·
   refine WO.go 4 (ds:=D24_) rfl ?_
   simp only[E,F,J,M,R,Tz,V,X,Y,reduceIte,G,H,sz]
   refine WO.nil ?_
   refine⟨rfl,?_,⟨_,rfl⟩,by simp[Own.bnd,bndL,bnd,boxO],by simp⟩
   try rw[hg9]
   simp[getE,bnd,keepE]
  ·
   refine WO.go 4 (ds:=D24_) rfl ?_
   simp only[E,F,J,M,R,Tz,V,X,Y,reduceIte,G,H,sz]
   refine WO.nil ?_
   refine⟨rfl,?_,⟨_,rfl⟩,by simp[Own.bnd,bndL,bnd,boxO],by simp⟩
   try rw[hg9]
   simp[getE,bnd,keepE]
 ·
  simp only[E,F,J,M,R,Tz,V,X,Y,reduceIte,sxk,G,H,sz]
  refine W.cond rfl rfl (fun hc=>?_) fun hc=>?_
  ·
   have hn:¬ (1≤l.length∧l.length≤60):=by rw[Bool.or_eq_true,decide_eq_true_eq,decide_eq_true_eq] at hc;omega
   refine W.pure dn fun K4 k4=>?_
   simp only[E,F,J,M,R,Tz,V,X,Y,reduceIte,G,H,sz];refine k4 _ ?_
   refine W.ret ⟨by simp,_,rfl,fun ρ w1 hb=>?_⟩
   rw[pb_no fun h=>hn ⟨h.one,h.len⟩];rfl
  ·
   have hn:1≤l.length∧l.length≤60:=by rw[Bool.or_eq_false_iff,decide_eq_false_iff_not,decide_eq_false_iff_not] at hc;omega
   refine W.skip (k2 _ ?_)
   refine W.seqK fun K5 k5=>?_
   refine W.pure dn fun K6 k6=>?_
   simp only[E,F,J,M,R,Tz,V,X,Y,reduceIte,G,H,sz];refine k6 _ ?_
   refine W.block ?_
   refine W.loopK (X:=Nat) [0] (fun x=>[(3,wv (x:Int))]) (fun x=>x≤l.length∧(∀ (j:Nat) y,j<x→l[j]?=some y→PartOk y∧ixOf (l.map Pt.id) y.id=j∧SrcOk l y)) (fun x=>l.length - x) 0 ?_ ?_ ?_
   · exact⟨rfl,by simp[getE,bnd,keepE],⟨[],by simp⟩,by simp[Own.bnd,bndL,bnd,boxO],by simp⟩
   ·
    exact⟨Nat.zero_le _,fun j _ hj=>by omega⟩
   ·
    rintro i ⟨hi,hall⟩
    simp only[E,F,J,M,R,Tz,V,X,Y,reduceIte,sxk,G,H,sz]
    refine W.seqK fun K7 k7=>?_
    refine W.pure dn fun K8 k8=>?_
    simp only[E,F,J,M,R,Tz,V,X,Y,reduceIte,G,H,sz];refine k8 _ ?_
    refine W.cond rfl rfl (fun hc=>?_) fun hc=>?_
    ·
     have hlt:i<l.length:=by simpa using hc
     obtain⟨y,hy⟩:=len_lt (rfl:l.length=_) hlt
     have hym:=List.mem_of_getElem? hy
     refine W.skip (k7 _ ?_)
     refine W.seqK fun K9 k9=>?_
     refine W.block ?_
     refine W.seqK fun K10 k10=>W.region ?_
     refine WO.go 2 dn ?_
     simp only[E,F,J,M,R,Tz,V,X,Y,reduceIte,G,H,sz]
     refine WO.elem (y:=y) hl (by simp[St.put]) dn rfl rfl (by simp[St.put]) (fun _=>rfl) rfl rfl rfl rfl rfl el23 agg50 sz50 (.inl rfl) (by omega) (hy) fun p ces hces=>?_
     have hces:ces=ptV y:=hces
     subst hces
     simp only[ptV,ofCells,if_true,List.toList_toArray,sr]
     simp only[E,F,J,M,R,Tz,V,X,Y,reduceIte,G,H,sz]
     refine WO.call (.bool (pb (PartOk y))) dn rfl rfl rfl co101 (fun ρ w1 hb=>r8Part_spec w1 y) ?_
     refine WO.go 1 dn ?_
     simp only[E,F,J,M,R,Tz,V,X,Y,reduceIte,G,H,sz]
     refine WO.nil ?_
     refine k10 _ ?_
     refine W.seqK fun K11 k11=>?_
     refine W.join 37 (.val (.bool (!pb (PartOk y) || ((ixOf (l.map Pt.id) y.id) != (i:Int))))) [0,3] (W.region ?_) ?_
     ·
      refine WO.go 3 (ds:=D31_) rfl ?_
      simp only[E,F,J,M,R,Tz,V,X,Y,reduceIte,G,H,sz]
      refine WO.cases 27 _ rfl (fun hg27=>?_) fun hg27=>?_
      ·
       refine WO.go 10 (ds:=D31_) rfl ?_
       simp only[E,F,J,M,R,Tz,V,X,Y,reduceIte,G,H,sz]
       refine WO.nil ?_
       refine⟨rfl,?_,⟨_,rfl⟩,by simp[Own.bnd,bndL,bnd,boxO],by simp⟩
       try rw[hg27]
       simp[getE,bnd,keepE]
      ·
       refine WO.go 3 (ds:=D31_) rfl ?_
       simp only[E,F,J,M,R,Tz,V,X,Y,reduceIte,G,H,sz]
       refine WO.elemF (y:=y) hl (by simp[St.put]) (ds:=D31_) rfl rfl rfl (by simp[St.put]) (fun _=>rfl) rfl (by simp[St.put]) (fun _ _=>rfl) rfl rfl rfl rfl rfl rfl el23 fo50_0 agg3 sz3 (Nat.le_of_ble_eq_true rfl) (.inr rfl) (by omega) (hy) fun p q ces hces=>?_
       have hces:ces=ptV y:=hces
       subst hces
       simp only[ptV,ofCells,if_true,List.toList_toArray,sr]
       simp only[E,F,J,M,R,Tz,V,X,Y,reduceIte,G,H,sz]
       refine WO.call (iv (ixOf (l.map Pt.id) y.id)) (ds:=D31_) rfl rfl rfl rfl co13 (fun ρ w1 hb=>rPartAt_spec (Rp.now hl (hb.first (by simp))) y.id) ?_
       refine WO.go 3 (ds:=D31_) rfl ?_
       simp only[E,F,J,M,R,Tz,V,X,Y,reduceIte,G,H,sz]
       refine WO.nil ?_
       refine⟨rfl,?_,⟨_,rfl⟩,by simp[Own.bnd,bndL,bnd,boxO],by simp⟩
       try rw[hg27]
       simp[getE,bnd,keepE]
     ·
      simp only[E,F,J,M,R,Tz,V,X,Y,reduceIte,sxk,G,H,sz]
      refine W.cond rfl rfl (fun hc=>?_) fun hc=>?_
      ·
       have hno:¬ PartsOk l:=fun h=>by
                                     have g1:=ix_get h.nd (show(l.map Pt.id)[i]?=some y.id by rw[List.getElem?_map,hy];rfl)
                                     rw[pb_yes (h.all y hym),g1] at hc
                                     simp at hc
       refine W.pure dn fun K13 k13=>?_
       simp only[E,F,J,M,R,Tz,V,X,Y,reduceIte,G,H,sz];refine k13 _ ?_
       refine W.ret ⟨by simp,_,rfl,fun ρ w1 hb=>?_⟩
       rw[pb_no hno];rfl
      ·
       rw[Bool.or_eq_false_iff,Bool.not_eq_false',bne_eq_false_iff_eq] at hc
       have hb9:PartOk y∧ixOf (l.map Pt.id) y.id=i:=⟨pb_of hc.1,hc.2⟩
       refine W.skip (k11 _ ?_)
       refine W.seqK fun K14 k14=>?_
       refine W.seqK fun K15 k15=>W.region ?_
       refine WO.go 2 dn ?_
       simp only[E,F,J,M,R,Tz,V,X,Y,reduceIte,G,H,sz]
       refine WO.elemF (y:=y) hl (by simp[St.put]) dn rfl rfl (by simp[St.put]) (fun _=>rfl) rfl (by simp[St.put]) (fun _ _=>rfl) rfl rfl rfl rfl rfl rfl el23 fo50_2 agg3 sz3 (Nat.le_of_ble_eq_true rfl) (.inr rfl) (by omega) (hy) fun p q ces hces=>?_
       have hces:ces=ptV y:=hces
       subst hces
       simp only[ptV,ofCells,if_true,List.toList_toArray,sr]
       refine WO.go 1 dn ?_
       simp only[E,F,J,M,R,Tz,V,X,Y,reduceIte,G,H,sz]
       refine WO.nil ?_
       refine k15 _ ?_
       refine W.cond rfl rfl (fun hc=>?_) fun hc=>?_
       ·
        have hs:y.src=0:=by simpa using hc
        refine W.exit (k9 _ ?_)
        refine W.region ?_
        refine WO.go 3 dn ?_
        simp only[E,F,J,M,R,Tz,V,X,Y,reduceIte,G,H,sz]
        refine WO.nil ?_
        refine⟨i+1,?_,by first | omega | (simp;omega),rfl,by simp[getE,bnd,keepE,wrap_succ (show i+1≤9223372036854775807 by omega)],⟨_,rfl⟩,by simp[Own.bnd,bndL,bnd,boxO],by simp⟩
        refine⟨hlt,fun j u hj hu=>?_⟩
        rcases Nat.lt_succ_iff_lt_or_eq.1 hj with h | rfl
        · exact hall j u h hu
        · rw[hy] at hu;obtain rfl:=Option.some.inj hu;exact⟨hb9.1,hb9.2,fun h=>absurd hs h⟩
       ·
        have hs:¬ y.src=0:=by simpa using hc
        refine W.skip (k14 _ ?_)
        refine W.seqK fun K16 k16=>W.region ?_
        refine WO.go 3 dn ?_
        simp only[E,F,J,M,R,Tz,V,X,Y,reduceIte,G,H,sz]
        refine WO.elemF (y:=y) hl (by simp[St.put]) dn rfl rfl (by simp[St.put]) (fun _=>rfl) rfl (by simp[St.put]) (fun _ _=>rfl) rfl rfl rfl rfl rfl rfl el23 fo50_2 agg3 sz3 (Nat.le_of_ble_eq_true rfl) (.inr rfl) (by omega) (hy) fun p q ces hces=>?_
        have hces:ces=ptV y:=hces
        subst hces
        simp only[ptV,ofCells,if_true,List.toList_toArray,sr]
        simp only[E,F,J,M,R,Tz,V,X,Y,reduceIte,G,H,sz]
        refine WO.call (iv (ixOf (l.map Pt.id) y.src)) dn rfl rfl rfl co13 (fun ρ w1 hb=>rPartAt_spec (Rp.now hl (hb.first (by simp))) y.src) ?_
        refine WO.go 1 dn ?_
        simp only[E,F,J,M,R,Tz,V,X,Y,reduceIte,G,H,sz]
        refine WO.nil ?_
        refine k16 _ ?_
        refine W.seqK fun K17 k17=>?_
        refine W.pure dn fun K18 k18=>?_
        simp only[E,F,J,M,R,Tz,V,X,Y,reduceIte,G,H,sz];refine k18 _ ?_
        refine W.cond rfl rfl (fun hc=>?_) fun hc=>?_
        ·
         have hno:=src_no hym hs (by simpa using hc)
         refine W.pure dn fun K19 k19=>?_
         simp only[E,F,J,M,R,Tz,V,X,Y,reduceIte,G,H,sz];refine k19 _ ?_
         refine W.ret ⟨by simp,_,rfl,fun ρ w1 hb=>?_⟩
         rw[pb_no hno];rfl
        ·
         obtain⟨k,u9,hk1,hk2,hk3⟩:=at_ix (f:=Pt.id) (l:=l) (x:=y.src) (by simpa using hc)
         simp only[hk1]
         refine W.skip (k17 _ ?_)
         refine W.seqK fun K20 k20=>W.region ?_
         refine WO.go 2 dn ?_
         simp only[E,F,J,M,R,Tz,V,X,Y,reduceIte,G,H,sz]
         refine WO.elemF (y:=u9) hl (by simp[St.put]) dn rfl rfl (by simp[St.put]) (fun _=>rfl) rfl (by simp[St.put]) (fun _ _=>rfl) rfl rfl rfl rfl rfl rfl el23 fo50_2 agg3 sz3 (Nat.le_of_ble_eq_true rfl) (.inr rfl) (by omega) (hk2) fun p q ces hces=>?_
         have hces:ces=ptV u9:=hces
         subst hces
         simp only[ptV,ofCells,if_true,List.toList_toArray,sr]
         refine WO.go 1 dn ?_
         simp only[E,F,J,M,R,Tz,V,X,Y,reduceIte,G,H,sz]
         refine WO.nil ?_
         refine k20 _ ?_
         refine W.cond rfl rfl (fun hc=>?_) fun hc=>?_
         ·
          have hq:¬ u9.src=0:=by simpa using hc
          refine W.pure dn fun K21 k21=>?_
          simp only[E,F,J,M,R,Tz,V,X,Y,reduceIte,G,H,sz];refine k21 _ ?_
          refine W.ret ⟨by simp,_,rfl,fun ρ w1 hb=>?_⟩
          rw[pb_no fun h=>by
                                        obtain⟨q2,g1,g2,g3⟩:=h.src y hym hs
                                        obtain⟨j,g4⟩:=List.mem_iff_getElem?.1 g1
                                        have:=nodup_not h.nd hk2 g4 (by rw[g2,hk3])
                                        subst this
                                        rw[hk2] at g4
                                        obtain rfl:=Option.some.inj g4
                                        exact hq g3];rfl
         ·
          have hq:u9.src=0:=by simpa using hc
          refine W.skip (k9 _ ?_)
          refine W.region ?_
          refine WO.go 3 dn ?_
          simp only[E,F,J,M,R,Tz,V,X,Y,reduceIte,G,H,sz]
          refine WO.nil ?_
          refine⟨i+1,?_,by first | omega | (simp;omega),rfl,by simp[getE,bnd,keepE,wrap_succ (show i+1≤9223372036854775807 by omega)],⟨_,rfl⟩,by simp[Own.bnd,bndL,bnd,boxO],by simp⟩
          refine⟨hlt,fun j u hj hu=>?_⟩
          rcases Nat.lt_succ_iff_lt_or_eq.1 hj with h | rfl
          · exact hall j u h hu
          · rw[hy] at hu;obtain rfl:=Option.some.inj hu;exact⟨hb9.1,hb9.2,fun _=>⟨u9,List.mem_of_getElem? hk2,hk3,hq⟩⟩
    ·
     have hge:l.length≤i:=by simpa using hc
     refine W.exit (k5 _ ?_)
     refine W.pure dn fun K22 k22=>?_
     simp only[E,F,J,M,R,Tz,V,X,Y,reduceIte,G,H,sz];refine k22 _ ?_
     refine W.ret ⟨by simp,_,rfl,fun ρ w1 hb=>?_⟩
     rw[pb_yes ⟨hn.1,hn.2,all_at fun j y hy=>(hall j y (by have:=(List.getElem?_eq_some_iff.1 hy).1;omega) hy).1,nodup_ix fun j x hx=>by rw[List.getElem?_map,Option.map_eq_some_iff] at hx;obtain⟨y,hy,rfl⟩:=hx;exact(hall j y (by have:=(List.getElem?_eq_some_iff.1 hy).1;omega) hy).2.1,all_at fun j y hy=>(hall j y (by have:=(List.getElem?_eq_some_iff.1 hy).1;omega) hy).2.2⟩];rfl
noncomputable def ownF (l:List Pt) (n:Nt):Int:=if pb (∃ (i:Nat) (p:Pt),ixOf (l.map Pt.id) n.part=i∧l[i]?=some p∧p.src=0)=true then ixOf (l.map Pt.id) n.part else -1
theorem ownF_yes {l:List Pt} {n:Nt} {i:Nat} {p:Pt} (h1:ixOf (l.map Pt.id) n.part=i) (h2:l[i]?=some p) (h3:p.src=0):ownF l n=i:=by
 unfold ownF;rw[if_pos (pb_yes ⟨i,p,h1,h2,h3⟩),h1]
theorem ownF_no {l:List Pt} {n:Nt} (h:¬ ∃ (i:Nat) (p:Pt),ixOf (l.map Pt.id) n.part=i∧l[i]?=some p∧p.src=0):ownF l n=-1:=by
 unfold ownF;rw[if_neg (by rw[pb_no h];decide)]
theorem ownF_cases (l:List Pt) (n:Nt):ownF l n=-1∨∃ (i:Nat) (p:Pt),ownF l n=i∧l[i]?=some p∧p.src=0∧p.id=n.part:=by
 by_cases h:∃ (i:Nat) (p:Pt),ixOf (l.map Pt.id) n.part=i∧l[i]?=some p∧p.src=0
 ·
  obtain⟨i,p,h1,h2,h3⟩:=h
  rcases ix_cases (l.map Pt.id) n.part with⟨g,_⟩ | ⟨j,g1,g2,_⟩
  · omega
  ·
   obtain rfl:j=i:=by omega
   rw[List.getElem?_map,h2] at g2
   exact .inr ⟨j,p,ownF_yes h1 h2 h3,h2,h3,by simpa using g2⟩
 · exact .inl (ownF_no h)
theorem own_mem {l:List Pt} {n:Nt} (hnd:(l.map Pt.id).Nodup) {p:Pt} (h:p∈l) (h2:p.id=n.part) (h3:p.src=0):∃ i:Nat,ownF l n=i∧l[i]?=some p:=by
 obtain⟨i,hi⟩:=List.mem_iff_getElem?.1 h
 exact⟨i,ownF_yes (ix_get hnd (by rw[List.getElem?_map,hi,← h2];rfl)) hi h3,hi⟩
theorem r8Own_spec {S:Nat→Prop} {w:World} {v:Value} {l:List Pt} (hl:rPts.rd S w [v] l) (n:Nt):Gives Tryz.prog 103 #[v,(ntq n)] w fun r _=>r=iv (ownF l n):=by
 obtain⟨p,c,rfl,hc1,hc2⟩:=Rp.slice_val hl
 have hl:(Rp.slice rPt).rd (fun _=>True) w _ l:=Rp.any hl
 refine gives_of [.val (.slice p l.length c),.agg (ntw n)] 19 [.tmp 4] Tryz.func103 rfl rfl rfl (by simp) rfl rfl ?_
 refine W.pure dn fun K1 k1=>?_
 simp only[E,F,J,M,R,Tz,V,X,Y,reduceIte,G,H,sz];refine k1 _ ?_
 refine W.seqK fun K2 k2=>W.region ?_
 refine WO.go 3 dn ?_
 simp only[E,F,J,M,R,Tz,V,X,Y,reduceIte,G,H,sz]
 refine WO.call (iv (ixOf (l.map Pt.id) n.part)) dn rfl rfl rfl co13 (fun ρ w1 hb=>rPartAt_spec (Rp.now hl (hb.first (by simp))) n.part) ?_
 refine WO.go 1 dn ?_
 simp only[E,F,J,M,R,Tz,V,X,Y,reduceIte,G,H,sz]
 refine WO.nil ?_
 refine k2 _ ?_
 refine W.seqK fun K3 k3=>?_
 refine W.pure dn fun K4 k4=>?_
 simp only[E,F,J,M,R,Tz,V,X,Y,reduceIte,G,H,sz];refine k4 _ ?_
 refine W.cond rfl rfl (fun hc=>?_) fun hc=>?_
 ·
  have hno:ixOf (l.map Pt.id) n.part<0:=by simpa using hc
  refine W.pure dn fun K5 k5=>?_
  simp only[E,F,J,M,R,Tz,V,X,Y,reduceIte,G,H,sz];refine k5 _ ?_
  refine W.ret ⟨by simp,_,rfl,fun ρ w1 hb=>?_⟩
  rw[ownF_no fun⟨i,p,h1,_⟩=>by omega];rfl
 ·
  obtain⟨k,u9,hk1,hk2,hk3⟩:=at_ix (f:=Pt.id) (l:=l) (x:=n.part) (by simpa using hc)
  simp only[hk1]
  refine W.skip (k3 _ ?_)
  refine W.seqK fun K6 k6=>?_
  refine W.seqK fun K7 k7=>W.region ?_
  refine WO.go 2 dn ?_
  simp only[E,F,J,M,R,Tz,V,X,Y,reduceIte,G,H,sz]
  refine WO.elemF (y:=u9) hl (by simp[St.put]) dn rfl rfl (by simp[St.put]) (fun _=>rfl) rfl (by simp[St.put]) (fun _ _=>rfl) rfl rfl rfl rfl rfl rfl el23 fo50_2 agg3 sz3 (Nat.le_of_ble_eq_true rfl) (.inr rfl) (by omega) (hk2) fun p q ces hces=>?_
  have hces:ces=ptV u9:=hces
  subst hces
  simp only[ptV,ofCells,if_true,List.toList_toArray,sr]
  refine WO.go 1 dn ?_
  simp only[E,F,J,M,R,Tz,V,X,Y,reduceIte,G,H,sz]
  refine WO.nil ?_
  refine k7 _ ?_
  refine W.cond rfl rfl (fun hc=>?_) fun hc=>?_
  ·
   have hq:¬ u9.src=0:=by simpa using hc
   refine W.pure dn fun K8 k8=>?_
   simp only[E,F,J,M,R,Tz,V,X,Y,reduceIte,G,H,sz];refine k8 _ ?_
   refine W.ret ⟨by simp,_,rfl,fun ρ w1 hb=>?_⟩
   rw[ownF_no fun⟨i,p,h1,h2,h3⟩=>by
                                 obtain rfl:i=k:=by omega
                                 rw[hk2] at h2
                                 obtain rfl:=Option.some.inj h2
                                 exact hq h3];rfl
  ·
   have hq:u9.src=0:=by simpa using hc
   refine W.skip (k6 _ ?_)
   refine W.pure dn fun K9 k9=>?_
   simp only[E,F,J,M,R,Tz,V,X,Y,reduceIte,G,H,sz];refine k9 _ ?_
   refine W.ret ⟨by simp,_,rfl,fun ρ w1 hb=>?_⟩
   rw[ownF_yes hk1 hk2 hq];rfl
theorem r8Range_spec (w:World) (p:Pt) (x:Pit) (h1:validP p.low=true) (h2:validP p.high=true) (h3:isNoteP x=true):Gives Tryz.prog 104 #[(ptq p),.agg #[iv x.1,iv x.2.1,iv x.2.2]] w fun r _=>r=.bool (within (numF p.low) (numF p.high) (numF x)):=by
 have g1:=validP_iff.1 h1
 have g2:=validP_iff.1 h2
 have g3:=isNote_b h3
 refine gives_of [.agg (ptw p),.agg [wv x.1,wv x.2.1,wv x.2.2]] 14 [.tmp 4] Tryz.func104 rfl rfl rfl (by simp) rfl rfl ?_
 refine W.pure dn fun K1 k1=>?_
 simp only[E,F,J,M,R,Tz,V,X,Y,reduceIte,G,H,sz];refine k1 _ ?_
 refine W.seqK fun K2 k2=>?_
 refine W.regionQ mixed (by kernel_rfl) ?_
 refine WQ.go 1 dn ?_
 simp only[E,F,J,M,R,Tz,V,X,Y,reduceIte,sxq,G,H,sz]
 refine WQ.call (iv (numF x)) dn rfl rfl rfl co60 (fun ρ w1 hb=>r2sound_spec w1 x g3.1 (by omega)) ?_
 refine WQ.go 2 dn ?_
 simp only[E,F,J,M,R,Tz,V,X,Y,reduceIte,sxq,G,H,sz]
 refine WQ.call (iv (numF p.low)) dn rfl rfl rfl co60 (fun ρ w1 hb=>r2sound_spec w1 p.low g1.1 (by omega)) ?_
 refine WQ.go 2 dn ?_
 simp only[E,F,J,M,R,Tz,V,X,Y,reduceIte,sxq,G,H,sz]
 refine WQ.call (iv (numF p.high)) dn rfl rfl rfl co60 (fun ρ w1 hb=>r2sound_spec w1 p.high g2.1 (by omega)) ?_
 simp only[E,F,J,M,R,Tz,V,X,Y,reduceIte,G,H,sz]
 refine WQ.call (.bool (within (numF p.low) (numF p.high) (numF x))) dn rfl rfl rfl co52 (fun ρ w1 hb=>r8in_spec w1 _ _ _) ?_
 refine WQ.go 1 dn ?_
 simp only[E,F,J,M,R,Tz,V,X,Y,reduceIte,sxq,G,H,sz]
 refine WQ.nil ?_
 refine k2 _ ?_
 refine W.ret ⟨by simp,_,rfl,fun ρ w1 hb=>?_⟩
 rfl
noncomputable def wrongF (l:List Pt) (ns:List Nt):Int:=if pb (∀ n,n∈ns→OwnOk l n)=true then 0 else if pb (∀ n,n∈ns→0≤ownF l n)=true then 20 else 22
theorem wrong_none {l:List Pt} {ns:List Nt} (hnd:(l.map Pt.id).Nodup) {n:Nt} (h:n∈ns) (h2:ownF l n<0):wrongF l ns=22:=by
 unfold wrongF
 rw[if_neg (by rw[pb_no fun hp=>by obtain⟨p,q1,q2,q3,_⟩:=hp n h;obtain⟨i,q4,_⟩:=own_mem hnd q1 q2 q3;omega];decide),if_neg (by rw[pb_no fun hp=>by have:=hp n h;omega];decide)]
theorem wrong_far {l:List Pt} {ns:List Nt} (hnd:(l.map Pt.id).Nodup) (hall:∀ n,n∈ns→0≤ownF l n) {n:Nt} (h:n∈ns) {i:Nat} {p:Pt} (h1:ownF l n=i) (h2:l[i]?=some p) (h3:within (numF p.low) (numF p.high) (numF n.pit)=false):wrongF l ns=20:=by
 unfold wrongF
 rw[if_neg (by
  rw[pb_no fun hp=>by
   obtain⟨q,q1,q2,q3,q5,q6⟩:=hp n h
   obtain⟨j,q4,q7⟩:=own_mem hnd q1 q2 q3
   obtain rfl:j=i:=by omega
   rw[h2] at q7
   obtain rfl:=Option.some.inj q7
   simp[within,q5,q6] at h3]
  decide),if_pos (pb_yes hall)]
theorem wrong_ok {l:List Pt} {ns:List Nt} (h:∀ n,n∈ns→OwnOk l n):wrongF l ns=0:=by unfold wrongF;rw[if_pos (pb_yes h)]
theorem wrong_zero {l:List Pt} {ns:List Nt} (h:wrongF l ns=0):∀ n,n∈ns→OwnOk l n:=by
 unfold wrongF at h
 split at h
 · rename_i h1;exact pb_of h1
 · split at h<;>cases h
theorem r8Wrong_spec {S S2:Nat→Prop} {w:World} {v u:Value} {l:List Pt} {ns:List Nt} (hl:rPts.rd S w [v] l) (hl2:rNts.rd S2 w [u] ns) (hp:PartsOk l) (hn:∀ n,n∈ns→isNoteP n.pit=true):Gives Tryz.prog 54 #[v,u] w fun r _=>r=iv (wrongF l ns):=by
 obtain⟨p,c,rfl,hc1,hc2⟩:=Rp.slice_val hl
 have hl:(Rp.slice rPt).rd (fun _=>True) w _ l:=Rp.any hl
 obtain⟨p2,c2,rfl,hc3,hc4⟩:=Rp.slice_val hl2
 have hl2:(Rp.slice rNt).rd (fun _=>True) w _ ns:=Rp.any hl2
 refine gives_of [.val (.slice p l.length c),.val (.slice p2 ns.length c2)] 44 [.tmp 4] Tryz.func54 rfl rfl rfl (by simp) rfl rfl ?_
 refine W.pure dn fun K1 k1=>?_
 simp only[E,F,J,M,R,Tz,V,X,Y,reduceIte,G,H,sz];refine k1 _ ?_
 refine W.seqK fun K2 k2=>?_
 refine W.pure dn fun K3 k3=>?_
 simp only[E,F,J,M,R,Tz,V,X,Y,reduceIte,G,H,sz];refine k3 _ ?_
 refine W.block ?_
 refine W.loopK (X:=Nat) [0,1] (fun x=>[(5,wv (x:Int))]) (fun x=>x≤ns.length∧∀ (j:Nat) y,j<x→ns[j]?=some y→0≤ownF l y) (fun x=>ns.length - x) 0 ?_ ?_ ?_
 · exact⟨rfl,by simp[getE,bnd,keepE],⟨[],by simp⟩,by simp[Own.bnd,bndL,bnd,boxO],by simp⟩
 ·
  exact⟨Nat.zero_le _,fun j _ hj=>by omega⟩
 ·
  rintro i ⟨hi,hall⟩
  simp only[E,F,J,M,R,Tz,V,X,Y,reduceIte,sxk,G,H,sz]
  refine W.seqK fun K4 k4=>?_
  refine W.pure dn fun K5 k5=>?_
  simp only[E,F,J,M,R,Tz,V,X,Y,reduceIte,G,H,sz];refine k5 _ ?_
  refine W.cond rfl rfl (fun hc=>?_) fun hc=>?_
  ·
   have hlt:i<ns.length:=by simpa using hc
   obtain⟨y,hy⟩:=len_lt (rfl:ns.length=_) hlt
   have hym:=List.mem_of_getElem? hy
   refine W.skip (k4 _ ?_)
   refine W.seqK fun K6 k6=>?_
   refine W.block ?_
   refine W.seqK fun K7 k7=>W.region ?_
   refine WO.go 3 dn ?_
   simp only[E,F,J,M,R,Tz,V,X,Y,reduceIte,G,H,sz]
   refine WO.elem (y:=y) hl2 (by simp[St.put]) dn rfl rfl (by simp[St.put]) (fun _=>rfl) rfl rfl rfl rfl rfl el24 agg89 sz89 (.inl rfl) (by omega) (hy) fun p ces hces=>?_
   have hces:ces=ntV y:=hces
   subst hces
   simp only[ntV,ofCells,if_true,List.toList_toArray,sr]
   simp only[E,F,J,M,R,Tz,V,X,Y,reduceIte,G,H,sz]
   refine WO.call (iv (ownF l y)) dn rfl rfl rfl co103 (fun ρ w1 hb=>r8Own_spec (Rp.now hl (hb.first (by simp))) y) ?_
   refine WO.go 1 dn ?_
   simp only[E,F,J,M,R,Tz,V,X,Y,reduceIte,G,H,sz]
   refine WO.nil ?_
   refine k7 _ ?_
   refine W.cond rfl rfl (fun hc=>?_) fun hc=>?_
   ·
    have hneg:ownF l y<0:=by simpa using hc
    refine W.pure dn fun K8 k8=>?_
    simp only[E,F,J,M,R,Tz,V,X,Y,reduceIte,G,H,sz];refine k8 _ ?_
    refine W.ret ⟨by simp,_,rfl,fun ρ w1 hb=>?_⟩
    rw[wrong_none hp.nd hym hneg];rfl
   ·
    have hneg:0≤ownF l y:=by simpa using hc
    refine W.skip (k6 _ ?_)
    refine W.region ?_
    refine WO.go 3 dn ?_
    simp only[E,F,J,M,R,Tz,V,X,Y,reduceIte,G,H,sz]
    refine WO.nil ?_
    refine⟨i+1,?_,by first | omega | (simp;omega),rfl,by simp[getE,bnd,keepE,wrap_succ (show i+1≤9223372036854775807 by omega)],⟨_,rfl⟩,by simp[Own.bnd,bndL,bnd,boxO],by simp⟩
    refine⟨hlt,fun j u hj hu=>?_⟩
    rcases Nat.lt_succ_iff_lt_or_eq.1 hj with h | rfl
    · exact hall j u h hu
    · rw[hy] at hu;obtain rfl:=Option.some.inj hu;exact hneg
  ·
   have hge:ns.length≤i:=by simpa using hc
   have hown:∀ n,n∈ns→0≤ownF l n:=all_at fun j y hy=>hall j y (by have:=(List.getElem?_eq_some_iff.1 hy).1;omega) hy
   clear hall
   refine W.exit (k2 _ ?_)
   refine W.seqK fun K9 k9=>?_
   refine W.pure dn fun K10 k10=>?_
   simp only[E,F,J,M,R,Tz,V,X,Y,reduceIte,G,H,sz];refine k10 _ ?_
   refine W.block ?_
   refine W.loopK (X:=Nat) [0,1] (fun x=>[(6,wv (x:Int))]) (fun x=>x≤ns.length∧∀ (j:Nat) y,j<x→ns[j]?=some y→OwnOk l y) (fun x=>ns.length - x) 0 ?_ ?_ ?_
   · exact⟨rfl,by simp[getE,bnd,keepE],⟨[],by simp⟩,by simp[Own.bnd,bndL,bnd,boxO],by simp⟩
   ·
    exact⟨Nat.zero_le _,fun j _ hj=>by omega⟩
   ·
    rintro i ⟨hi,hall⟩
    simp only[E,F,J,M,R,Tz,V,X,Y,reduceIte,sxk,G,H,sz]
    refine W.seqK fun K11 k11=>?_
    refine W.pure dn fun K12 k12=>?_
    simp only[E,F,J,M,R,Tz,V,X,Y,reduceIte,G,H,sz];refine k12 _ ?_
    refine W.cond rfl rfl (fun hc=>?_) fun hc=>?_
    ·
     have hlt:i<ns.length:=by simpa using hc
     obtain⟨y,hy⟩:=len_lt (rfl:ns.length=_) hlt
     have hym:=List.mem_of_getElem? hy
     have hoy:=hown y hym
     obtain⟨k,u9,hk1,hk2,hk3,hk4⟩:=(ownF_cases l y).resolve_left (by omega)
     have hu9:=hp.all u9 (List.mem_of_getElem? hk2)
     refine W.skip (k11 _ ?_)
     refine W.seqK fun K13 k13=>?_
     refine W.block ?_
     refine W.seqK fun K14 k14=>?_
     refine W.regionQ mixed (by kernel_rfl) ?_
     refine WQ.go 4 dn ?_
     simp only[E,F,J,M,R,Tz,V,X,Y,reduceIte,sxq,G,H,sz]
     refine WQ.elem (y:=y) hl2 (by simp[St.put]) dn rfl rfl (by simp[St.put]) (fun _=>rfl) rfl rfl rfl rfl rfl el24 agg89 sz89 (.inl rfl) (by omega) (hy) fun p ces hces=>?_
     have hces:ces=ntV y:=hces
     subst hces
     simp only[ntV,ofCells,if_true,List.toList_toArray,sr]
     simp only[E,F,J,M,R,Tz,V,X,Y,reduceIte,G,H,sz]
     refine WQ.call (iv (k:Int)) dn rfl rfl rfl co103 (fun ρ w1 hb=>by have h9:=r8Own_spec (Rp.now hl (hb.first (by simp))) y;rw[hk1] at h9;exact h9) ?_
     simp only[E,F,J,M,R,Tz,V,X,Y,reduceIte,G,H,sz]
     refine WQ.elem (y:=u9) hl (by simp[St.put]) dn rfl rfl (by simp[St.put]) (fun _=>rfl) rfl rfl rfl rfl rfl el23 agg50 sz50 (.inl rfl) (by omega) (hk2) fun p ces hces=>?_
     have hces:ces=ptV u9:=hces
     subst hces
     simp only[ptV,ofCells,if_true,List.toList_toArray,sr]
     refine WQ.go 2 dn ?_
     simp only[E,F,J,M,R,Tz,V,X,Y,reduceIte,sxq,G,H,sz]
     refine WQ.elemF (y:=y) hl2 (by simp[St.put]) dn rfl rfl (by simp[St.put]) (fun _=>rfl) rfl (by simp[St.put]) (fun _ _=>rfl) rfl rfl rfl rfl rfl rfl el24 fo89_7 agg48 sz48 (Nat.le_of_ble_eq_true rfl) (.inl rfl) (by omega) (hy) fun p q ces hces=>?_
     have hces:ces=ntV y:=hces
     subst hces
     simp only[ntV,ofCells,if_true,List.toList_toArray,sr]
     simp only[E,F,J,M,R,Tz,V,X,Y,reduceIte,G,H,sz]
     refine WQ.call (.bool (within (numF u9.low) (numF u9.high) (numF y.pit))) dn rfl rfl rfl co104 (fun ρ w1 hb=>r8Range_spec w1 u9 y.pit hu9.low hu9.high (hn y hym)) ?_
     refine WQ.go 1 dn ?_
     simp only[E,F,J,M,R,Tz,V,X,Y,reduceIte,sxq,G,H,sz]
     refine WQ.nil ?_
     refine k14 _ ?_
     refine W.pure dn fun K15 k15=>?_
     simp only[E,F,J,M,R,Tz,V,X,Y,reduceIte,G,H,sz];refine k15 _ ?_
     refine W.cond rfl rfl (fun hc=>?_) fun hc=>?_
     ·
      have hr:within (numF u9.low) (numF u9.high) (numF y.pit)=false:=by simpa using hc
      refine W.pure dn fun K16 k16=>?_
      simp only[E,F,J,M,R,Tz,V,X,Y,reduceIte,G,H,sz];refine k16 _ ?_
      refine W.ret ⟨by simp,_,rfl,fun ρ w1 hb=>?_⟩
      rw[wrong_far hp.nd hown hym hk1 hk2 hr];rfl
     ·
      have hr:within (numF u9.low) (numF u9.high) (numF y.pit)=true:=by simpa using hc
      rw[within_iff] at hr
      refine W.skip (k13 _ ?_)
      refine W.region ?_
      refine WO.go 3 dn ?_
      simp only[E,F,J,M,R,Tz,V,X,Y,reduceIte,G,H,sz]
      refine WO.nil ?_
      refine⟨i+1,?_,by first | omega | (simp;omega),rfl,by simp[getE,bnd,keepE,wrap_succ (show i+1≤9223372036854775807 by omega)],⟨_,rfl⟩,by simp[Own.bnd,bndL,bnd,boxO],by simp⟩
      refine⟨hlt,fun j u hj hu=>?_⟩
      rcases Nat.lt_succ_iff_lt_or_eq.1 hj with h | rfl
      · exact hall j u h hu
      · rw[hy] at hu;obtain rfl:=Option.some.inj hu;exact⟨u9,List.mem_of_getElem? hk2,hk4,hk3,hr.1,hr.2⟩
    ·
     have hge:ns.length≤i:=by simpa using hc
     refine W.exit (k9 _ ?_)
     refine W.pure dn fun K17 k17=>?_
     simp only[E,F,J,M,R,Tz,V,X,Y,reduceIte,G,H,sz];refine k17 _ ?_
     refine W.ret ⟨by simp,_,rfl,fun ρ w1 hb=>?_⟩
     rw[wrong_ok (all_at fun j y hy=>hall j y (by have:=(List.getElem?_eq_some_iff.1 hy).1;omega) hy)];rfl
abbrev D32_:List (Option Nat):=[some 14,some 15,some 16,some 17,some 18,some 19,some 20,some 21,some 22,some 23,some 24,some 25]
theorem r8Valid_spec {S:Nat→Prop} {w:World} {a:ScA} {s:Sc} (hs:ScR S w a s):Gives Tryz.prog 19 #[scV a s] w fun r _=>r=.bool (pb (ScOk s)):=by
 have hlb:(Rp.slice rBr).rd (fun _=>True) w _ s.bars:=Rp.any hs.b
 have hlp:(Rp.slice rPt).rd (fun _=>True) w _ s.parts:=Rp.any hs.p
 have hln:(Rp.slice rNt).rd (fun _=>True) w _ s.notes:=Rp.any hs.n
 unfold scV
 refine gives_of [.agg (scw a s)] 62 [.tmp 2] Tryz.func19 rfl rfl rfl (by simp) rfl rfl ?_
 refine W.pure dn fun K1 k1=>?_
 simp only[E,F,J,M,R,Tz,V,X,Y,reduceIte,G,H,sz];refine k1 _ ?_
 refine W.seqK fun K2 k2=>W.region ?_
 refine WO.go 2 dn ?_
 simp only[E,F,J,M,R,Tz,V,X,Y,reduceIte,G,H,sz]
 refine WO.call (.bool (pb (BarsOk s.bars))) dn rfl rfl rfl co50 (fun ρ w1 hb=>r6Valid_spec (Rp.now hlb (hb.first (by simp[St.put])))) ?_
 refine WO.go 1 dn ?_
 simp only[E,F,J,M,R,Tz,V,X,Y,reduceIte,G,H,sz]
 refine WO.nil ?_
 refine k2 _ ?_
 refine W.seqK fun K3 k3=>W.region ?_
 refine WO.go 2 dn ?_
 simp only[E,F,J,M,R,Tz,V,X,Y,reduceIte,G,H,sz]
 refine WO.call (.bool (pb (PartsOk s.parts))) dn rfl rfl rfl co51 (fun ρ w1 hb=>r8Parts_spec (Rp.now hlp (hb.first (by simp[St.put])))) ?_
 refine WO.go 1 dn ?_
 simp only[E,F,J,M,R,Tz,V,X,Y,reduceIte,G,H,sz]
 refine WO.nil ?_
 refine k3 _ ?_
 refine W.seqK fun K4 k4=>?_
 refine W.join 25 (.val (.bool ((!within 1 1000000 s.ver || !pb (BarsOk s.bars)) || !pb (PartsOk s.parts)))) [1] (W.region ?_) ?_
 ·
  refine WO.go 2 (ds:=D32_) rfl ?_
  simp only[E,F,J,M,R,Tz,V,X,Y,reduceIte,G,H,sz]
  refine WO.call (.bool (within 1 1000000 s.ver)) (ds:=D32_) rfl rfl rfl rfl co52 (fun ρ w1 hb=>r8in_spec w1 _ _ _) ?_
  refine WO.go 2 (ds:=D32_) rfl ?_
  simp only[E,F,J,M,R,Tz,V,X,Y,reduceIte,G,H,sz]
  refine WO.cases 18 _ rfl (fun hg18=>?_) fun hg18=>?_
  ·
   refine WO.go 7 (ds:=D32_) rfl ?_
   simp only[E,F,J,M,R,Tz,V,X,Y,reduceIte,G,H,sz]
   refine WO.nil ?_
   refine⟨rfl,?_,⟨_,rfl⟩,by simp[Own.bnd,bndL,bnd,boxO],by simp⟩
   try rw[hg18]
   try rw[hg22]
   simp[getE,bnd,keepE]
  ·
   refine WO.go 4 (ds:=D32_) rfl ?_
   simp only[E,F,J,M,R,Tz,V,X,Y,reduceIte,G,H,sz]
   refine WO.cases 22 _ rfl (fun hg22=>?_) fun hg22=>?_
   ·
    refine WO.go 3 (ds:=D32_) rfl ?_
    simp only[E,F,J,M,R,Tz,V,X,Y,reduceIte,G,H,sz]
    refine WO.nil ?_
    refine⟨rfl,?_,⟨_,rfl⟩,by simp[Own.bnd,bndL,bnd,boxO],by simp⟩
    try rw[hg18]
    try rw[hg22]
    simp[getE,bnd,keepE]
   ·
    refine WO.go 3 (ds:=D32_) rfl ?_
    simp only[E,F,J,M,R,Tz,V,X,Y,reduceIte,G,H,sz]
    refine WO.nil ?_
    refine⟨rfl,?_,⟨_,rfl⟩,by simp[Own.bnd,bndL,bnd,boxO],by simp⟩
    try rw[hg18]
    try rw[hg22]
    simp[getE,bnd,keepE]
 ·
  simp only[E,F,J,M,R,Tz,V,X,Y,reduceIte,sxk,G,H,sz]
  refine W.cond rfl rfl (fun hc=>?_) fun hc=>?_
  ·
   have hno:¬ ScOk s:=fun h=>by
                                 rw[h.ver,pb_yes h.bars,pb_yes h.parts] at hc
                                 simp at hc
   refine W.pure dn fun K6 k6=>?_
   simp only[E,F,J,M,R,Tz,V,X,Y,reduceIte,G,H,sz];refine k6 _ ?_
   refine W.ret ⟨by simp,_,rfl,fun ρ w1 hb=>?_⟩
   rw[pb_no hno];rfl
  ·
   simp only[Bool.or_eq_false_iff,Bool.not_eq_false'] at hc
   obtain⟨⟨hver,hbars⟩,hparts⟩:=hc
   have hbars:=pb_of hbars
   have hparts:=pb_of hparts
   refine W.skip (k4 _ ?_)
   refine W.seqK fun K7 k7=>W.region ?_
   refine WO.go 4 dn ?_
   simp only[E,F,J,M,R,Tz,V,X,Y,reduceIte,G,H,sz]
   refine WO.call (.bool (pb (NotesOk s.bars s.notes))) dn rfl rfl rfl co53 (fun ρ w1 hb=>r7Valid_spec (Rp.now hlb (hb.first (by simp[St.put]))) (Rp.now hln (hb.first (by simp[St.put])))) ?_
   refine WO.go 1 dn ?_
   simp only[E,F,J,M,R,Tz,V,X,Y,reduceIte,G,H,sz]
   refine WO.nil ?_
   refine k7 _ ?_
   refine W.seqK fun K8 k8=>?_
   refine W.pure dn fun K9 k9=>?_
   simp only[E,F,J,M,R,Tz,V,X,Y,reduceIte,G,H,sz];refine k9 _ ?_
   refine W.cond rfl rfl (fun hc=>?_) fun hc=>?_
   ·
    have hno:¬ NotesOk s.bars s.notes:=pb_not (by simpa using hc)
    refine W.pure dn fun K10 k10=>?_
    simp only[E,F,J,M,R,Tz,V,X,Y,reduceIte,G,H,sz];refine k10 _ ?_
    refine W.ret ⟨by simp,_,rfl,fun ρ w1 hb=>?_⟩
    rw[pb_no fun h=>hno h.notes];rfl
   ·
    have hnotes:NotesOk s.bars s.notes:=pb_of (by simpa using hc)
    have hlen9:=hnotes.len
    have hpit:∀ n,n∈s.notes→isNoteP n.pit=true:=fun n hn=>(hnotes.all n hn).pit
    refine W.skip (k8 _ ?_)
    refine W.seqK fun K11 k11=>?_
    refine W.seqK fun K12 k12=>W.region ?_
    refine WO.go 4 dn ?_
    simp only[E,F,J,M,R,Tz,V,X,Y,reduceIte,G,H,sz]
    refine WO.call (iv (wrongF s.parts s.notes)) dn rfl rfl rfl co54 (fun ρ w1 hb=>r8Wrong_spec (Rp.now hlp (hb.first (by simp[St.put]))) (Rp.now hln (hb.first (by simp[St.put]))) hparts hpit) ?_
    refine WO.go 1 dn ?_
    simp only[E,F,J,M,R,Tz,V,X,Y,reduceIte,G,H,sz]
    refine WO.nil ?_
    refine k12 _ ?_
    refine W.cond rfl rfl (fun hc=>?_) fun hc=>?_
    ·
     have hno:¬ wrongF s.parts s.notes=0:=by simpa using hc
     refine W.pure dn fun K13 k13=>?_
     simp only[E,F,J,M,R,Tz,V,X,Y,reduceIte,G,H,sz];refine k13 _ ?_
     refine W.ret ⟨by simp,_,rfl,fun ρ w1 hb=>?_⟩
     rw[pb_no fun h=>hno (wrong_ok h.own)];rfl
    ·
     have hown:=wrong_zero (by simpa using hc:wrongF s.parts s.notes=0)
     refine W.skip (k11 _ ?_)
     refine W.seqK fun K14 k14=>?_
     refine W.pure dn fun K15 k15=>?_
     simp only[E,F,J,M,R,Tz,V,X,Y,reduceIte,G,H,sz];refine k15 _ ?_
     refine W.block ?_
     refine W.loopK (X:=Nat) [1] (fun x=>[(6,wv (x:Int))]) (fun x=>1≤x∧(x≤s.notes.length∨x=1)∧∀ (j:Nat) a b,j+1<x→s.notes[j]?=some a→s.notes[j+1]?=some b→ltL (keyL s.bars a) (keyL s.bars b)=true) (fun x=>s.notes.length - x) 1 ?_ ?_ ?_
     · exact⟨rfl,by simp[getE,bnd,keepE],⟨[],by simp⟩,by simp[Own.bnd,bndL,bnd,boxO],by simp⟩
     ·
      exact⟨Nat.le_refl _,.inr rfl,fun j _ _ hj=>by omega⟩
     ·
      rintro i ⟨hi1,hi,hall⟩
      simp only[E,F,J,M,R,Tz,V,X,Y,reduceIte,sxk,G,H,sz]
      refine W.seqK fun K16 k16=>?_
      refine W.pure dn fun K17 k17=>?_
      simp only[E,F,J,M,R,Tz,V,X,Y,reduceIte,G,H,sz];refine k17 _ ?_
      refine W.cond rfl rfl (fun hc=>?_) fun hc=>?_
      ·
       have hlt:i<s.notes.length:=by simpa using hc
       obtain⟨y,hy⟩:=len_lt (rfl:s.notes.length=_) hlt
       obtain⟨z,hz⟩:=len_lt (rfl:s.notes.length=_) (show i - 1<s.notes.length by omega)
       have hwi:IntKind.i64.wrap ((i:Int) - 1)=((i - 1:Nat):Int):=by rw[wrap_id (by omega) (by omega)];omega
       refine W.skip (k16 _ ?_)
       refine W.seqK fun K18 k18=>?_
       refine W.block ?_
       refine W.seqK fun K19 k19=>?_
       refine W.regionQ mixed (by kernel_rfl) ?_
       refine WQ.go 6 dn ?_
       simp only[E,F,J,M,R,Tz,V,X,Y,reduceIte,sxq,G,H,hwi,sz]
       refine WQ.elem (y:=z) hln (by simp[St.put]) dn rfl rfl (by simp[St.put]) (fun _=>rfl) rfl rfl rfl rfl rfl el24 agg89 sz89 (.inl rfl) (by omega) (hz) fun p ces hces=>?_
       have hces:ces=ntV z:=hces
       subst hces
       simp only[ntV,ofCells,if_true,List.toList_toArray,sr]
       refine WQ.go 3 dn ?_
       simp only[E,F,J,M,R,Tz,V,X,Y,reduceIte,sxq,G,H,hwi,sz]
       refine WQ.elem (y:=y) hln (by simp[St.put]) dn rfl rfl (by simp[St.put]) (fun _=>rfl) rfl rfl rfl rfl rfl el24 agg89 sz89 (.inl rfl) (by omega) (hy) fun p ces hces=>?_
       have hces:ces=ntV y:=hces
       subst hces
       simp only[ntV,ofCells,if_true,List.toList_toArray,sr]
       simp only[E,F,J,M,R,Tz,V,X,Y,reduceIte,G,H,hwi,sz]
       refine WQ.call (.bool (ltL (keyL s.bars z) (keyL s.bars y))) dn rfl rfl rfl co55 (fun ρ w1 hb=>r7Before_spec (Rp.now hlb (hb.first (by simp[St.put]))) z y (hpit z (List.mem_of_getElem? hz)) (hpit y (List.mem_of_getElem? hy))) ?_
       refine WQ.go 1 dn ?_
       simp only[E,F,J,M,R,Tz,V,X,Y,reduceIte,sxq,G,H,hwi,sz]
       refine WQ.nil ?_
       refine k19 _ ?_
       refine W.pure dn fun K20 k20=>?_
       simp only[E,F,J,M,R,Tz,V,X,Y,reduceIte,G,H,hwi,sz];refine k20 _ ?_
       refine W.cond rfl rfl (fun hc=>?_) fun hc=>?_
       ·
        have hf:ltL (keyL s.bars z) (keyL s.bars y)=false:=by simpa using hc
        refine W.pure dn fun K21 k21=>?_
        simp only[E,F,J,M,R,Tz,V,X,Y,reduceIte,G,H,hwi,sz];refine k21 _ ?_
        refine W.ret ⟨by simp,_,rfl,fun ρ w1 hb=>?_⟩
        rw[pb_no fun h=>by have:=h.ord (i - 1) z y hz (by rw[show i - 1+1=i by omega];exact hy);rw[hf] at this;cases this];rfl
       ·
        have hf:ltL (keyL s.bars z) (keyL s.bars y)=true:=by simpa using hc
        refine W.skip (k18 _ ?_)
        refine W.region ?_
        refine WO.go 3 dn ?_
        simp only[E,F,J,M,R,Tz,V,X,Y,reduceIte,G,H,hwi,sz]
        refine WO.nil ?_
        refine⟨i+1,?_,by first | omega | (simp;omega),rfl,by simp[getE,bnd,keepE,wrap_succ (show i+1≤9223372036854775807 by omega)],⟨_,rfl⟩,by simp[Own.bnd,bndL,bnd,boxO],by simp⟩
        refine⟨by omega,by omega,fun j a b hj ha hb=>?_⟩
        rcases Nat.lt_succ_iff_lt_or_eq.1 hj with h | h
        · exact hall j a b h ha hb
        ·
         obtain rfl:j=i - 1:=by omega
         rw[h,hy] at hb
         rw[hz] at ha
         obtain rfl:=Option.some.inj ha
         obtain rfl:=Option.some.inj hb
         exact hf
      ·
       have hge:s.notes.length≤i:=by simpa using hc
       refine W.exit (k14 _ ?_)
       refine W.pure dn fun K22 k22=>?_
       simp only[E,F,J,M,R,Tz,V,X,Y,reduceIte,G,H,sz];refine k22 _ ?_
       refine W.ret ⟨by simp,_,rfl,fun ρ w1 hb=>?_⟩
       rw[pb_yes ⟨hver,hparts,hnotes,hown,fun j a b ha hb=>hall j a b (by have:=(List.getElem?_eq_some_iff.1 hb).1;omega) ha hb⟩];rfl
theorem r8Source_spec (w:World) (p:Pt):Gives Tryz.prog 14 #[(ptq p)] w fun r _=>r=iv (if p.src=0 then p.id else p.src):=by
 refine gives_of [.agg (ptw p)] 10 [.tmp 2] Tryz.func14 rfl rfl rfl (by simp) rfl rfl ?_
 refine W.pure dn fun K1 k1=>?_
 simp only[E,F,J,M,R,Tz,V,X,Y,reduceIte,G,H,sz];refine k1 _ ?_
 refine W.seqK fun K2 k2=>?_
 refine W.pure dn fun K3 k3=>?_
 simp only[E,F,J,M,R,Tz,V,X,Y,reduceIte,G,H,sz];refine k3 _ ?_
 refine W.cond rfl rfl (fun hc=>?_) fun hc=>?_
 ·
  have h0:p.src=0:=by simpa using hc
  refine W.pure dn fun K4 k4=>?_
  simp only[E,F,J,M,R,Tz,V,X,Y,reduceIte,G,H,sz];refine k4 _ ?_
  refine W.ret ⟨by simp,_,rfl,fun ρ w1 hb=>?_⟩
  rw[if_pos h0];rfl
 ·
  have h0:¬ p.src=0:=by simpa using hc
  refine W.skip (k2 _ ?_)
  refine W.pure dn fun K5 k5=>?_
  simp only[E,F,J,M,R,Tz,V,X,Y,reduceIte,G,H,sz];refine k5 _ ?_
  refine W.ret ⟨by simp,_,rfl,fun ρ w1 hb=>?_⟩
  rw[if_neg h0];rfl
theorem br_beq (a b:Br):([a.id,a.len.1,a.len.2,a.key] == [b.id,b.len.1,b.len.2,b.key])=decide (a=b):=by
 rw[Bool.eq_iff_iff,beq_iff_eq,decide_eq_true_eq]
 constructor
 ·
  intro h
  simp only[List.cons.injEq,and_true] at h
  cases a;cases b
  simp_all [Prod.ext_iff]
 · rintro rfl;rfl
theorem pt_beq (a b:Pt):([a.id,a.sec,a.src,a.oct,a.desks,a.sa,a.sb,a.low.1,a.low.2.1,a.low.2.2,a.high.1,a.high.2.1,a.high.2.2] == [b.id,b.sec,b.src,b.oct,b.desks,b.sa,b.sb,b.low.1,b.low.2.1,b.low.2.2,b.high.1,b.high.2.1,b.high.2.2])=decide (a=b):=by
 rw[Bool.eq_iff_iff,beq_iff_eq,decide_eq_true_eq]
 constructor
 ·
  intro h
  simp only[List.cons.injEq,and_true] at h
  cases a;cases b
  simp_all [Prod.ext_iff]
 · rintro rfl;rfl
theorem nt_beq (a b:Nt):([a.id,a.part,a.bar,a.voice,a.ossia,a.start.1,a.start.2,a.len.1,a.len.2,a.pit.1,a.pit.2.1,a.pit.2.2] == [b.id,b.part,b.bar,b.voice,b.ossia,b.start.1,b.start.2,b.len.1,b.len.2,b.pit.1,b.pit.2.1,b.pit.2.2])=decide (a=b):=by
 rw[Bool.eq_iff_iff,beq_iff_eq,decide_eq_true_eq]
 constructor
 ·
  intro h
  simp only[List.cons.injEq,and_true] at h
  cases a;cases b
  simp_all [Prod.ext_iff]
 · rintro rfl;rfl
theorem sameBars_spec {S S2:Nat→Prop} {w:World} {v u:Value} {a b:List Br} (hl:rBrs.rd S w [v] a) (hl2:rBrs.rd S2 w [u] b):Gives Tryz.prog 39 #[v,u] w fun r _=>r=.bool (pb (a=b)):=by
 obtain⟨p,c,rfl,hc1,hc2⟩:=Rp.slice_val hl
 obtain⟨p2,c2,rfl,hc3,hc4⟩:=Rp.slice_val hl2
 have hl:(Rp.slice rBr).rd (fun _=>True) w _ a:=Rp.any hl
 have hl2:(Rp.slice rBr).rd (fun _=>True) w _ b:=Rp.any hl2
 refine gives_of [.val (.slice p a.length c),.val (.slice p2 b.length c2)] 26 [.tmp 4] Tryz.func39 rfl rfl rfl (by simp) rfl rfl ?_
 refine W.pure dn fun K1 k1=>?_
 simp only[E,F,J,M,R,Tz,V,X,Y,reduceIte,G,H,sz];refine k1 _ ?_
 refine W.seqK fun K2 k2=>?_
 refine W.pure dn fun K3 k3=>?_
 simp only[E,F,J,M,R,Tz,V,X,Y,reduceIte,G,H,sz];refine k3 _ ?_
 refine W.cond rfl rfl (fun hc=>?_) fun hc=>?_
 ·
  have h0:a.length≠b.length:=by simp at hc;omega
  refine W.pure dn fun K4 k4=>?_
  simp only[E,F,J,M,R,Tz,V,X,Y,reduceIte,G,H,sz];refine k4 _ ?_
  refine W.ret ⟨by simp,_,rfl,fun ρ w1 hb=>?_⟩
  rw[pb_no fun h=>h0 (by rw[h])];rfl
 ·
  have h0:a.length=b.length:=by simp at hc;omega
  refine W.skip (k2 _ ?_)
  refine W.seqK fun K5 k5=>?_
  refine W.pure dn fun K6 k6=>?_
  simp only[E,F,J,M,R,Tz,V,X,Y,reduceIte,G,H,sz];refine k6 _ ?_
  refine W.block ?_
  refine W.loopK (X:=Nat) [0,1] (fun x=>[(5,wv (x:Int))]) (fun x=>x≤a.length∧∀ j,j<x→a[j]?=b[j]?) (fun x=>a.length - x) 0 ?_ ?_ ?_
  · exact⟨rfl,by simp[getE,bnd,keepE],⟨[],by simp⟩,by simp[Own.bnd,bndL,bnd,boxO],by simp⟩
  ·
   exact⟨Nat.zero_le _,fun j h=>by omega⟩
  ·
   rintro i ⟨hi,hno⟩
   simp only[E,F,J,M,R,Tz,V,X,Y,reduceIte,sxk,G,H,sz]
   refine W.seqK fun K7 k7=>?_
   refine W.pure dn fun K8 k8=>?_
   simp only[E,F,J,M,R,Tz,V,X,Y,reduceIte,G,H,sz];refine k8 _ ?_
   refine W.cond rfl rfl (fun hc=>?_) fun hc=>?_
   ·
    have hlt:i<a.length:=by simpa using hc
    obtain⟨y,hy⟩:=len_lt (rfl:a.length=_) hlt
    obtain⟨z,hz⟩:=len_lt (rfl:b.length=_) (show i<b.length by omega)
    refine W.skip (k7 _ ?_)
    refine W.seqK fun K9 k9=>?_
    refine W.block ?_
    refine W.seqK fun K10 k10=>?_
    refine W.regionQ mixed (by kernel_rfl) ?_
    refine WQ.go 2 dn ?_
    simp only[E,F,J,M,R,Tz,V,X,Y,reduceIte,sxq,G,H,sz]
    refine WQ.elem (y:=y) hl (by simp[St.put]) dn rfl rfl (by simp[St.put]) (fun _=>rfl) rfl rfl rfl rfl rfl el22 agg75 sz75 (.inl rfl) (by omega) (hy) fun p ces hces=>?_
    have hces:ces=brV y:=hces
    subst hces
    simp only[brV,ofCells,if_true,List.toList_toArray,sr]
    refine WQ.go 2 dn ?_
    simp only[E,F,J,M,R,Tz,V,X,Y,reduceIte,sxq,G,H,sz]
    refine WQ.elem (y:=z) hl2 (by simp[St.put]) dn rfl rfl (by simp[St.put]) (fun _=>rfl) rfl rfl rfl rfl rfl el22 agg75 sz75 (.inl rfl) (by omega) (hz) fun p ces hces=>?_
    have hces:ces=brV z:=hces
    subst hces
    simp only[brV,ofCells,if_true,List.toList_toArray,sr]
    simp only[E,F,J,M,R,Tz,V,X,Y,reduceIte,G,H,sz]
    refine WQ.aggCmpN [y.id,y.len.1,y.len.2,y.key] [z.id,z.len.1,z.len.2,z.key] dn rfl rfl rfl ⟨_,rfl,fun _=>rfl⟩ ⟨_,rfl,fun _=>rfl⟩ itn75 rfl rfl rfl ?_
    simp only[E,F,J,M,R,Tz,V,X,Y,reduceIte,G,H,sz]
    refine WQ.nil ?_
    refine k10 _ ?_
    refine W.cond rfl rfl (fun hc=>?_) fun hc=>?_
    ·
     have he:¬ y=z:=by rw[br_beq] at hc;simpa using hc
     refine W.pure dn fun K11 k11=>?_
     simp only[E,F,J,M,R,Tz,V,X,Y,reduceIte,G,H,sz];refine k11 _ ?_
     refine W.ret ⟨by simp,_,rfl,fun ρ w1 hb=>?_⟩
     rw[pb_no fun h=>by rw[h,hz] at hy;exact he (Option.some.inj hy).symm];rfl
    ·
     have he:y=z:=by rw[br_beq] at hc;simpa using hc
     refine W.skip (k9 _ ?_)
     refine W.region ?_
     refine WO.go 3 dn ?_
     simp only[E,F,J,M,R,Tz,V,X,Y,reduceIte,G,H,sz]
     refine WO.nil ?_
     refine⟨i+1,?_,by first | omega | (simp;omega),rfl,by simp[getE,bnd,keepE,wrap_succ (show i+1≤9223372036854775807 by omega)],⟨_,rfl⟩,by simp[Own.bnd,bndL,bnd,boxO],by simp⟩
     refine⟨hlt,fun j h=>?_⟩
     rcases Nat.lt_succ_iff_lt_or_eq.1 h with h | rfl
     · exact hno j h
     · rw[hy,hz,he]
   ·
    have hge:a.length≤i:=by simpa using hc
    refine W.exit (k5 _ ?_)
    refine W.pure dn fun K12 k12=>?_
    simp only[E,F,J,M,R,Tz,V,X,Y,reduceIte,G,H,sz];refine k12 _ ?_
    refine W.ret ⟨by simp,_,rfl,fun ρ w1 hb=>?_⟩
    rw[pb_yes (List.ext_getElem? fun q=>by
                                  rcases Nat.lt_or_ge q i with hq | hq
                                  · exact hno q hq
                                  · rw[List.getElem?_eq_none (by omega),List.getElem?_eq_none (by omega)])];rfl
theorem sameParts_spec {S S2:Nat→Prop} {w:World} {v u:Value} {a b:List Pt} (hl:rPts.rd S w [v] a) (hl2:rPts.rd S2 w [u] b):Gives Tryz.prog 40 #[v,u] w fun r _=>r=.bool (pb (a=b)):=by
 obtain⟨p,c,rfl,hc1,hc2⟩:=Rp.slice_val hl
 obtain⟨p2,c2,rfl,hc3,hc4⟩:=Rp.slice_val hl2
 have hl:(Rp.slice rPt).rd (fun _=>True) w _ a:=Rp.any hl
 have hl2:(Rp.slice rPt).rd (fun _=>True) w _ b:=Rp.any hl2
 refine gives_of [.val (.slice p a.length c),.val (.slice p2 b.length c2)] 26 [.tmp 4] Tryz.func40 rfl rfl rfl (by simp) rfl rfl ?_
 refine W.pure dn fun K1 k1=>?_
 simp only[E,F,J,M,R,Tz,V,X,Y,reduceIte,G,H,sz];refine k1 _ ?_
 refine W.seqK fun K2 k2=>?_
 refine W.pure dn fun K3 k3=>?_
 simp only[E,F,J,M,R,Tz,V,X,Y,reduceIte,G,H,sz];refine k3 _ ?_
 refine W.cond rfl rfl (fun hc=>?_) fun hc=>?_
 ·
  have h0:a.length≠b.length:=by simp at hc;omega
  refine W.pure dn fun K4 k4=>?_
  simp only[E,F,J,M,R,Tz,V,X,Y,reduceIte,G,H,sz];refine k4 _ ?_
  refine W.ret ⟨by simp,_,rfl,fun ρ w1 hb=>?_⟩
  rw[pb_no fun h=>h0 (by rw[h])];rfl
 ·
  have h0:a.length=b.length:=by simp at hc;omega
  refine W.skip (k2 _ ?_)
  refine W.seqK fun K5 k5=>?_
  refine W.pure dn fun K6 k6=>?_
  simp only[E,F,J,M,R,Tz,V,X,Y,reduceIte,G,H,sz];refine k6 _ ?_
  refine W.block ?_
  refine W.loopK (X:=Nat) [0,1] (fun x=>[(5,wv (x:Int))]) (fun x=>x≤a.length∧∀ j,j<x→a[j]?=b[j]?) (fun x=>a.length - x) 0 ?_ ?_ ?_
  · exact⟨rfl,by simp[getE,bnd,keepE],⟨[],by simp⟩,by simp[Own.bnd,bndL,bnd,boxO],by simp⟩
  ·
   exact⟨Nat.zero_le _,fun j h=>by omega⟩
  ·
   rintro i ⟨hi,hno⟩
   simp only[E,F,J,M,R,Tz,V,X,Y,reduceIte,sxk,G,H,sz]
   refine W.seqK fun K7 k7=>?_
   refine W.pure dn fun K8 k8=>?_
   simp only[E,F,J,M,R,Tz,V,X,Y,reduceIte,G,H,sz];refine k8 _ ?_
   refine W.cond rfl rfl (fun hc=>?_) fun hc=>?_
   ·
    have hlt:i<a.length:=by simpa using hc
    obtain⟨y,hy⟩:=len_lt (rfl:a.length=_) hlt
    obtain⟨z,hz⟩:=len_lt (rfl:b.length=_) (show i<b.length by omega)
    refine W.skip (k7 _ ?_)
    refine W.seqK fun K9 k9=>?_
    refine W.block ?_
    refine W.seqK fun K10 k10=>?_
    refine W.regionQ mixed (by kernel_rfl) ?_
    refine WQ.go 2 dn ?_
    simp only[E,F,J,M,R,Tz,V,X,Y,reduceIte,sxq,G,H,sz]
    refine WQ.elem (y:=y) hl (by simp[St.put]) dn rfl rfl (by simp[St.put]) (fun _=>rfl) rfl rfl rfl rfl rfl el23 agg50 sz50 (.inl rfl) (by omega) (hy) fun p ces hces=>?_
    have hces:ces=ptV y:=hces
    subst hces
    simp only[ptV,ofCells,if_true,List.toList_toArray,sr]
    refine WQ.go 2 dn ?_
    simp only[E,F,J,M,R,Tz,V,X,Y,reduceIte,sxq,G,H,sz]
    refine WQ.elem (y:=z) hl2 (by simp[St.put]) dn rfl rfl (by simp[St.put]) (fun _=>rfl) rfl rfl rfl rfl rfl el23 agg50 sz50 (.inl rfl) (by omega) (hz) fun p ces hces=>?_
    have hces:ces=ptV z:=hces
    subst hces
    simp only[ptV,ofCells,if_true,List.toList_toArray,sr]
    simp only[E,F,J,M,R,Tz,V,X,Y,reduceIte,G,H,sz]
    refine WQ.aggCmpN [y.id,y.sec,y.src,y.oct,y.desks,y.sa,y.sb,y.low.1,y.low.2.1,y.low.2.2,y.high.1,y.high.2.1,y.high.2.2] [z.id,z.sec,z.src,z.oct,z.desks,z.sa,z.sb,z.low.1,z.low.2.1,z.low.2.2,z.high.1,z.high.2.1,z.high.2.2] dn rfl rfl rfl ⟨_,rfl,fun _=>rfl⟩ ⟨_,rfl,fun _=>rfl⟩ itn50 rfl rfl rfl ?_
    simp only[E,F,J,M,R,Tz,V,X,Y,reduceIte,G,H,sz]
    refine WQ.nil ?_
    refine k10 _ ?_
    refine W.cond rfl rfl (fun hc=>?_) fun hc=>?_
    ·
     have he:¬ y=z:=by rw[pt_beq] at hc;simpa using hc
     refine W.pure dn fun K11 k11=>?_
     simp only[E,F,J,M,R,Tz,V,X,Y,reduceIte,G,H,sz];refine k11 _ ?_
     refine W.ret ⟨by simp,_,rfl,fun ρ w1 hb=>?_⟩
     rw[pb_no fun h=>by rw[h,hz] at hy;exact he (Option.some.inj hy).symm];rfl
    ·
     have he:y=z:=by rw[pt_beq] at hc;simpa using hc
     refine W.skip (k9 _ ?_)
     refine W.region ?_
     refine WO.go 3 dn ?_
     simp only[E,F,J,M,R,Tz,V,X,Y,reduceIte,G,H,sz]
     refine WO.nil ?_
     refine⟨i+1,?_,by first | omega | (simp;omega),rfl,by simp[getE,bnd,keepE,wrap_succ (show i+1≤9223372036854775807 by omega)],⟨_,rfl⟩,by simp[Own.bnd,bndL,bnd,boxO],by simp⟩
     refine⟨hlt,fun j h=>?_⟩
     rcases Nat.lt_succ_iff_lt_or_eq.1 h with h | rfl
     · exact hno j h
     · rw[hy,hz,he]
   ·
    have hge:a.length≤i:=by simpa using hc
    refine W.exit (k5 _ ?_)
    refine W.pure dn fun K12 k12=>?_
    simp only[E,F,J,M,R,Tz,V,X,Y,reduceIte,G,H,sz];refine k12 _ ?_
    refine W.ret ⟨by simp,_,rfl,fun ρ w1 hb=>?_⟩
    rw[pb_yes (List.ext_getElem? fun q=>by
                                  rcases Nat.lt_or_ge q i with hq | hq
                                  · exact hno q hq
                                  · rw[List.getElem?_eq_none (by omega),List.getElem?_eq_none (by omega)])];rfl
theorem sameNotes_spec {S S2:Nat→Prop} {w:World} {v u:Value} {a b:List Nt} (hl:rNts.rd S w [v] a) (hl2:rNts.rd S2 w [u] b):Gives Tryz.prog 41 #[v,u] w fun r _=>r=.bool (pb (a=b)):=by
 obtain⟨p,c,rfl,hc1,hc2⟩:=Rp.slice_val hl
 obtain⟨p2,c2,rfl,hc3,hc4⟩:=Rp.slice_val hl2
 have hl:(Rp.slice rNt).rd (fun _=>True) w _ a:=Rp.any hl
 have hl2:(Rp.slice rNt).rd (fun _=>True) w _ b:=Rp.any hl2
 refine gives_of [.val (.slice p a.length c),.val (.slice p2 b.length c2)] 26 [.tmp 4] Tryz.func41 rfl rfl rfl (by simp) rfl rfl ?_
 refine W.pure dn fun K1 k1=>?_
 simp only[E,F,J,M,R,Tz,V,X,Y,reduceIte,G,H,sz];refine k1 _ ?_
 refine W.seqK fun K2 k2=>?_
 refine W.pure dn fun K3 k3=>?_
 simp only[E,F,J,M,R,Tz,V,X,Y,reduceIte,G,H,sz];refine k3 _ ?_
 refine W.cond rfl rfl (fun hc=>?_) fun hc=>?_
 ·
  have h0:a.length≠b.length:=by simp at hc;omega
  refine W.pure dn fun K4 k4=>?_
  simp only[E,F,J,M,R,Tz,V,X,Y,reduceIte,G,H,sz];refine k4 _ ?_
  refine W.ret ⟨by simp,_,rfl,fun ρ w1 hb=>?_⟩
  rw[pb_no fun h=>h0 (by rw[h])];rfl
 ·
  have h0:a.length=b.length:=by simp at hc;omega
  refine W.skip (k2 _ ?_)
  refine W.seqK fun K5 k5=>?_
  refine W.pure dn fun K6 k6=>?_
  simp only[E,F,J,M,R,Tz,V,X,Y,reduceIte,G,H,sz];refine k6 _ ?_
  refine W.block ?_
  refine W.loopK (X:=Nat) [0,1] (fun x=>[(5,wv (x:Int))]) (fun x=>x≤a.length∧∀ j,j<x→a[j]?=b[j]?) (fun x=>a.length - x) 0 ?_ ?_ ?_
  · exact⟨rfl,by simp[getE,bnd,keepE],⟨[],by simp⟩,by simp[Own.bnd,bndL,bnd,boxO],by simp⟩
  ·
   exact⟨Nat.zero_le _,fun j h=>by omega⟩
  ·
   rintro i ⟨hi,hno⟩
   simp only[E,F,J,M,R,Tz,V,X,Y,reduceIte,sxk,G,H,sz]
   refine W.seqK fun K7 k7=>?_
   refine W.pure dn fun K8 k8=>?_
   simp only[E,F,J,M,R,Tz,V,X,Y,reduceIte,G,H,sz];refine k8 _ ?_
   refine W.cond rfl rfl (fun hc=>?_) fun hc=>?_
   ·
    have hlt:i<a.length:=by simpa using hc
    obtain⟨y,hy⟩:=len_lt (rfl:a.length=_) hlt
    obtain⟨z,hz⟩:=len_lt (rfl:b.length=_) (show i<b.length by omega)
    refine W.skip (k7 _ ?_)
    refine W.seqK fun K9 k9=>?_
    refine W.block ?_
    refine W.seqK fun K10 k10=>?_
    refine W.regionQ mixed (by kernel_rfl) ?_
    refine WQ.go 2 dn ?_
    simp only[E,F,J,M,R,Tz,V,X,Y,reduceIte,sxq,G,H,sz]
    refine WQ.elem (y:=y) hl (by simp[St.put]) dn rfl rfl (by simp[St.put]) (fun _=>rfl) rfl rfl rfl rfl rfl el24 agg89 sz89 (.inl rfl) (by omega) (hy) fun p ces hces=>?_
    have hces:ces=ntV y:=hces
    subst hces
    simp only[ntV,ofCells,if_true,List.toList_toArray,sr]
    refine WQ.go 2 dn ?_
    simp only[E,F,J,M,R,Tz,V,X,Y,reduceIte,sxq,G,H,sz]
    refine WQ.elem (y:=z) hl2 (by simp[St.put]) dn rfl rfl (by simp[St.put]) (fun _=>rfl) rfl rfl rfl rfl rfl el24 agg89 sz89 (.inl rfl) (by omega) (hz) fun p ces hces=>?_
    have hces:ces=ntV z:=hces
    subst hces
    simp only[ntV,ofCells,if_true,List.toList_toArray,sr]
    simp only[E,F,J,M,R,Tz,V,X,Y,reduceIte,G,H,sz]
    refine WQ.aggCmpN [y.id,y.part,y.bar,y.voice,y.ossia,y.start.1,y.start.2,y.len.1,y.len.2,y.pit.1,y.pit.2.1,y.pit.2.2] [z.id,z.part,z.bar,z.voice,z.ossia,z.start.1,z.start.2,z.len.1,z.len.2,z.pit.1,z.pit.2.1,z.pit.2.2] dn rfl rfl rfl ⟨_,rfl,fun _=>rfl⟩ ⟨_,rfl,fun _=>rfl⟩ itn89 rfl rfl rfl ?_
    simp only[E,F,J,M,R,Tz,V,X,Y,reduceIte,G,H,sz]
    refine WQ.nil ?_
    refine k10 _ ?_
    refine W.cond rfl rfl (fun hc=>?_) fun hc=>?_
    ·
     have he:¬ y=z:=by rw[nt_beq] at hc;simpa using hc
     refine W.pure dn fun K11 k11=>?_
     simp only[E,F,J,M,R,Tz,V,X,Y,reduceIte,G,H,sz];refine k11 _ ?_
     refine W.ret ⟨by simp,_,rfl,fun ρ w1 hb=>?_⟩
     rw[pb_no fun h=>by rw[h,hz] at hy;exact he (Option.some.inj hy).symm];rfl
    ·
     have he:y=z:=by rw[nt_beq] at hc;simpa using hc
     refine W.skip (k9 _ ?_)
     refine W.region ?_
     refine WO.go 3 dn ?_
     simp only[E,F,J,M,R,Tz,V,X,Y,reduceIte,G,H,sz]
     refine WO.nil ?_
     refine⟨i+1,?_,by first | omega | (simp;omega),rfl,by simp[getE,bnd,keepE,wrap_succ (show i+1≤9223372036854775807 by omega)],⟨_,rfl⟩,by simp[Own.bnd,bndL,bnd,boxO],by simp⟩
     refine⟨hlt,fun j h=>?_⟩
     rcases Nat.lt_succ_iff_lt_or_eq.1 h with h | rfl
     · exact hno j h
     · rw[hy,hz,he]
   ·
    have hge:a.length≤i:=by simpa using hc
    refine W.exit (k5 _ ?_)
    refine W.pure dn fun K12 k12=>?_
    simp only[E,F,J,M,R,Tz,V,X,Y,reduceIte,G,H,sz];refine k12 _ ?_
    refine W.ret ⟨by simp,_,rfl,fun ρ w1 hb=>?_⟩
    rw[pb_yes (List.ext_getElem? fun q=>by
                                  rcases Nat.lt_or_ge q i with hq | hq
                                  · exact hno q hq
                                  · rw[List.getElem?_eq_none (by omega),List.getElem?_eq_none (by omega)])];rfl
theorem sc_ext {s t:Sc}:((s.ver == t.ver) && (pb (s.bars=t.bars) && (pb (s.parts=t.parts) && pb (s.notes=t.notes))))=pb (s=t):=by
 by_cases h:s=t
 · subst h;rw[pb_yes rfl,pb_yes rfl,pb_yes rfl,pb_yes rfl];simp
 ·
  rw[pb_no h,← Bool.not_eq_true]
  intro h9
  simp only[Bool.and_eq_true,beq_iff_eq] at h9
  obtain⟨h1,h2,h3,h4⟩:=h9
  have h2:=pb_of h2
  have h3:=pb_of h3
  have h4:=pb_of h4
  cases s;cases t
  simp_all
abbrev D33_:List (Option Nat):=[some 23,some 24,some 25,some 26,some 27,some 28,some 29,some 30,some 31,some 32,some 33,some 34,some 35,some 36,some 4]
theorem r8Same_spec {S S2:Nat→Prop} {w:World} {a b:ScA} {s t:Sc} (hs:ScR S w a s) (ht:ScR S2 w b t):Gives Tryz.prog 12 #[scV a s,scV b t] w fun r _=>r=.bool (pb (s=t)):=by
 have lb:(Rp.slice rBr).rd (fun _=>True) w _ s.bars:=Rp.any hs.b
 have lp:(Rp.slice rPt).rd (fun _=>True) w _ s.parts:=Rp.any hs.p
 have ln:(Rp.slice rNt).rd (fun _=>True) w _ s.notes:=Rp.any hs.n
 have mb:(Rp.slice rBr).rd (fun _=>True) w _ t.bars:=Rp.any ht.b
 have mp:(Rp.slice rPt).rd (fun _=>True) w _ t.parts:=Rp.any ht.p
 have mn:(Rp.slice rNt).rd (fun _=>True) w _ t.notes:=Rp.any ht.n
 unfold scV
 refine gives_of [.agg (scw a s),.agg (scw b t)] 37 [.tmp 4] Tryz.func12 rfl rfl rfl (by simp) rfl rfl ?_
 refine W.pure dn fun K1 k1=>?_
 simp only[E,F,J,M,R,Tz,V,X,Y,reduceIte,G,H,sz];refine k1 _ ?_
 refine W.seqK fun K2 k2=>W.region ?_
 refine WO.go 4 dn ?_
 simp only[E,F,J,M,R,Tz,V,X,Y,reduceIte,G,H,sz]
 refine WO.call (.bool (pb (s.bars=t.bars))) dn rfl rfl rfl co39 (fun ρ w1 hb=>sameBars_spec (Rp.now lb (hb.first (by simp[St.put]))) (Rp.now mb (hb.first (by simp[St.put])))) ?_
 refine WO.go 1 dn ?_
 simp only[E,F,J,M,R,Tz,V,X,Y,reduceIte,G,H,sz]
 refine WO.nil ?_
 refine k2 _ ?_
 refine W.seqK fun K3 k3=>W.region ?_
 refine WO.go 4 dn ?_
 simp only[E,F,J,M,R,Tz,V,X,Y,reduceIte,G,H,sz]
 refine WO.call (.bool (pb (s.parts=t.parts))) dn rfl rfl rfl co40 (fun ρ w1 hb=>sameParts_spec (Rp.now lp (hb.first (by simp[St.put]))) (Rp.now mp (hb.first (by simp[St.put])))) ?_
 refine WO.go 1 dn ?_
 simp only[E,F,J,M,R,Tz,V,X,Y,reduceIte,G,H,sz]
 refine WO.nil ?_
 refine k3 _ ?_
 refine W.seqK fun K4 k4=>W.region ?_
 refine WO.go 4 dn ?_
 simp only[E,F,J,M,R,Tz,V,X,Y,reduceIte,G,H,sz]
 refine WO.call (.bool (pb (s.notes=t.notes))) dn rfl rfl rfl co41 (fun ρ w1 hb=>sameNotes_spec (Rp.now ln (hb.first (by simp[St.put]))) (Rp.now mn (hb.first (by simp[St.put])))) ?_
 refine WO.go 1 dn ?_
 simp only[E,F,J,M,R,Tz,V,X,Y,reduceIte,G,H,sz]
 refine WO.nil ?_
 refine k4 _ ?_
 refine W.join 4 (.val (.bool (pb (s=t)))) [] (W.region ?_) ?_
 ·
  refine WO.go 6 (ds:=D33_) rfl ?_
  simp only[E,F,J,M,R,Tz,V,X,Y,reduceIte,G,H,sz]
  refine WO.cases 28 _ rfl (fun hg28=>?_) fun hg28=>?_
  ·
   refine WO.go 3 (ds:=D33_) rfl ?_
   simp only[E,F,J,M,R,Tz,V,X,Y,reduceIte,G,H,sz]
   refine WO.cases 31 _ rfl (fun hg31=>?_) fun hg31=>?_
   ·
    refine WO.go 3 (ds:=D33_) rfl ?_
    simp only[E,F,J,M,R,Tz,V,X,Y,reduceIte,G,H,sz]
    refine WO.cases 34 _ rfl (fun hg34=>?_) fun hg34=>?_
    ·
     refine WO.go 3 (ds:=D33_) rfl ?_
     simp only[E,F,J,M,R,Tz,V,X,Y,reduceIte,G,H,sz]
     refine WO.nil ?_
     refine⟨rfl,?_,⟨_,rfl⟩,by simp[Own.bnd,bndL,bnd,boxO],by simp⟩
     rw[← sc_ext]
     try rw[hg28]
     try rw[hg31]
     try rw[hg34]
     simp[getE,bnd,keepE]
    ·
     refine WO.go 3 (ds:=D33_) rfl ?_
     simp only[E,F,J,M,R,Tz,V,X,Y,reduceIte,G,H,sz]
     refine WO.nil ?_
     refine⟨rfl,?_,⟨_,rfl⟩,by simp[Own.bnd,bndL,bnd,boxO],by simp⟩
     rw[← sc_ext]
     try rw[hg28]
     try rw[hg31]
     try rw[hg34]
     simp[getE,bnd,keepE]
   ·
    refine WO.go 6 (ds:=D33_) rfl ?_
    simp only[E,F,J,M,R,Tz,V,X,Y,reduceIte,G,H,sz]
    refine WO.nil ?_
    refine⟨rfl,?_,⟨_,rfl⟩,by simp[Own.bnd,bndL,bnd,boxO],by simp⟩
    rw[← sc_ext]
    try rw[hg28]
    try rw[hg31]
    try rw[hg34]
    simp[getE,bnd,keepE]
  ·
   refine WO.go 9 (ds:=D33_) rfl ?_
   simp only[E,F,J,M,R,Tz,V,X,Y,reduceIte,G,H,sz]
   refine WO.nil ?_
   refine⟨rfl,?_,⟨_,rfl⟩,by simp[Own.bnd,bndL,bnd,boxO],by simp⟩
   rw[← sc_ext]
   try rw[hg28]
   try rw[hg31]
   try rw[hg34]
   simp[getE,bnd,keepE]
 ·
  simp only[E,F,J,M,R,Tz,V,X,Y,reduceIte,sxk,G,H,sz]
  refine W.ret ⟨by simp,_,rfl,fun ρ w1 hb=>?_⟩
  rfl
def fewS (s:Sc):Bool:=(decide ((s.bars.length:Int)≤60) && (decide ((s.parts.length:Int)≤61) && decide ((s.notes.length:Int)≤60)))
theorem fewS_iff {s:Sc}:fewS s=true↔s.bars.length≤60∧s.parts.length≤61∧s.notes.length≤60:=by
 unfold fewS
 rw[Bool.and_eq_true,Bool.and_eq_true,decide_eq_true_eq,decide_eq_true_eq,decide_eq_true_eq]
 omega
abbrev D34_:List (Option Nat):=[some 3,some 4,some 5,some 6,some 7,some 8,some 9,some 10,some 11,some 12,some 13,some 14,some 15,some 16,some 17,some 18,some 2]
theorem r8Few_spec (w:World) (a:ScA) (s:Sc):Gives Tryz.prog 5 #[scV a s] w fun r _=>r=.bool (fewS s):=by
 unfold scV
 refine gives_of [.agg (scw a s)] 19 [.tmp 2] Tryz.func5 rfl rfl rfl (by simp) rfl rfl ?_
 refine W.pure dn fun K1 k1=>?_
 simp only[E,F,J,M,R,Tz,V,X,Y,reduceIte,G,H,sz];refine k1 _ ?_
 refine W.join 2 (.val (.bool (fewS s))) [] (W.region ?_) ?_
 ·
  refine WO.go 5 (ds:=D34_) rfl ?_
  simp only[E,F,J,M,R,Tz,V,X,Y,reduceIte,G,H,sz]
  refine WO.cases 7 _ rfl (fun hg7=>?_) fun hg7=>?_
  ·
   refine WO.go 6 (ds:=D34_) rfl ?_
   simp only[E,F,J,M,R,Tz,V,X,Y,reduceIte,G,H,sz]
   refine WO.cases 13 _ rfl (fun hg13=>?_) fun hg13=>?_
   ·
    refine WO.go 6 (ds:=D34_) rfl ?_
    simp only[E,F,J,M,R,Tz,V,X,Y,reduceIte,G,H,sz]
    refine WO.nil ?_
    refine⟨rfl,?_,⟨_,rfl⟩,by simp[Own.bnd,bndL,bnd,boxO],by simp⟩
    unfold fewS
    try rw[hg7]
    try rw[hg13]
    simp[getE,bnd,keepE]
   ·
    refine WO.go 6 (ds:=D34_) rfl ?_
    simp only[E,F,J,M,R,Tz,V,X,Y,reduceIte,G,H,sz]
    refine WO.nil ?_
    refine⟨rfl,?_,⟨_,rfl⟩,by simp[Own.bnd,bndL,bnd,boxO],by simp⟩
    unfold fewS
    try rw[hg7]
    try rw[hg13]
    simp[getE,bnd,keepE]
  ·
   refine WO.go 12 (ds:=D34_) rfl ?_
   simp only[E,F,J,M,R,Tz,V,X,Y,reduceIte,G,H,sz]
   refine WO.nil ?_
   refine⟨rfl,?_,⟨_,rfl⟩,by simp[Own.bnd,bndL,bnd,boxO],by simp⟩
   unfold fewS
   try rw[hg7]
   try rw[hg13]
   simp[getE,bnd,keepE]
 ·
  simp only[E,F,J,M,R,Tz,V,X,Y,reduceIte,sxk,G,H,sz]
  refine W.ret ⟨by simp,_,rfl,fun ρ w1 hb=>?_⟩
  rfl
theorem r14bare_spec (w:World) (m:Ms) (pa:Option Addr) (na ca:Nat):Gives Tryz.prog 21 #[.agg #[iv m.bar,iv m.key,iv m.len.1,iv m.len.2,.slice pa na ca]] w fun r _=>r=.agg #[iv m.bar,iv m.key,iv m.len.1,iv m.len.2,.slice none 0 0]:=by
 refine gives_of [.agg [wv m.bar,wv m.key,wv m.len.1,wv m.len.2,.val (.slice pa na ca)]] 5 [.cell 2 60] Tryz.func21 rfl rfl rfl (by simp) rfl rfl ?_
 refine W.pure dn fun K1 k1=>?_
 simp only[E,F,J,M,R,Tz,V,X,Y,reduceIte,G,H,sz];refine k1 _ ?_
 refine W.pure dn fun K2 k2=>?_
 simp only[E,F,J,M,R,Tz,V,X,Y,reduceIte,G,H,sz];refine k2 _ ?_
 refine W.pure dn fun K3 k3=>?_
 simp only[E,F,J,M,R,Tz,V,X,Y,reduceIte,G,H,sz];refine k3 _ ?_
 refine W.ret ?_
 refine⟨by simp,RunR.ex ?_⟩
 simp only[E,F,J,M,R,Tz,V,X,Y,reduceIte,sxr,G,H,sz]
 intro ρ w1 hb
 rfl
theorem r14Measure_spec (w:World) (p:Pt) (b:Br):Gives Tryz.prog 22 #[(ptq p),.agg #[iv b.id,iv b.len.1,iv b.len.2,iv b.key]] w fun r _=>r=.agg #[iv b.id,iv (keyF p.sa p.sb p.low p.high b.key).1,iv b.len.1,iv b.len.2,.slice none 0 0]:=by
 refine gives_of [.agg (ptw p),.agg [wv b.id,wv b.len.1,wv b.len.2,wv b.key]] 20 [.cell 4 60] Tryz.func22 rfl rfl rfl (by simp) rfl rfl ?_
 refine W.pure dn fun K1 k1=>?_
 simp only[E,F,J,M,R,Tz,V,X,Y,reduceIte,G,H,sz];refine k1 _ ?_
 refine W.seqK fun K2 k2=>W.region ?_
 refine WO.go 3 dn ?_
 simp only[E,F,J,M,R,Tz,V,X,Y,reduceIte,G,H,sz]
 refine WO.call (.tuple #[iv (keyF p.sa p.sb p.low p.high b.key).1,iv (keyF p.sa p.sb p.low p.high b.key).2]) dn rfl rfl rfl co56 (fun ρ w1 hb=>rkey_spec w1 (p.id,p.sec,p.src,p.oct,p.desks) p.sa p.sb p.low p.high b.key) ?_
 refine WO.go 5 dn ?_
 simp only[E,F,J,M,R,Tz,V,X,Y,reduceIte,G,H,sz]
 refine WO.nil ?_
 refine k2 _ ?_
 refine W.pure dn fun K3 k3=>?_
 simp only[E,F,J,M,R,Tz,V,X,Y,reduceIte,G,H,sz];refine k3 _ ?_
 refine W.ret ?_
 refine⟨by simp,RunR.ex ?_⟩
 simp only[E,F,J,M,R,Tz,V,X,Y,reduceIte,sxr,G,H,sz]
 intro ρ w1 hb
 rfl
abbrev D35_:List (Option Nat):=[some 5,some 6,some 7,some 8,some 9,some 10,some 11,some 12,some 13,some 14,some 15,some 16,some 17,some 18,some 19,some 20,some 21,some 22,some 23,some 4]
theorem r14same_spec (w:World) (m u:Ms) (pa pb:Option Addr) (na ca nb cb:Nat):Gives Tryz.prog 20 #[.agg #[iv m.bar,iv m.key,iv m.len.1,iv m.len.2,.slice pa na ca],.agg #[iv u.bar,iv u.key,iv u.len.1,iv u.len.2,.slice pb nb cb]] w fun r _=>r=.bool ((m.bar == u.bar) && ((m.key == u.key) && ([m.len.1,m.len.2] == [u.len.1,u.len.2]))):=by
 refine gives_of [.agg [wv m.bar,wv m.key,wv m.len.1,wv m.len.2,.val (.slice pa na ca)],.agg [wv u.bar,wv u.key,wv u.len.1,wv u.len.2,.val (.slice pb nb cb)]] 24 [.tmp 4] Tryz.func20 rfl rfl rfl (by simp) rfl rfl ?_
 refine W.pure dn fun K1 k1=>?_
 simp only[E,F,J,M,R,Tz,V,X,Y,reduceIte,G,H,sz];refine k1 _ ?_
 refine W.join 4 (.val (.bool ((m.bar == u.bar) && ((m.key == u.key) && ([m.len.1,m.len.2] == [u.len.1,u.len.2]))))) [] (W.region ?_) ?_
 ·
  refine WO.go 6 (ds:=D35_) rfl ?_
  simp only[E,F,J,M,R,Tz,V,X,Y,reduceIte,G,H,sz]
  refine WO.cases 10 _ rfl (fun hg10=>?_) fun hg10=>?_
  ·
   refine WO.go 7 (ds:=D35_) rfl ?_
   simp only[E,F,J,M,R,Tz,V,X,Y,reduceIte,G,H,sz]
   refine WO.cases 17 _ rfl (fun hg17=>?_) fun hg17=>?_
   ·
    refine WO.go 4 (ds:=D35_) rfl ?_
    simp only[E,F,J,M,R,Tz,V,X,Y,reduceIte,G,H,sz]
    refine WO.aggCmp [m.len.1,m.len.2] [u.len.1,u.len.2] (ds:=D35_) rfl rfl rfl rfl ⟨_,rfl,fun _=>rfl⟩ ⟨_,rfl,fun _=>rfl⟩ it57 rfl rfl rfl ?_
    refine WO.go 2 (ds:=D35_) rfl ?_
    simp only[E,F,J,M,R,Tz,V,X,Y,reduceIte,G,H,sz]
    refine WO.nil ?_
    refine⟨rfl,?_,⟨_,rfl⟩,by simp[Own.bnd,bndL,bnd,boxO],by simp⟩
    try rw[hg10]
    try rw[hg17]
    simp[getE,bnd,keepE]
   ·
    refine WO.go 7 (ds:=D35_) rfl ?_
    simp only[E,F,J,M,R,Tz,V,X,Y,reduceIte,G,H,sz]
    refine WO.nil ?_
    refine⟨rfl,?_,⟨_,rfl⟩,by simp[Own.bnd,bndL,bnd,boxO],by simp⟩
    try rw[hg10]
    try rw[hg17]
    simp[getE,bnd,keepE]
  ·
   refine WO.go 14 (ds:=D35_) rfl ?_
   simp only[E,F,J,M,R,Tz,V,X,Y,reduceIte,G,H,sz]
   refine WO.nil ?_
   refine⟨rfl,?_,⟨_,rfl⟩,by simp[Own.bnd,bndL,bnd,boxO],by simp⟩
   try rw[hg10]
   try rw[hg17]
   simp[getE,bnd,keepE]
 ·
  simp only[E,F,J,M,R,Tz,V,X,Y,reduceIte,sxk,G,H,sz]
  refine W.ret ⟨by simp,_,rfl,fun ρ w1 hb=>?_⟩
  rfl
def formB (n:Wt) (r:Rt):Bool:=(within 1 1000000 n.id && (within 0 9 n.voice && (within 0 20 n.ossia && (validP n.pit && (decide (0≤tickF n.start) && (decide (0<tickF n.len) && decide (tickF n.start+tickF n.len≤tickF r)))))))
theorem formB_eq (n:Wt) (r:Rt):formB n r=(within 1 1000000 n.id && (within 0 9 n.voice && (within 0 20 n.ossia && (validP n.pit && (decide (0≤tickF n.start) && (decide (0<tickF n.len) && decide (tickF n.start+tickF n.len≤tickF r))))))):=rfl
abbrev D36_:List (Option Nat):=[some 29,some 30,some 31,some 32,some 33,some 34,some 35,some 36,some 37,some 38,some 39,some 40,some 41,some 42,some 43,some 44,some 45,some 46,some 47,some 48,some 49,some 50,some 51,some 52,some 53,some 54,some 4]
theorem r14Form_spec (w:World) (n:Wt) (r:Rt):Gives Tryz.prog 23 #[.agg #[iv n.id,iv n.voice,iv n.ossia,iv n.start.1,iv n.start.2,iv n.len.1,iv n.len.2,iv n.pit.1,iv n.pit.2.1,iv n.pit.2.2],.agg #[iv r.1,iv r.2]] w fun v _=>v=.bool (formB n r):=by
 have t1:=tick_bound n.start
 have t2:=tick_bound n.len
 have hww:=wrap_id (x:=tickF n.start+tickF n.len) (by omega) (by omega)
 refine gives_of [.agg [wv n.id,wv n.voice,wv n.ossia,wv n.start.1,wv n.start.2,wv n.len.1,wv n.len.2,wv n.pit.1,wv n.pit.2.1,wv n.pit.2.2],.agg [wv r.1,wv r.2]] 55 [.tmp 4] Tryz.func23 rfl rfl rfl (by simp) rfl rfl ?_
 refine W.pure dn fun K1 k1=>?_
 simp only[E,F,J,M,R,Tz,V,X,Y,reduceIte,G,H,sz];refine k1 _ ?_
 refine W.seqK fun K2 k2=>W.region ?_
 refine WO.go 2 dn ?_
 simp only[E,F,J,M,R,Tz,V,X,Y,reduceIte,G,H,sz]
 refine WO.call (.bool (within 1 1000000 n.id)) dn rfl rfl rfl co57 (fun ρ w1 hb=>r14in_spec w1 _ _ _) ?_
 refine WO.go 1 dn ?_
 simp only[E,F,J,M,R,Tz,V,X,Y,reduceIte,G,H,sz]
 refine WO.nil ?_
 refine k2 _ ?_
 refine W.seqK fun K3 k3=>W.region ?_
 refine WO.go 2 dn ?_
 simp only[E,F,J,M,R,Tz,V,X,Y,reduceIte,G,H,sz]
 refine WO.call (.bool (within 0 9 n.voice)) dn rfl rfl rfl co57 (fun ρ w1 hb=>r14in_spec w1 _ _ _) ?_
 refine WO.go 1 dn ?_
 simp only[E,F,J,M,R,Tz,V,X,Y,reduceIte,G,H,sz]
 refine WO.nil ?_
 refine k3 _ ?_
 refine W.seqK fun K4 k4=>W.region ?_
 refine WO.go 2 dn ?_
 simp only[E,F,J,M,R,Tz,V,X,Y,reduceIte,G,H,sz]
 refine WO.call (.bool (within 0 20 n.ossia)) dn rfl rfl rfl co57 (fun ρ w1 hb=>r14in_spec w1 _ _ _) ?_
 refine WO.go 1 dn ?_
 simp only[E,F,J,M,R,Tz,V,X,Y,reduceIte,G,H,sz]
 refine WO.nil ?_
 refine k4 _ ?_
 refine W.seqK fun K5 k5=>W.region ?_
 refine WO.go 2 dn ?_
 simp only[E,F,J,M,R,Tz,V,X,Y,reduceIte,G,H,sz]
 refine WO.call (iv (tickF n.start)) dn rfl rfl rfl co58 (fun ρ w1 hb=>rTicks_spec w1 n.start) ?_
 refine WO.go 1 dn ?_
 simp only[E,F,J,M,R,Tz,V,X,Y,reduceIte,G,H,sz]
 refine WO.nil ?_
 refine k5 _ ?_
 refine W.seqK fun K6 k6=>W.region ?_
 refine WO.go 2 dn ?_
 simp only[E,F,J,M,R,Tz,V,X,Y,reduceIte,G,H,sz]
 refine WO.call (iv (tickF n.len)) dn rfl rfl rfl co58 (fun ρ w1 hb=>rTicks_spec w1 n.len) ?_
 refine WO.go 1 dn ?_
 simp only[E,F,J,M,R,Tz,V,X,Y,reduceIte,G,H,sz]
 refine WO.nil ?_
 refine k6 _ ?_
 refine W.seqK fun K7 k7=>W.region ?_
 refine WO.go 2 dn ?_
 simp only[E,F,J,M,R,Tz,V,X,Y,reduceIte,G,H,sz]
 refine WO.call (.bool (validP n.pit)) dn rfl rfl rfl co59 (fun ρ w1 hb=>r2valid_spec w1 n.pit) ?_
 refine WO.go 1 dn ?_
 simp only[E,F,J,M,R,Tz,V,X,Y,reduceIte,G,H,sz]
 refine WO.nil ?_
 refine k7 _ ?_
 refine W.join 4 (.val (.bool (formB n r))) [] (W.region ?_) ?_
 ·
  refine WO.go 2 (ds:=D36_) rfl ?_
  simp only[E,F,J,M,R,Tz,V,X,Y,reduceIte,G,H,sz]
  refine WO.cases 30 _ rfl (fun hg30=>?_) fun hg30=>?_
  ·
   refine WO.go 3 (ds:=D36_) rfl ?_
   simp only[E,F,J,M,R,Tz,V,X,Y,reduceIte,G,H,sz]
   refine WO.cases 33 _ rfl (fun hg33=>?_) fun hg33=>?_
   ·
    refine WO.go 3 (ds:=D36_) rfl ?_
    simp only[E,F,J,M,R,Tz,V,X,Y,reduceIte,G,H,sz]
    refine WO.cases 36 _ rfl (fun hg36=>?_) fun hg36=>?_
    ·
     refine WO.go 3 (ds:=D36_) rfl ?_
     simp only[E,F,J,M,R,Tz,V,X,Y,reduceIte,G,H,sz]
     refine WO.cases 39 _ rfl (fun hg39=>?_) fun hg39=>?_
     ·
      refine WO.go 4 (ds:=D36_) rfl ?_
      simp only[E,F,J,M,R,Tz,V,X,Y,reduceIte,G,H,sz]
      refine WO.cases 43 _ rfl (fun hg43=>?_) fun hg43=>?_
      ·
       refine WO.go 4 (ds:=D36_) rfl ?_
       simp only[E,F,J,M,R,Tz,V,X,Y,reduceIte,G,H,sz]
       refine WO.cases 47 _ rfl (fun hg47=>?_) fun hg47=>?_
       ·
        refine WO.go 4 (ds:=D36_) rfl ?_
        simp only[E,F,J,M,R,Tz,V,X,Y,reduceIte,G,H,sz]
        refine WO.call (iv (tickF r)) (ds:=D36_) rfl rfl rfl rfl co58 (fun ρ w1 hb=>rTicks_spec w1 r) ?_
        refine WO.go 3 (ds:=D36_) rfl ?_
        simp only[E,F,J,M,R,Tz,V,X,Y,reduceIte,G,H,sz]
        refine WO.nil ?_
        refine⟨rfl,?_,⟨_,rfl⟩,by simp[Own.bnd,bndL,bnd,boxO],by simp⟩
        rw[formB_eq]
        try rw[hg30]
        try rw[hg33]
        try rw[hg36]
        try rw[hg39]
        try rw[hg43]
        try rw[hg47]
        simp[getE,bnd,keepE]
        try rw[hww]
       ·
        refine WO.go 8 (ds:=D36_) rfl ?_
        simp only[E,F,J,M,R,Tz,V,X,Y,reduceIte,G,H,sz]
        refine WO.nil ?_
        refine⟨rfl,?_,⟨_,rfl⟩,by simp[Own.bnd,bndL,bnd,boxO],by simp⟩
        rw[formB_eq]
        try rw[hg30]
        try rw[hg33]
        try rw[hg36]
        try rw[hg39]
        try rw[hg43]
        try rw[hg47]
        simp[getE,bnd,keepE]
        try rw[hww]
      ·
       refine WO.go 12 (ds:=D36_) rfl ?_
       simp only[E,F,J,M,R,Tz,V,X,Y,reduceIte,G,H,sz]
       refine WO.nil ?_
       refine⟨rfl,?_,⟨_,rfl⟩,by simp[Own.bnd,bndL,bnd,boxO],by simp⟩
       rw[formB_eq]
       try rw[hg30]
       try rw[hg33]
       try rw[hg36]
       try rw[hg39]
       try rw[hg43]
       try rw[hg47]
       simp[getE,bnd,keepE]
       try rw[hww]
     ·
      refine WO.go 16 (ds:=D36_) rfl ?_
      simp only[E,F,J,M,R,Tz,V,X,Y,reduceIte,G,H,sz]
      refine WO.nil ?_
      refine⟨rfl,?_,⟨_,rfl⟩,by simp[Own.bnd,bndL,bnd,boxO],by simp⟩
      rw[formB_eq]
      try rw[hg30]
      try rw[hg33]
      try rw[hg36]
      try rw[hg39]
      try rw[hg43]
      try rw[hg47]
      simp[getE,bnd,keepE]
      try rw[hww]
    ·
     refine WO.go 19 (ds:=D36_) rfl ?_
     simp only[E,F,J,M,R,Tz,V,X,Y,reduceIte,G,H,sz]
     refine WO.nil ?_
     refine⟨rfl,?_,⟨_,rfl⟩,by simp[Own.bnd,bndL,bnd,boxO],by simp⟩
     rw[formB_eq]
     try rw[hg30]
     try rw[hg33]
     try rw[hg36]
     try rw[hg39]
     try rw[hg43]
     try rw[hg47]
     simp[getE,bnd,keepE]
     try rw[hww]
   ·
    refine WO.go 22 (ds:=D36_) rfl ?_
    simp only[E,F,J,M,R,Tz,V,X,Y,reduceIte,G,H,sz]
    refine WO.nil ?_
    refine⟨rfl,?_,⟨_,rfl⟩,by simp[Own.bnd,bndL,bnd,boxO],by simp⟩
    rw[formB_eq]
    try rw[hg30]
    try rw[hg33]
    try rw[hg36]
    try rw[hg39]
    try rw[hg43]
    try rw[hg47]
    simp[getE,bnd,keepE]
    try rw[hww]
  ·
   refine WO.go 25 (ds:=D36_) rfl ?_
   simp only[E,F,J,M,R,Tz,V,X,Y,reduceIte,G,H,sz]
   refine WO.nil ?_
   refine⟨rfl,?_,⟨_,rfl⟩,by simp[Own.bnd,bndL,bnd,boxO],by simp⟩
   rw[formB_eq]
   try rw[hg30]
   try rw[hg33]
   try rw[hg36]
   try rw[hg39]
   try rw[hg43]
   try rw[hg47]
   simp[getE,bnd,keepE]
   try rw[hww]
 ·
  simp only[E,F,J,M,R,Tz,V,X,Y,reduceIte,sxk,G,H,sz]
  refine W.ret ⟨by simp,_,rfl,fun ρ w1 hb=>?_⟩
  rfl
theorem r14Has_spec {S:Nat→Prop} {w:World} {v:Value} {l:List Wt} (hl:rWts.rd S w [v] l) (id:Int):Gives Tryz.prog 24 #[v,iv id] w fun r _=>r=.bool (pb (∃ y,y∈l∧y.id=id)):=by
 obtain⟨p,c,rfl,hc1,hc2⟩:=Rp.slice_val hl
 have hl:(Rp.slice rWt).rd (fun _=>True) w _ l:=Rp.any hl
 refine gives_of [.val (.slice p l.length c),wv id] 19 [.tmp 4] Tryz.func24 rfl rfl rfl (by simp) rfl rfl ?_
 refine W.pure dn fun K1 k1=>?_
 simp only[E,F,J,M,R,Tz,V,X,Y,reduceIte,G,H,sz];refine k1 _ ?_
 refine W.seqK fun K2 k2=>?_
 refine W.pure dn fun K3 k3=>?_
 simp only[E,F,J,M,R,Tz,V,X,Y,reduceIte,G,H,sz];refine k3 _ ?_
 refine W.block ?_
 refine W.loopK (X:=Nat) [0,1] (fun x=>[(5,wv (x:Int))]) (fun x=>x≤l.length∧∀ (j:Nat) y,j<x→l[j]?=some y→¬ y.id=id) (fun x=>l.length - x) 0 ?_ ?_ ?_
 · exact⟨rfl,by simp[getE,bnd,keepE],⟨[],by simp⟩,by simp[Own.bnd,bndL,bnd,boxO],by simp⟩
 ·
  exact⟨Nat.zero_le _,fun j _ hj=>by omega⟩
 ·
  rintro i ⟨hi,hall⟩
  simp only[E,F,J,M,R,Tz,V,X,Y,reduceIte,sxk,G,H,sz]
  refine W.seqK fun K4 k4=>?_
  refine W.pure dn fun K5 k5=>?_
  simp only[E,F,J,M,R,Tz,V,X,Y,reduceIte,G,H,sz];refine k5 _ ?_
  refine W.cond rfl rfl (fun hc=>?_) fun hc=>?_
  ·
   have hlt:i<l.length:=by simpa using hc
   obtain⟨y,hy⟩:=len_lt (rfl:l.length=_) hlt
   refine W.skip (k4 _ ?_)
   refine W.seqK fun K6 k6=>?_
   refine W.block ?_
   refine W.seqK fun K7 k7=>W.region ?_
   refine WO.go 2 dn ?_
   simp only[E,F,J,M,R,Tz,V,X,Y,reduceIte,G,H,sz]
   refine WO.elemF (y:=y) hl (by simp[St.put]) dn rfl rfl (by simp[St.put]) (fun _=>rfl) rfl (by simp[St.put]) (fun _ _=>rfl) rfl rfl rfl rfl rfl rfl el58 fo62_0 agg3 sz3 (Nat.le_of_ble_eq_true rfl) (.inr rfl) (by omega) (hy) fun p q ces hces=>?_
   have hces:ces=wtV y:=hces
   subst hces
   simp only[wtV,ofCells,if_true,List.toList_toArray,sr]
   refine WO.go 2 dn ?_
   simp only[E,F,J,M,R,Tz,V,X,Y,reduceIte,G,H,sz]
   refine WO.nil ?_
   refine k7 _ ?_
   refine W.cond rfl rfl (fun hc=>?_) fun hc=>?_
   ·
    have he:y.id=id:=by simpa using hc
    refine W.pure dn fun K8 k8=>?_
    simp only[E,F,J,M,R,Tz,V,X,Y,reduceIte,G,H,sz];refine k8 _ ?_
    refine W.ret ⟨by simp,_,rfl,fun ρ w1 hb=>?_⟩
    rw[pb_yes ⟨y,List.mem_of_getElem? hy,he⟩];rfl
   ·
    have he:¬ y.id=id:=by simpa using hc
    refine W.skip (k6 _ ?_)
    refine W.region ?_
    refine WO.go 3 dn ?_
    simp only[E,F,J,M,R,Tz,V,X,Y,reduceIte,G,H,sz]
    refine WO.nil ?_
    refine⟨i+1,?_,by first | omega | (simp;omega),rfl,by simp[getE,bnd,keepE,wrap_succ (show i+1≤9223372036854775807 by omega)],⟨_,rfl⟩,by simp[Own.bnd,bndL,bnd,boxO],by simp⟩
    refine⟨hlt,fun j u hj hu=>?_⟩
    rcases Nat.lt_succ_iff_lt_or_eq.1 hj with h | rfl
    · exact hall j u h hu
    · rw[hy] at hu;obtain rfl:=Option.some.inj hu;exact he
  ·
   have hge:l.length≤i:=by simpa using hc
   refine W.exit (k2 _ ?_)
   refine W.pure dn fun K9 k9=>?_
   simp only[E,F,J,M,R,Tz,V,X,Y,reduceIte,G,H,sz];refine k9 _ ?_
   refine W.ret ⟨by simp,_,rfl,fun ρ w1 hb=>?_⟩
   rw[pb_no fun⟨y,h1,h2⟩=>by obtain⟨j,hj⟩:=List.mem_iff_getElem?.1 h1;exact hall j y (by have:=(List.getElem?_eq_some_iff.1 hj).1;omega) hj h2];rfl
def wkey (n:Wt):List Int:=[tickF n.start,n.voice,numF n.pit,n.id]
theorem r14Before_spec (w:World) (n m:Wt) (hv:validP n.pit=true) (hv2:validP m.pit=true):Gives Tryz.prog 25 #[.agg #[iv n.id,iv n.voice,iv n.ossia,iv n.start.1,iv n.start.2,iv n.len.1,iv n.len.2,iv n.pit.1,iv n.pit.2.1,iv n.pit.2.2],.agg #[iv m.id,iv m.voice,iv m.ossia,iv m.start.1,iv m.start.2,iv m.len.1,iv m.len.2,iv m.pit.1,iv m.pit.2.1,iv m.pit.2.2]] w fun r _=>r=.bool (ltL (wkey n) (wkey m)):=by
 have hvb:=validP_iff.1 hv
 have hvc:=validP_iff.1 hv2
 refine gives_of [.agg [wv n.id,wv n.voice,wv n.ossia,wv n.start.1,wv n.start.2,wv n.len.1,wv n.len.2,wv n.pit.1,wv n.pit.2.1,wv n.pit.2.2],.agg [wv m.id,wv m.voice,wv m.ossia,wv m.start.1,wv m.start.2,wv m.len.1,wv m.len.2,wv m.pit.1,wv m.pit.2.1,wv m.pit.2.2]] 54 [.tmp 4] Tryz.func25 rfl rfl rfl (by simp) rfl rfl ?_
 refine W.pure dn fun K1 k1=>?_
 simp only[E,F,J,M,R,Tz,V,X,Y,reduceIte,G,H,sz];refine k1 _ ?_
 refine W.seqK fun K2 k2=>?_
 refine W.regionT' 10 [] [0,1,2,3,4,5,6,7,8,9] mixed (by kernel_rfl) ?_
 simp only[E,F,J,M,R,Tz,V,X,Y,reduceIte,sxt,List.toList_toArray,G,H,sz]
 refine WQ.go 2 dn ?_
 simp only[E,F,J,M,R,Tz,V,X,Y,reduceIte,sxq,G,H,sz]
 refine WQ.call (iv (tickF n.start)) dn rfl rfl rfl co58 (fun ρ w1 hb=>rTicks_spec w1 n.start) ?_
 refine WQ.go 4 dn ?_
 simp only[E,F,J,M,R,Tz,V,X,Y,reduceIte,sxq,G,H,sz]
 refine WQ.call (iv (numF n.pit)) dn rfl rfl rfl co60 (fun ρ w1 hb=>r2sound_spec w1 n.pit hvb.1 (by omega)) ?_
 refine WQ.go 2 dn ?_
 simp only[E,F,J,M,R,Tz,V,X,Y,reduceIte,sxq,G,H,sz]
 refine WQ.nil ?_
 refine WO.go 2 dn ?_
 simp only[E,F,J,M,R,Tz,V,X,Y,reduceIte,G,H,sz]
 refine WO.nil ?_
 refine k2 _ ?_
 refine W.seqK fun K3 k3=>?_
 refine W.regionT' 10 [] [0,1,2,3,4,5,6,7,8,9] mixed (by kernel_rfl) ?_
 simp only[E,F,J,M,R,Tz,V,X,Y,reduceIte,sxt,List.toList_toArray,G,H,sz]
 refine WQ.go 2 dn ?_
 simp only[E,F,J,M,R,Tz,V,X,Y,reduceIte,sxq,G,H,sz]
 refine WQ.call (iv (tickF m.start)) dn rfl rfl rfl co58 (fun ρ w1 hb=>rTicks_spec w1 m.start) ?_
 refine WQ.go 4 dn ?_
 simp only[E,F,J,M,R,Tz,V,X,Y,reduceIte,sxq,G,H,sz]
 refine WQ.call (iv (numF m.pit)) dn rfl rfl rfl co60 (fun ρ w1 hb=>r2sound_spec w1 m.pit hvc.1 (by omega)) ?_
 refine WQ.go 2 dn ?_
 simp only[E,F,J,M,R,Tz,V,X,Y,reduceIte,sxq,G,H,sz]
 refine WQ.nil ?_
 refine WO.go 2 dn ?_
 simp only[E,F,J,M,R,Tz,V,X,Y,reduceIte,G,H,sz]
 refine WO.nil ?_
 refine k3 _ ?_
 refine W.seqK fun K4 k4=>?_
 refine W.freeze [2] 5 (.lsl 2 0 4 4) rfl rfl (fun S s1 v=>∃ a,v=.slice (some a) 4 4∧rInts.rd S s1 [v] (wkey n)) (fun ρ w1 hb=>?_) (fun S5 s5 v1 h1=>?_)
 ·
  refine⟨joinS (fun _=>True) w ρ _ [2],⟨_,rfl,own_listS (A:=rInt) (k:=2) hb rfl rfl (by omega) (by omega) (.inr ⟨2,_,by simp,rfl,rfl⟩) ?_⟩,joinS_apart hb (by simp) [2]⟩
  exact fun i y hy=>by rcases i with _ | _ | _ | _ | i<;>first | (cases hy;rfl) | simp[wkey] at hy
 obtain⟨a5,rfl,h1r⟩:=h1
 simp only[Bool.false_eq_true,E,F,J,M,R,Tz,V,X,Y,reduceIte,sxd,sz]
 refine W.freeze [3] 6 (.lsl 3 0 4 4) rfl rfl (fun S s1 v=>∃ a,v=.slice (some a) 4 4∧rInts.rd S s1 [v] (wkey m)) (fun ρ w1 hb=>?_) (fun S6 s6 v1 h1=>?_)
 ·
  refine⟨joinS (fun _=>True) w ρ _ [3],⟨_,rfl,own_listS (A:=rInt) (k:=3) hb rfl rfl (by omega) (by omega) (.inr ⟨3,_,by simp,rfl,rfl⟩) ?_⟩,joinS_apart hb (by simp) [3]⟩
  exact fun i y hy=>by rcases i with _ | _ | _ | _ | i<;>first | (cases hy;rfl) | simp[wkey] at hy
 obtain⟨a6,rfl,h2r⟩:=h1
 simp only[Bool.false_eq_true,E,F,J,M,R,Tz,V,X,Y,reduceIte,sxd,sz]
 refine W.pure dn fun K5 k5=>?_
 simp only[E,F,J,M,R,Tz,V,X,Y,reduceIte,G,H,sz];refine k5 _ ?_
 refine W.block ?_
 refine W.loopK (X:=Nat) [5,6] (fun x=>[(7,wv (x:Int))]) (fun x=>x≤4∧ltL (wkey n) (wkey m)=ltL ((wkey n).drop x) ((wkey m).drop x)) (fun x=>4 - x) 0 ?_ ?_ ?_
 · exact⟨rfl,by simp[getE,bnd,keepE],⟨[],by simp⟩,by simp[Own.bnd,bndL,bnd,boxO],by simp⟩
 ·
  exact⟨by omega,rfl⟩
 ·
  rintro i ⟨hi,hE⟩
  simp only[E,F,J,M,R,Tz,V,X,Y,reduceIte,sxk,G,H,sz]
  refine W.seqK fun K6 k6=>?_
  refine W.pure dn fun K7 k7=>?_
  simp only[E,F,J,M,R,Tz,V,X,Y,reduceIte,G,H,sz];refine k7 _ ?_
  refine W.cond rfl rfl (fun hc=>?_) fun hc=>?_
  ·
   have hlt:i<4:=by simp at hc;omega
   obtain⟨y,hy⟩:=len_lt (show(wkey n).length=4 from rfl) hlt
   obtain⟨z,hz⟩:=len_lt (show(wkey m).length=4 from rfl) hlt
   have hst:=ltL_step hy hz
   refine W.skip (k6 _ ?_)
   refine W.seqK fun K8 k8=>?_
   refine W.block ?_
   refine W.seqK fun K9 k9=>?_
   refine W.regionQ mixed (by kernel_rfl) ?_
   refine WQ.go 2 dn ?_
   simp only[E,F,J,M,R,Tz,V,X,Y,reduceIte,sxq,G,H,sz]
   refine WQ.elem (y:=y) h1r (by simp[St.put]) dn rfl rfl (by simp[St.put]) (fun _=>rfl) rfl rfl rfl rfl rfl el94 agg3 sz3 (.inr rfl) (by omega) (hy) fun p ces hces=>?_
   obtain rfl:=rInt_open hces
   clear hces
   refine WQ.go 2 dn ?_
   simp only[E,F,J,M,R,Tz,V,X,Y,reduceIte,sxq,G,H,sz]
   refine WQ.elem (y:=z) h2r (by simp[St.put]) dn rfl rfl (by simp[St.put]) (fun _=>rfl) rfl rfl rfl rfl rfl el94 agg3 sz3 (.inr rfl) (by omega) (hz) fun p ces hces=>?_
   obtain rfl:=rInt_open hces
   clear hces
   refine WQ.go 1 dn ?_
   simp only[E,F,J,M,R,Tz,V,X,Y,reduceIte,sxq,G,H,sz]
   refine WQ.nil ?_
   refine k9 _ ?_
   refine W.cond rfl rfl (fun hc=>?_) fun hc=>?_
   ·
    have he:¬ y=z:=by simpa using hc
    refine W.seqK fun K10 k10=>?_
    refine W.regionQ mixed (by kernel_rfl) ?_
    refine WQ.go 2 dn ?_
    simp only[E,F,J,M,R,Tz,V,X,Y,reduceIte,sxq,G,H,sz]
    refine WQ.elem (y:=y) h1r (by simp[St.put]) dn rfl rfl (by simp[St.put]) (fun _=>rfl) rfl rfl rfl rfl rfl el94 agg3 sz3 (.inr rfl) (by omega) (hy) fun p ces hces=>?_
    obtain rfl:=rInt_open hces
    clear hces
    refine WQ.go 2 dn ?_
    simp only[E,F,J,M,R,Tz,V,X,Y,reduceIte,sxq,G,H,sz]
    refine WQ.elem (y:=z) h2r (by simp[St.put]) dn rfl rfl (by simp[St.put]) (fun _=>rfl) rfl rfl rfl rfl rfl el94 agg3 sz3 (.inr rfl) (by omega) (hz) fun p ces hces=>?_
    obtain rfl:=rInt_open hces
    clear hces
    refine WQ.go 2 dn ?_
    simp only[E,F,J,M,R,Tz,V,X,Y,reduceIte,sxq,G,H,sz]
    refine WQ.nil ?_
    refine k10 _ ?_
    refine W.ret ⟨by simp,_,rfl,fun ρ w1 hb=>?_⟩
    rw[hE,hst,if_neg he];rfl
   ·
    have he:y=z:=by simpa using hc
    refine W.skip (k8 _ ?_)
    refine W.region ?_
    refine WO.go 3 dn ?_
    simp only[E,F,J,M,R,Tz,V,X,Y,reduceIte,G,H,sz]
    refine WO.nil ?_
    refine⟨i+1,?_,by first | omega | (simp;omega),rfl,by simp[getE,bnd,keepE,wrap_succ (show i+1≤9223372036854775807 by omega)],⟨_,rfl⟩,by simp[Own.bnd,bndL,bnd,boxO],by simp⟩
    exact⟨hlt,by rw[hE,hst,if_pos he]⟩
  ·
   have hge:i=4:=by simp at hc;omega
   refine W.exit (k4 _ ?_)
   refine W.pure dn fun K11 k11=>?_
   simp only[E,F,J,M,R,Tz,V,X,Y,reduceIte,G,H,sz];refine k11 _ ?_
   refine W.ret ⟨by simp,_,rfl,fun ρ w1 hb=>?_⟩
   rw[hE,hge];rfl
def wsum:List Ms→Int→Int
 | [],n=>n
 | m::l,n=>wsum l (IntKind.i64.wrap (n+(m.notes.length:Int)))
theorem wsum_app:∀ (a b:List Ms) (n:Int),wsum (a++b) n=wsum b (wsum a n)
 | [],b,n=>rfl
 | m::a,b,n=>wsum_app a b _
theorem wsum_step {l:List Ms} {i:Nat} {y:Ms} (hy:l[i]?=some y):wsum (l.take (i+1)) 0=IntKind.i64.wrap (wsum (l.take i) 0+(y.notes.length:Int)):=by
 rw[List.take_add_one,hy,wsum_app];rfl
abbrev D37_:List (Option Nat):=[some 5,some 6,some 7,some 8,some 9,some 10,some 11,some 12,some 13]
abbrev D38_:List (Option Nat):=[some 25,some 26,some 27,some 28,some 29,some 30,some 31,some 32,some 2]
theorem r14Few_spec {S:Nat→Prop} {w:World} {z:Sl} {v:Vw} (hl:rMss.rd S w [.slice z.1 v.ms.length z.2] v.ms):Gives Tryz.prog 6 #[vwV z v] w fun r _=>r=.bool (decide ((v.ms.length:Int)≤60) && decide (wsum (v.ms.take 61) 0≤80)):=by
 have hl:(Rp.slice rMs).rd (fun _=>True) w _ v.ms:=Rp.any hl
 unfold vwV
 obtain⟨z1,z2⟩:=z
 obtain⟨_,_,hq,hc1,hc2⟩:=Rp.slice_val hl
 obtain⟨_,_,_⟩:=(Value.slice.injEq _ _ _ _ _ _).mp hq
 refine gives_of [.agg [wv v.part,.val (.slice z1 v.ms.length z2)]] 33 [.tmp 2] Tryz.func6 rfl rfl rfl (by simp) rfl rfl ?_
 refine W.pure dn fun K1 k1=>?_
 simp only[E,F,J,M,R,Tz,V,X,Y,reduceIte,G,H,sz];refine k1 _ ?_
 refine W.pure dn fun K2 k2=>?_
 simp only[E,F,J,M,R,Tz,V,X,Y,reduceIte,G,H,sz];refine k2 _ ?_
 refine W.seqK fun K3 k3=>?_
 refine W.pure dn fun K4 k4=>?_
 simp only[E,F,J,M,R,Tz,V,X,Y,reduceIte,G,H,sz];refine k4 _ ?_
 refine W.block ?_
 refine W.loopK (X:=Nat) [1] (fun x=>[(3,wv (wsum (v.ms.take x) 0)),(4,wv (x:Int))]) (fun x=>x≤v.ms.length∧x≤61) (fun x=>61 - x) 0 ?_ ?_ ?_
 · exact⟨rfl,by simp[getE,bnd,keepE,wsum],⟨[],by simp⟩,by simp[Own.bnd,bndL,bnd,boxO],by simp⟩
 ·
  exact⟨Nat.zero_le _,by omega⟩
 ·
  rintro i ⟨hi,hi2⟩
  simp only[E,F,J,M,R,Tz,V,X,Y,reduceIte,sxk,G,H,sz]
  refine W.seqK fun K5 k5=>?_
  refine W.join 13 (.val (.bool (decide ((i:Int)<(v.ms.length:Int)) && decide ((i:Int)<61)))) [1,3,4] (W.region ?_) ?_
  ·
   refine WO.go 6 (ds:=D37_) rfl ?_
   simp only[E,F,J,M,R,Tz,V,X,Y,reduceIte,G,H,sz]
   refine WO.cases 10 _ rfl (fun hg10=>?_) fun hg10=>?_
   ·
    refine WO.go 3 (ds:=D37_) rfl ?_
    simp only[E,F,J,M,R,Tz,V,X,Y,reduceIte,G,H,sz]
    refine WO.nil ?_
    refine⟨rfl,?_,⟨_,rfl⟩,by simp[Own.bnd,bndL,bnd,boxO],by simp⟩
    try rw[hg10]
    simp[getE,bnd,keepE]
   ·
    refine WO.go 3 (ds:=D37_) rfl ?_
    simp only[E,F,J,M,R,Tz,V,X,Y,reduceIte,G,H,sz]
    refine WO.nil ?_
    refine⟨rfl,?_,⟨_,rfl⟩,by simp[Own.bnd,bndL,bnd,boxO],by simp⟩
    try rw[hg10]
    simp[getE,bnd,keepE]
  ·
   simp only[E,F,J,M,R,Tz,V,X,Y,reduceIte,sxk,G,H,sz]
   refine W.cond rfl rfl (fun hc=>?_) fun hc=>?_
   ·
    have hlt:i<v.ms.length∧i<61:=by rw[Bool.and_eq_true,decide_eq_true_eq,decide_eq_true_eq] at hc;omega
    obtain⟨y,hy⟩:=len_lt (rfl:v.ms.length=_) hlt.1
    have hsw:=wsum_step hy
    refine W.skip (k5 _ ?_)
    refine W.seqK fun K7 k7=>?_
    refine W.block ?_
    refine W.region ?_
    refine WO.go 4 dn ?_
    simp only[E,F,J,M,R,Tz,V,X,Y,reduceIte,G,H,sz]
    refine WO.elemF (y:=y) hl (by simp[St.put]) dn rfl rfl (by simp[St.put]) (fun _=>rfl) rfl (by simp[St.put]) (fun _ _=>rfl) rfl rfl rfl rfl rfl rfl el27 fo60_3 agg58 sz58 (Nat.le_of_ble_eq_true rfl) (.inr rfl) (by omega) (hy) fun p q ces hces=>?_
    obtain⟨p9,c9,rfl,hwr⟩:=rMs_open hces
    clear hces
    simp only[ofCells,sr]
    refine WO.go 3 dn ?_
    simp only[E,F,J,M,R,Tz,V,X,Y,reduceIte,G,H,sz]
    refine WO.nil ?_
    refine k7 _ ?_
    refine W.region ?_
    refine WO.go 3 dn ?_
    simp only[E,F,J,M,R,Tz,V,X,Y,reduceIte,G,H,sz]
    refine WO.nil ?_
    refine⟨i+1,⟨hlt.1,hlt.2⟩,by omega,rfl,by simp[getE,bnd,keepE,hsw,wrap_succ (show i+1≤9223372036854775807 by omega)],⟨[],by simp⟩,by simp[Own.bnd,bndL,bnd],by simp⟩
   ·
    have hend:v.ms.take i=v.ms.take 61:=by
                                  rw[Bool.and_eq_false_iff,decide_eq_false_iff_not,decide_eq_false_iff_not] at hc
                                  rcases hc with h | h
                                  · rw[List.take_of_length_le (by omega),List.take_of_length_le (by omega)]
                                  · rw[show i=61 by omega]
    simp only[hend]
    refine W.exit (k3 _ ?_)
    refine W.join 2 (.val (.bool (decide ((v.ms.length:Int)≤60) && decide (wsum (v.ms.take 61) 0≤80)))) [] (W.region ?_) ?_
    ·
     refine WO.go 5 (ds:=D38_) rfl ?_
     simp only[E,F,J,M,R,Tz,V,X,Y,reduceIte,G,H,sz]
     refine WO.cases 29 _ rfl (fun hg29=>?_) fun hg29=>?_
     ·
      refine WO.go 4 (ds:=D38_) rfl ?_
      simp only[E,F,J,M,R,Tz,V,X,Y,reduceIte,G,H,sz]
      refine WO.nil ?_
      refine⟨rfl,?_,⟨_,rfl⟩,by simp[Own.bnd,bndL,bnd,boxO],by simp⟩
      try rw[hg29]
      simp[getE,bnd,keepE]
     ·
      refine WO.go 4 (ds:=D38_) rfl ?_
      simp only[E,F,J,M,R,Tz,V,X,Y,reduceIte,G,H,sz]
      refine WO.nil ?_
      refine⟨rfl,?_,⟨_,rfl⟩,by simp[Own.bnd,bndL,bnd,boxO],by simp⟩
      try rw[hg29]
      simp[getE,bnd,keepE]
    ·
     simp only[E,F,J,M,R,Tz,V,X,Y,reduceIte,sxk,G,H,sz]
     refine W.ret ⟨by simp,_,rfl,fun ρ w1 hb=>?_⟩
     rfl
end Go.Proofs.YtolmeekbjonbcaaGreatDoor
namespace Go.Proofs.YtolmeekbjonbcaaGreatDoor
open Go Go.SX Go.RowKit
variable [Drw]
def MsOk (p:Pt) (m:Ms) (b:Br):Prop:=m.bar=b.id∧m.key=(keyF p.sa p.sb p.low p.high b.key).1∧m.len=b.len
def OrdW (l:List Wt):Prop:=∀ (k:Nat) a b,l[k]?=some a→l[k+1]?=some b→ltL (wkey a) (wkey b)=true
def allW (l:List Ms):List Wt:=l.flatMap Ms.notes
structure VwOk (s:Sc) (v:Vw):Prop where
 sc:ScOk s
 len:v.ms.length=s.bars.length
 ms:∃ p,p∈s.parts∧p.id=v.part∧∀ (i:Nat) m b,v.ms[i]?=some m→s.bars[i]?=some b→MsOk p m b
 form:∀ m,m∈v.ms→∀ n,n∈m.notes→formB n m.len=true
 ord:∀ m,m∈v.ms→OrdW m.notes
 nd:((allW v.ms).map Wt.id).Nodup
 few:(allW v.ms).length≤20000
structure VInv (s:Sc) (v:Vw) (p:Pt) (i:Nat):Prop where
 ms:∀ (j:Nat) m b,j<i→v.ms[j]?=some m→s.bars[j]?=some b→MsOk p m b
 form:∀ (j:Nat) m,j<i→v.ms[j]?=some m→∀ n,n∈m.notes→formB n m.len=true
 ord:∀ (j:Nat) m,j<i→v.ms[j]?=some m→OrdW m.notes
 nd:((allW (v.ms.take i)).map Wt.id).Nodup
 few:(allW (v.ms.take i)).length≤20000
theorem VInv.start (s:Sc) (v:Vw) (p:Pt):VInv s v p 0:=⟨fun _ _ _ h=>by omega,fun _ _ h=>by omega,fun _ _ h=>by omega,by simp[allW],by simp[allW]⟩
theorem allW_step {l:List Ms} {i:Nat} {m:Ms} (h:l[i]?=some m):allW (l.take (i+1))=allW (l.take i)++m.notes:=by
 rw[allW,List.take_add_one,h,List.flatMap_append];simp[allW]
structure NInv (all:List Wt) (m:Ms) (k:Nat):Prop where
 form:∀ (j:Nat) n,j<k→m.notes[j]?=some n→formB n m.len=true
 ord:∀ (j:Nat) a b,j+1<k→m.notes[j]?=some a→m.notes[j+1]?=some b→ltL (wkey a) (wkey b)=true
 nd:((all++m.notes.take k).map Wt.id).Nodup
 few:(all++m.notes.take k).length≤20000
theorem NInv.start {all:List Wt} {m:Ms} (h:(all.map Wt.id).Nodup) (h2:all.length≤20000):NInv all m 0:=⟨fun _ _ h=>by omega,fun _ _ _ h=>by omega,by simpa using h,by simpa using h2⟩
theorem NInv.step {all:List Wt} {m:Ms} {k:Nat} {y:Wt} (h:NInv all m k) (hy:m.notes[k]?=some y) (hf:formB y m.len=true) (hno:¬ ∃ z,z∈all++m.notes.take k∧z.id=y.id) (hl:(all++m.notes.take k).length<20000) (ho:∀ z,0<k→m.notes[k - 1]?=some z→ltL (wkey z) (wkey y)=true):NInv all m (k+1):=by
 have ht:m.notes.take (k+1)=m.notes.take k++[y]:=by rw[List.take_add_one,hy];rfl
 refine⟨fun j n hj hn=>?_,fun j a b hj ha hb=>?_,?_,?_⟩
 ·
  rcases Nat.lt_succ_iff_lt_or_eq.1 hj with h1 | rfl
  · exact h.form j n h1 hn
  · rw[hy] at hn;obtain rfl:=Option.some.inj hn;exact hf
 ·
  rcases Nat.lt_succ_iff_lt_or_eq.1 hj with h1 | h1
  · exact h.ord j a b h1 ha hb
  ·
   subst h1
   rw[hy] at hb
   obtain rfl:=Option.some.inj hb
   exact ho a (by omega) (by simpa using ha)
 ·
  rw[ht,← List.append_assoc,List.map_append,List.nodup_append]
  refine⟨h.nd,by simp,fun x hx z hz=>?_⟩
  simp at hz
  subst hz
  rintro rfl
  obtain⟨u,hu,he⟩:=List.mem_map.1 hx
  exact hno ⟨u,hu,he⟩
 ·
  rw[ht,← List.append_assoc,List.length_append]
  simp only[List.length_cons,List.length_nil]
  omega
theorem VInv.step {s:Sc} {v:Vw} {p:Pt} {i:Nat} {m:Ms} {b:Br} (h:VInv s v p i) (hm:v.ms[i]?=some m) (hb:s.bars[i]?=some b) (hok:MsOk p m b) (hn:NInv (allW (v.ms.take i)) m m.notes.length):VInv s v p (i+1):=by
 have hl:=hn.nd
 have hf:=hn.few
 rw[List.take_length,← allW_step hm] at hl hf
 refine⟨fun j m' b' hj h1 h2=>?_,fun j m' hj h1=>?_,fun j m' hj h1=>?_,hl,hf⟩
 ·
  rcases Nat.lt_succ_iff_lt_or_eq.1 hj with g | rfl
  · exact h.ms j m' b' g h1 h2
  · rw[hm] at h1;rw[hb] at h2;obtain rfl:=Option.some.inj h1;obtain rfl:=Option.some.inj h2;exact hok
 ·
  rcases Nat.lt_succ_iff_lt_or_eq.1 hj with g | rfl
  · exact h.form j m' g h1
  ·
   rw[hm] at h1;obtain rfl:=Option.some.inj h1
   exact all_at fun k n hk=>hn.form k n (List.getElem?_eq_some_iff.1 hk).1 hk
 ·
  rcases Nat.lt_succ_iff_lt_or_eq.1 hj with g | rfl
  · exact h.ord j m' g h1
  ·
   rw[hm] at h1;obtain rfl:=Option.some.inj h1
   exact fun k a b ha hb=>hn.ord k a b (List.getElem?_eq_some_iff.1 hb).1 ha hb
theorem VInv.done {s:Sc} {v:Vw} {p:Pt} {i:Nat} (h:VInv s v p i) (hs:ScOk s) (hl:v.ms.length=s.bars.length) (hp:p∈s.parts) (hid:p.id=v.part) (hi:s.bars.length≤i):VwOk s v:=by
 have ht:v.ms.take i=v.ms:=List.take_of_length_le (by omega)
 have h4:=h.nd
 have h5:=h.few
 rw[ht] at h4 h5
 exact⟨hs,hl,⟨p,hp,hid,fun j m b h1 h2=>h.ms j m b (by have:=(List.getElem?_eq_some_iff.1 h1).1;omega) h1 h2⟩,all_at fun j m h1=>h.form j m (by have:=(List.getElem?_eq_some_iff.1 h1).1;omega) h1,all_at fun j m h1=>h.ord j m (by have:=(List.getElem?_eq_some_iff.1 h1).1;omega) h1,h4,h5⟩
end Go.Proofs.YtolmeekbjonbcaaGreatDoor
namespace Go.Proofs.YtolmeekbjonbcaaGreatDoor
open Go Go.SX Go.RowKit
variable [Drw]
open Int renaming reduceEq → E, reduceLT → F, reduceBEq → G, reduceBNe → H, reduceNeg → Z1, reduceGT → Z2, reduceLE → Z3, reduceGE → Z4, reduceMul → Z5, reduceMod → Z6, reduceAdd → Z7, reduceTMod → Z8, reduceTDiv → Z9
open Nat renaming reduceAdd → J, reduceSub → M, reduceMul → R, reduceLT → Tz, reduceLeDiff → V, reduceEqDiff → X
open List renaming reduceReplicate → Y
abbrev D40_:List (Option Nat):=[some 86,some 87,some 88,some 89,some 90,some 91,some 92,some 93,some 94,some 95]
abbrev D39_:List (Option Nat):=[some 17,some 18,some 19,some 20,some 21,some 22,some 23,some 24,some 25,some 26,some 27]
theorem r14Valid_spec {S S2:Nat→Prop} {w:World} {a:ScA} {s:Sc} {z:Sl} {v:Vw} (hs:ScR S w a s) (hl:rMss.rd S2 w [.slice z.1 v.ms.length z.2] v.ms):Gives Tryz.prog 7 #[scV a s,vwV z v] w fun r _=>∃ b,r=.bool b∧(b=true→VwOk s v):=by
 have hlb:(Rp.slice rBr).rd (fun _=>True) w _ s.bars:=Rp.any hs.b
 have hlp:(Rp.slice rPt).rd (fun _=>True) w _ s.parts:=Rp.any hs.p
 have hlm:(Rp.slice rMs).rd (fun _=>True) w _ v.ms:=Rp.any hl
 unfold scV vwV
 refine gives_of [.agg (scw a s),.agg [wv v.part,.val (.slice z.1 v.ms.length z.2)]] 120 [.tmp 4] Tryz.func7 rfl rfl rfl (by simp) rfl rfl ?_
 refine W.pure dn fun K1 k1=>?_
 simp only[E,F,J,M,R,Tz,V,X,Y,reduceIte,G,H,sz];refine k1 _ ?_
 refine W.seqK fun K2 k2=>W.region ?_
 refine WO.go 1 dn ?_
 simp only[E,F,J,M,R,Tz,V,X,Y,reduceIte,G,H,sz]
 refine WO.call (.bool (pb (ScOk s))) dn rfl rfl rfl co19 (fun ρ w1 hb=>r8Valid_spec (hs.any.now (hb.first (by simp[St.put])))) ?_
 refine WO.go 1 dn ?_
 simp only[E,F,J,M,R,Tz,V,X,Y,reduceIte,G,H,sz]
 refine WO.nil ?_
 refine k2 _ ?_
 refine W.seqK fun K3 k3=>?_
 refine W.join 27 (.val (.bool (!pb (ScOk s) || ((v.ms.length:Int) != (s.bars.length:Int))))) [2,3] (W.region ?_) ?_
 ·
  refine WO.go 3 (ds:=D39_) rfl ?_
  simp only[E,F,J,M,R,Tz,V,X,Y,reduceIte,G,H,sz]
  refine WO.cases 19 _ rfl (fun hg19=>?_) fun hg19=>?_
  ·
   refine WO.go 8 (ds:=D39_) rfl ?_
   simp only[E,F,J,M,R,Tz,V,X,Y,reduceIte,G,H,sz]
   refine WO.nil ?_
   refine⟨rfl,?_,⟨_,rfl⟩,by simp[Own.bnd,bndL,bnd,boxO,boxO],by simp⟩
   try rw[hg19]
   simp[getE,bnd,keepE]
  ·
   refine WO.go 8 (ds:=D39_) rfl ?_
   simp only[E,F,J,M,R,Tz,V,X,Y,reduceIte,G,H,sz]
   refine WO.nil ?_
   refine⟨rfl,?_,⟨_,rfl⟩,by simp[Own.bnd,bndL,bnd,boxO,boxO],by simp⟩
   try rw[hg19]
   simp[getE,bnd,keepE]
 ·
  simp only[E,F,J,M,R,Tz,V,X,Y,reduceIte,sxk,G,H,sz]
  refine W.cond rfl rfl (fun hc=>?_) fun hc=>?_
  ·
   refine W.pure dn fun K5 k5=>?_
   simp only[E,F,J,M,R,Tz,V,X,Y,reduceIte,G,H,sz];refine k5 _ ?_
   refine W.ret ⟨by simp,_,rfl,fun ρ w1 hb=>?_⟩
   exact⟨false,rfl,fun h=>by cases h⟩
  ·
   rw[Bool.or_eq_false_iff,Bool.not_eq_false',bne_eq_false_iff_eq] at hc
   have hsc:ScOk s:=pb_of hc.1
   have hml:v.ms.length=s.bars.length:=by omega
   have hb4:=hsc.bars.len
   have hp6:=hsc.parts.len
   refine W.skip (k3 _ ?_)
   refine W.seqK fun K6 k6=>W.region ?_
   refine WO.go 4 dn ?_
   simp only[E,F,J,M,R,Tz,V,X,Y,reduceIte,G,H,sz]
   refine WO.call (iv (ixOf (s.parts.map Pt.id) v.part)) dn rfl rfl rfl co13 (fun ρ w1 hb=>rPartAt_spec (Rp.now hlp (hb.first (by simp[St.put]))) v.part) ?_
   refine WO.go 1 dn ?_
   simp only[E,F,J,M,R,Tz,V,X,Y,reduceIte,G,H,sz]
   refine WO.nil ?_
   refine k6 _ ?_
   refine W.seqK fun K7 k7=>?_
   refine W.pure dn fun K8 k8=>?_
   simp only[E,F,J,M,R,Tz,V,X,Y,reduceIte,G,H,sz];refine k8 _ ?_
   refine W.cond rfl rfl (fun hc=>?_) fun hc=>?_
   ·
    refine W.pure dn fun K9 k9=>?_
    simp only[E,F,J,M,R,Tz,V,X,Y,reduceIte,G,H,sz];refine k9 _ ?_
    refine W.ret ⟨by simp,_,rfl,fun ρ w1 hb=>?_⟩
    exact⟨false,rfl,fun h=>by cases h⟩
   ·
    obtain⟨kp,pp,hk1,hk2,hk3⟩:=at_ix (f:=Pt.id) (l:=s.parts) (x:=v.part) (by simpa using hc)
    simp only[hk1]
    refine W.skip (k7 _ ?_)
    refine W.pure dn fun K10 k10=>?_
    simp only[E,F,J,M,R,Tz,V,X,Y,reduceIte,G,H,sz];refine k10 _ ?_
    refine W.seqK fun K11 k11=>?_
    refine W.pure dn fun K12 k12=>?_
    simp only[E,F,J,M,R,Tz,V,X,Y,reduceIte,G,H,sz];refine k12 _ ?_
    refine W.block ?_
    refine W.ownNil 62 10 ?_
    simp only[Bool.false_eq_true,E,F,J,M,R,Tz,V,X,Y,reduceIte,St.pushO,List.cons_append,List.nil_append,sz]
    refine W.loopO (X:=Nat×List Wt×Option Addr×Nat) [2,3,6] (fun x=>[(7,.val (.slice x.2.2.1 x.2.1.length x.2.2.2)),(8,wv (x.1:Int))]) (fun x=>[.cells 26 (scw a s),.cells 29 [wv v.part,.val (.slice z.1 v.ms.length z.2)],.slice 62 10 (.slice x.2.2.1 x.2.1.length x.2.2.2) x.2.1.length (rowV wtV x.2.1)]) (fun x=>[((fun _=>True),w)]) (fun x=>x.1≤s.bars.length∧x.2.1=allW (v.ms.take x.1)∧VInv s v pp x.1) (fun x=>s.bars.length - x.1) (0,[],none,0) ?_ ?_ ?_
    · exact⟨rfl,by simp[getE,bnd,keepE],⟨[],by simp[rowV]⟩,by simp[Own.bnd,bndL,bnd,boxO],by simp⟩
    ·
     exact⟨Nat.zero_le _,rfl,VInv.start s v pp⟩
    ·
     rintro⟨i,out,pq,cq⟩ ⟨hi,hout,hVI⟩
     simp only at hi hout hVI
     have hol:out.length≤20000:=by rw[hout];exact hVI.few
     simp only[E,F,J,M,R,Tz,V,X,Y,reduceIte,sxk,G,H,sz]
     refine W.seqK fun K13 k13=>?_
     refine W.pure dn fun K14 k14=>?_
     simp only[E,F,J,M,R,Tz,V,X,Y,reduceIte,G,H,sz];refine k14 _ ?_
     refine W.cond rfl rfl (fun hc=>?_) fun hc=>?_
     ·
      have hlt:i<s.bars.length:=by simpa using hc
      obtain⟨m,hm⟩:=len_lt (rfl:v.ms.length=_) (show i<v.ms.length by omega)
      obtain⟨b9,hb9⟩:=len_lt (rfl:s.bars.length=_) hlt
      refine W.skip (k13 _ ?_)
      refine W.seqK fun K15 k15=>?_
      refine W.block ?_
      refine W.seqK fun K16 k16=>W.region ?_
      refine WO.go 3 dn ?_
      simp only[E,F,J,M,R,Tz,V,X,Y,reduceIte,G,H,sz]
      refine WO.elem (y:=m) hlm (by simp[St.put]) dn rfl rfl (by simp[St.put]) (fun _=>rfl) rfl rfl rfl rfl rfl el27 agg60 sz60 (.inl rfl) (by omega) (hm) fun p ces hces=>?_
      obtain⟨p9,c9,rfl,hwr⟩:=rMs_open hces
      clear hces
      have hwr:(Rp.slice rWt).rd (fun _=>True) w _ m.notes:=Rp.any hwr
      have hwb:m.notes.length≤9223372036854775807:=by
                                    obtain⟨_,_,hq,hq1,hq2⟩:=Rp.slice_val hwr
                                    omega
      simp only[ofCells,if_true,List.toList_toArray,sr]
      refine WO.go 2 dn ?_
      simp only[E,F,J,M,R,Tz,V,X,Y,reduceIte,G,H,sz]
      refine WO.nil ?_
      refine k16 _ ?_
      refine W.seqK fun K17 k17=>?_
      refine W.regionQ mixed (by kernel_rfl) ?_
      refine WQ.go 1 dn ?_
      simp only[E,F,J,M,R,Tz,V,X,Y,reduceIte,sxq,G,H,sz]
      refine WQ.call (.agg #[iv m.bar,iv m.key,iv m.len.1,iv m.len.2,.slice none 0 0]) dn rfl rfl rfl co21 (fun ρ w1 hb=>r14bare_spec w1 m p9 m.notes.length c9) ?_
      refine WQ.go 3 dn ?_
      simp only[E,F,J,M,R,Tz,V,X,Y,reduceIte,sxq,G,H,sz]
      refine WQ.elem (y:=pp) hlp (by simp[St.put]) dn rfl rfl (by simp[St.put]) (fun _=>rfl) rfl rfl rfl rfl rfl el23 agg50 sz50 (.inl rfl) (by omega) (hk2) fun p ces hces=>?_
      have hces:ces=ptV pp:=hces
      subst hces
      simp only[ptV,ofCells,if_true,List.toList_toArray,sr]
      refine WQ.go 3 dn ?_
      simp only[E,F,J,M,R,Tz,V,X,Y,reduceIte,sxq,G,H,sz]
      refine WQ.elem (y:=b9) hlb (by simp[St.put]) dn rfl rfl (by simp[St.put]) (fun _=>rfl) rfl rfl rfl rfl rfl el22 agg75 sz75 (.inl rfl) (by omega) (hb9) fun p ces hces=>?_
      have hces:ces=brV b9:=hces
      subst hces
      simp only[brV,ofCells,if_true,List.toList_toArray,sr]
      simp only[E,F,J,M,R,Tz,V,X,Y,reduceIte,G,H,sz]
      refine WQ.call (.agg #[iv (⟨b9.id,(keyF pp.sa pp.sb pp.low pp.high b9.key).1,b9.len,[]⟩:Ms).bar,iv (⟨b9.id,(keyF pp.sa pp.sb pp.low pp.high b9.key).1,b9.len,[]⟩:Ms).key,iv (⟨b9.id,(keyF pp.sa pp.sb pp.low pp.high b9.key).1,b9.len,[]⟩:Ms).len.1,iv (⟨b9.id,(keyF pp.sa pp.sb pp.low pp.high b9.key).1,b9.len,[]⟩:Ms).len.2,.slice none 0 0]) dn rfl rfl rfl co22 (fun ρ w1 hb=>r14Measure_spec w1 pp b9) ?_
      simp only[E,F,J,M,R,Tz,V,X,Y,reduceIte,G,H,sz]
      refine WQ.call (.bool ((m.bar == b9.id) && ((m.key == (keyF pp.sa pp.sb pp.low pp.high b9.key).1) && ([m.len.1,m.len.2] == [b9.len.1,b9.len.2])))) dn rfl rfl rfl co20 (fun ρ w1 hb=>r14same_spec w1 m ⟨b9.id,(keyF pp.sa pp.sb pp.low pp.high b9.key).1,b9.len,[]⟩ none none 0 0 0 0) ?_
      refine WQ.go 1 dn ?_
      simp only[E,F,J,M,R,Tz,V,X,Y,reduceIte,sxq,G,H,sz]
      refine WQ.nil ?_
      refine k17 _ ?_
      refine W.seqK fun K18 k18=>?_
      refine W.pure dn fun K19 k19=>?_
      simp only[E,F,J,M,R,Tz,V,X,Y,reduceIte,G,H,sz];refine k19 _ ?_
      refine W.cond rfl rfl (fun hc=>?_) fun hc=>?_
      ·
       refine W.pure dn fun K20 k20=>?_
       simp only[E,F,J,M,R,Tz,V,X,Y,reduceIte,G,H,sz];refine k20 _ ?_
       refine W.ret ⟨by simp,_,rfl,fun ρ w1 hb=>?_⟩
       exact⟨false,rfl,fun h=>by cases h⟩
      ·
       have hok:MsOk pp m b9:=by
                                     simp at hc
                                     obtain⟨q1,q2,q3,q4⟩:=hc
                                     exact⟨q1,q2,Prod.ext q3 q4⟩
       refine W.skip (k18 _ ?_)
       refine W.pure dn fun K21 k21=>?_
       simp only[E,F,J,M,R,Tz,V,X,Y,reduceIte,G,H,sz];refine k21 _ ?_
       refine W.block ?_
       refine W.loopO (X:=Nat×List Wt×Option Addr×Nat) [2,3,6,8,9] (fun x=>[(7,.val (.slice x.2.2.1 x.2.1.length x.2.2.2)),(11,wv (x.1:Int))]) (fun x=>[.cells 26 (scw a s),.cells 29 [wv v.part,.val (.slice z.1 v.ms.length z.2)],.slice 62 10 (.slice x.2.2.1 x.2.1.length x.2.2.2) x.2.1.length (rowV wtV x.2.1),.cells 60 [wv m.bar,wv m.key,wv m.len.1,wv m.len.2,.val (.slice p9 m.notes.length c9)]]) (fun x=>[((fun _=>True),w)]) (fun x=>x.1≤m.notes.length∧x.2.1=out++m.notes.take x.1∧NInv out m x.1) (fun x=>m.notes.length - x.1) (0,out,pq,cq) ?_ ?_ ?_
       · exact⟨rfl,by simp[getE,bnd,keepE],⟨[],by simp⟩,by simp[Own.bnd,bndL,bnd,boxO],by simp⟩
       ·
        exact⟨Nat.zero_le _,by simp,NInv.start (by rw[hout];exact hVI.nd) hol⟩
       ·
        rintro⟨k,o2,pr,cr⟩ ⟨hk,ho2,hNI⟩
        simp only at hk ho2 hNI
        have hol2:o2.length≤20000:=by rw[ho2];exact hNI.few
        simp only[E,F,J,M,R,Tz,V,X,Y,reduceIte,sxk,G,H,sz]
        refine W.seqK fun K22 k22=>?_
        refine W.pure dn fun K23 k23=>?_
        simp only[E,F,J,M,R,Tz,V,X,Y,reduceIte,G,H,sz];refine k23 _ ?_
        refine W.cond rfl rfl (fun hc=>?_) fun hc=>?_
        ·
         have hlt2:k<m.notes.length:=by simpa using hc
         obtain⟨y,hy⟩:=len_lt (rfl:m.notes.length=_) hlt2
         refine W.skip (k22 _ ?_)
         refine W.seqK fun K24 k24=>?_
         refine W.block ?_
         refine W.seqK fun K25 k25=>?_
         refine W.regionQ mixed (by kernel_rfl) ?_
         refine WQ.go 3 dn ?_
         simp only[E,F,J,M,R,Tz,V,X,Y,reduceIte,sxq,G,H,sz]
         refine WQ.elem (y:=y) hwr (by simp[St.put]) dn rfl rfl (by simp[St.put]) (fun _=>rfl) rfl rfl rfl rfl rfl el58 agg62 sz62 (.inl rfl) (by omega) (hy) fun p ces hces=>?_
         have hces:ces=wtV y:=hces
         subst hces
         simp only[wtV,ofCells,if_true,List.toList_toArray,sr]
         refine WQ.go 2 dn ?_
         simp only[E,F,J,M,R,Tz,V,X,Y,reduceIte,sxq,G,H,sz]
         refine WQ.call (.bool (formB y m.len)) dn rfl rfl rfl co23 (fun ρ w1 hb=>r14Form_spec w1 y m.len) ?_
         refine WQ.go 1 dn ?_
         simp only[E,F,J,M,R,Tz,V,X,Y,reduceIte,sxq,G,H,sz]
         refine WQ.nil ?_
         refine k25 _ ?_
         refine W.seqK fun K26 k26=>W.region ?_
         refine WO.go 4 dn ?_
         simp only[E,F,J,M,R,Tz,V,X,Y,reduceIte,G,H,sz]
         refine WO.elemF (y:=y) hwr (by simp[St.put]) dn rfl rfl (by simp[St.put]) (fun _=>rfl) rfl (by simp[St.put]) (fun _ _=>rfl) rfl rfl rfl rfl rfl rfl el58 fo62_0 agg3 sz3 (Nat.le_of_ble_eq_true rfl) (.inr rfl) (by omega) (hy) fun p q ces hces=>?_
         have hces:ces=wtV y:=hces
         subst hces
         simp only[wtV,ofCells,if_true,List.toList_toArray,sr]
         simp only[E,F,J,M,R,Tz,V,X,Y,reduceIte,G,H,sz]
         refine WO.call (.bool (pb (∃ u,u∈o2∧u.id=y.id))) dn rfl rfl rfl co24 (fun ρ w1 hb=>r14Has_spec (l:=o2) (flat_own (h:=fun _=>rfl) (S:=fun _=>True) (j:=2) (k:=10) (f:=wtV) (m:=o2.length) (xs:=o2) hb rfl (by rw[row_take (f:=wtV) (k:=10) (fun _=>rfl),List.take_length]) rfl (Nat.le_refl _) (fun _ _=>trivial)) y.id) ?_
         refine WO.go 1 dn ?_
         simp only[E,F,J,M,R,Tz,V,X,Y,reduceIte,G,H,sz]
         refine WO.nil ?_
         refine k26 _ ?_
         refine W.seqK fun K27 k27=>?_
         refine W.join 95 (.val (.bool ((!formB y m.len || pb (∃ u,u∈o2∧u.id=y.id)) || decide (20000≤(o2.length:Int))))) [2,3,6,7,8,9,11] (W.region ?_) ?_
         ·
          refine WO.go 3 (ds:=D40_) rfl ?_
          simp only[E,F,J,M,R,Tz,V,X,Y,reduceIte,G,H,sz]
          refine WO.cases 88 _ rfl (fun hg88=>?_) fun hg88=>?_
          ·
           refine WO.go 7 (ds:=D40_) rfl ?_
           simp only[E,F,J,M,R,Tz,V,X,Y,reduceIte,G,H,sz]
           refine WO.nil ?_
           refine⟨rfl,?_,⟨_,rfl⟩,by simp[Own.bnd,bndL,bnd,boxO,boxO],by simp⟩
           try rw[hg88]
           try rw[hg91]
           simp[getE,bnd,keepE]
          ·
           refine WO.go 3 (ds:=D40_) rfl ?_
           simp only[E,F,J,M,R,Tz,V,X,Y,reduceIte,G,H,sz]
           refine WO.cases 91 _ rfl (fun hg91=>?_) fun hg91=>?_
           ·
            refine WO.go 4 (ds:=D40_) rfl ?_
            simp only[E,F,J,M,R,Tz,V,X,Y,reduceIte,G,H,sz]
            refine WO.nil ?_
            refine⟨rfl,?_,⟨_,rfl⟩,by simp[Own.bnd,bndL,bnd,boxO,boxO],by simp⟩
            try rw[hg88]
            try rw[hg91]
            simp[getE,bnd,keepE]
           ·
            refine WO.go 4 (ds:=D40_) rfl ?_
            simp only[E,F,J,M,R,Tz,V,X,Y,reduceIte,G,H,sz]
            refine WO.nil ?_
            refine⟨rfl,?_,⟨_,rfl⟩,by simp[Own.bnd,bndL,bnd,boxO,boxO],by simp⟩
            try rw[hg88]
            try rw[hg91]
            simp[getE,bnd,keepE]
         ·
          simp only[E,F,J,M,R,Tz,V,X,Y,reduceIte,sxk,G,H,sz]
          refine W.cond rfl rfl (fun hc=>?_) fun hc=>?_
          ·
           refine W.pure dn fun K29 k29=>?_
           simp only[E,F,J,M,R,Tz,V,X,Y,reduceIte,G,H,sz];refine k29 _ ?_
           refine W.ret ⟨by simp,_,rfl,fun ρ w1 hb=>?_⟩
           exact⟨false,rfl,fun h=>by cases h⟩
          ·
           simp only[Bool.or_eq_false_iff,Bool.not_eq_false'] at hc
           obtain⟨⟨hfm,hno⟩,hlen⟩:=hc
           have hno:=pb_not hno
           have hlen:o2.length<20000:=by have:=of_decide_eq_false hlen;omega
           have hlen0:=hlen
           rw[ho2] at hno hlen
           have hfb:=hfm
           simp only[formB,Bool.and_eq_true] at hfb
           refine W.skip (k27 _ ?_)
           refine W.seqK fun K30 k30=>?_
           refine W.pure dn fun K31 k31=>?_
           simp only[E,F,J,M,R,Tz,V,X,Y,reduceIte,G,H,sz];refine k31 _ ?_
           refine W.cond rfl rfl (fun hc=>?_) fun hc=>?_
           ·
            have hk0:0<k:=by have:(0:Int)<(k:Int):=(by simpa using hc);omega
            obtain⟨y0,hy0⟩:=len_lt (rfl:m.notes.length=_) (show k - 1<m.notes.length by omega)
            have hf0:=hNI.form (k - 1) y0 (by omega) hy0
            simp only[formB,Bool.and_eq_true] at hf0
            have hwi:IntKind.i64.wrap ((k:Int) - 1)=((k - 1:Nat):Int):=by rw[wrap_id (by omega) (by omega)];omega
            refine W.seqK fun K32 k32=>?_
            refine W.regionQ mixed (by kernel_rfl) ?_
            refine WQ.go 4 dn ?_
            simp only[E,F,J,M,R,Tz,V,X,Y,reduceIte,sxq,G,H,hwi,sz]
            refine WQ.elem (y:=y0) hwr (by simp[St.put]) dn rfl rfl (by simp[St.put]) (fun _=>rfl) rfl rfl rfl rfl rfl el58 agg62 sz62 (.inl rfl) (by omega) (hy0) fun p ces hces=>?_
            have hces:ces=wtV y0:=hces
            subst hces
            simp only[wtV,ofCells,if_true,List.toList_toArray,sr]
            refine WQ.go 3 dn ?_
            simp only[E,F,J,M,R,Tz,V,X,Y,reduceIte,sxq,G,H,hwi,sz]
            refine WQ.elem (y:=y) hwr (by simp[St.put]) dn rfl rfl (by simp[St.put]) (fun _=>rfl) rfl rfl rfl rfl rfl el58 agg62 sz62 (.inl rfl) (by omega) (hy) fun p ces hces=>?_
            have hces:ces=wtV y:=hces
            subst hces
            simp only[wtV,ofCells,if_true,List.toList_toArray,sr]
            simp only[E,F,J,M,R,Tz,V,X,Y,reduceIte,G,H,hwi,sz]
            refine WQ.call (.bool (ltL (wkey y0) (wkey y))) dn rfl rfl rfl co25 (fun ρ w1 hb=>r14Before_spec w1 y0 y hf0.2.2.2.1 hfb.2.2.2.1) ?_
            refine WQ.go 1 dn ?_
            simp only[E,F,J,M,R,Tz,V,X,Y,reduceIte,sxq,G,H,hwi,sz]
            refine WQ.nil ?_
            refine k32 _ ?_
            refine W.pure dn fun K33 k33=>?_
            simp only[E,F,J,M,R,Tz,V,X,Y,reduceIte,G,H,hwi,sz];refine k33 _ ?_
            refine W.cond rfl rfl (fun hc=>?_) fun hc=>?_
            ·
             refine W.pure dn fun K34 k34=>?_
             simp only[E,F,J,M,R,Tz,V,X,Y,reduceIte,G,H,hwi,sz];refine k34 _ ?_
             refine W.ret ⟨by simp,_,rfl,fun ρ w1 hb=>?_⟩
             exact⟨false,rfl,fun h=>by cases h⟩
            ·
             have hbf:ltL (wkey y0) (wkey y)=true:=by simpa using hc
             refine W.skip (k30 _ ?_)
             refine W.region ?_
             refine WO.go 4 dn ?_
             simp only[E,F,J,M,R,Tz,V,X,Y,reduceIte,G,H,hwi,sz]
             refine WO.elem (y:=y) hwr (by simp[St.put]) dn rfl rfl (by simp[St.put]) (fun _=>rfl) rfl rfl rfl rfl rfl el58 agg62 sz62 (.inl rfl) (by omega) (hy) fun p ces hces=>?_
             have hces:ces=wtV y:=hces
             subst hces
             simp only[wtV,ofCells,if_true,List.toList_toArray,sr]
             refine WO.go 1 dn ?_
             simp only[E,F,J,M,R,Tz,V,X,Y,reduceIte,G,H,hwi,sz]
             refine WO.append (k:=2) (m:=1) (wtV y) dn rfl rfl rfl rfl rfl rfl ek58 (news_own (k2:=4) rfl fun _=>rfl) rfl (by simp[wtV,Value.oneCell']) (by rw[maxLen_eq];omega) (by omega) fun p6 c6=>?_
             refine WO.go 1 dn ?_
             simp only[E,F,J,M,R,Tz,V,X,Y,reduceIte,G,H,hwi,sz]
             refine WO.nil ?_
             refine k24 _ ?_
             refine W.region ?_
             refine WO.go 3 dn ?_
             simp only[E,F,J,M,R,Tz,V,X,Y,reduceIte,G,H,hwi,sz]
             refine WO.nil ?_
             refine⟨(k+1,o2++[y],p6,c6),⟨hlt2,by simp only;rw[ho2,List.take_add_one,hy,List.append_assoc];rfl,hNI.step hy hfm hno hlen fun u _ hu=>by rw[hy0] at hu;obtain rfl:=Option.some.inj hu;exact hbf⟩,by simp only;omega,rfl,by simp[getE,bnd,keepE,wrap_succ (show k+1≤9223372036854775807 by omega)],⟨_,by simp only[row_snoc,List.length_append,List.length_singleton];rfl⟩,by simp[Own.bnd,bndL,bnd],by simp⟩
           ·
            have hk0:k=0:=by have:¬ (0:Int)<(k:Int):=(by simpa using hc);omega
            refine W.skip (k30 _ ?_)
            refine W.region ?_
            refine WO.go 4 dn ?_
            simp only[E,F,J,M,R,Tz,V,X,Y,reduceIte,G,H,sz]
            refine WO.elem (y:=y) hwr (by simp[St.put]) dn rfl rfl (by simp[St.put]) (fun _=>rfl) rfl rfl rfl rfl rfl el58 agg62 sz62 (.inl rfl) (by omega) (hy) fun p ces hces=>?_
            have hces:ces=wtV y:=hces
            subst hces
            simp only[wtV,ofCells,if_true,List.toList_toArray,sr]
            refine WO.go 1 dn ?_
            simp only[E,F,J,M,R,Tz,V,X,Y,reduceIte,G,H,sz]
            refine WO.append (k:=2) (m:=1) (wtV y) dn rfl rfl rfl rfl rfl rfl ek58 (news_own (k2:=4) rfl fun _=>rfl) rfl (by simp[wtV,Value.oneCell']) (by rw[maxLen_eq];omega) (by omega) fun p6 c6=>?_
            refine WO.go 1 dn ?_
            simp only[E,F,J,M,R,Tz,V,X,Y,reduceIte,G,H,sz]
            refine WO.nil ?_
            refine k24 _ ?_
            refine W.region ?_
            refine WO.go 3 dn ?_
            simp only[E,F,J,M,R,Tz,V,X,Y,reduceIte,G,H,sz]
            refine WO.nil ?_
            refine⟨(k+1,o2++[y],p6,c6),⟨hlt2,by simp only;rw[ho2,List.take_add_one,hy,List.append_assoc];rfl,hNI.step hy hfm hno hlen fun u h0=>by omega⟩,by simp only;omega,rfl,by simp[getE,bnd,keepE,wrap_succ (show k+1≤9223372036854775807 by omega)],⟨_,by simp only[row_snoc,List.length_append,List.length_singleton];rfl⟩,by simp[Own.bnd,bndL,bnd],by simp⟩
        ·
         have hkm:k=m.notes.length:=Nat.le_antisymm hk (by simpa using hc)
         subst hkm
         refine W.exit (k15 _ ?_)
         refine W.region ?_
         refine WO.go 3 dn ?_
         simp only[E,F,J,M,R,Tz,V,X,Y,reduceIte,G,H,sz]
         refine WO.nil ?_
         refine⟨(i+1,o2,pr,cr),⟨hlt,by simp only;rw[ho2,List.take_length,hout,allW_step hm],hVI.step hm hb9 hok (by rw[← hout];exact hNI)⟩,by simp only;omega,rfl,by simp[getE,bnd,keepE,wrap_succ (show i+1≤9223372036854775807 by omega)],⟨_,rfl⟩,by simp[Own.bnd,bndL,bnd],by simp⟩
     ·
      have hge:s.bars.length≤i:=by simpa using hc
      refine W.exit (k11 _ ?_)
      refine W.pure dn fun K35 k35=>?_
      simp only[E,F,J,M,R,Tz,V,X,Y,reduceIte,G,H,sz];refine k35 _ ?_
      refine W.ret ⟨by simp,_,rfl,fun ρ w1 hb=>?_⟩
      exact⟨true,rfl,fun _=>hVI.done hsc hml (List.mem_of_getElem? hk2) hk3 hge⟩
end Go.Proofs.YtolmeekbjonbcaaGreatDoor
namespace Go.SX
open Go Go.RowKit
variable [Drw]
section
variable {P:Program} {ops:Array Oper} {md:Region.Mode} {C:World→Prop} {Q:Exit→Act→World→Prop}
def wpAnyC (P:Program) (md:Region.Mode) (ops:Array Oper) (C:World→Prop) (Q:Exit→Act→World→Prop):Nat→Array Bool→Act→World→Prop
 | 0,listed,a,w=>Region.ready md ops listed=[]∧Q .normal a w
 |
  fuel+1,listed,a,w=>
  (Region.ready md ops listed=[]→Q .normal a w) ∧
  ∀ i∈Region.ready md ops listed,wpOp P ops Q i (fun a' w'=>C w'∧wpAnyC P md ops C Q fuel (listed.setIfInBounds i true) a' w') a w
theorem wpAny_of_C:∀ (fuel:Nat) (listed:Array Bool) (a:Act) (w:World),wpAnyC P md ops C Q fuel listed a w→wpAny P md ops Q fuel listed a w
 | 0,_,_,_,h=>h
 | fuel+1,listed,a,w,h=>⟨h.1,fun i hi=>wpOp_mono (fun a' w' h'=>wpAny_of_C fuel _ a' w' h'.2) (h.2 i hi)⟩
def YieldsC (P:Program) (ops:Array Oper) (C:World→Prop) (o:Oper) (v:Value) (a:Act):Prop:=
 Region.wanted o (yielded ops a.tmps)=true∧∀ w,C w→(execOp a.eval o).run P w=.ok (.value v) w
theorem YieldsC.of_same {o:Oper} {v:Value} {a a':Act} (hy:YieldsC P ops C o v a) (he:execOp a'.eval o=execOp a.eval o)
  (hw:Region.wanted o (yielded ops a'.tmps)=Region.wanted o (yielded ops a.tmps)):YieldsC P ops C o v a':=by
 unfold YieldsC at *
 rw[he,hw]
 exact hy
theorem YieldsC.wpOp {i:Nat} {o:Oper} {v:Value} {a:Act} {w:World} (hi:ops[i]?=some o) (hy:YieldsC P ops C o v a) (hC:C w) {K:Act→World→Prop} (h:K (a.put o.dst v) w):wpOp P ops Q i K a w:=by
 unfold Go.wpOp
 simp only[hi]
 simp only[hy.1,if_true,Oper.wp,hy.2 w hC,Oper.upon];exact .inl h
theorem wpOp_putC {j:Nat} {oi oj:Oper} {v:Value} (hj:ops[j]?=some oj) (hap:oi.apart ops oj=true)
  (hsi:∀ cs b,oi.op≠.select cs b) (hsj:∀ cs b,oj.op≠.select cs b)
  (hQ:∀ c a w,Q (.panic c) (a.put oi.dst v) w→Q (.panic c) a w) {K:Act→World→Prop} {a:Act} {w:World}
  (hy:YieldsC P ops C oi v a) (h:wpOp P ops Q j K (a.put oi.dst v) w) :
  wpOp P ops Q j (fun a' w'=>YieldsC P ops C oi v a'∧K (a'.put oi.dst v) w') a w:=by
 obtain⟨h1,h2,h3⟩:=Oper.apart_spec hap
 have keep:∀ (a:Act),YieldsC P ops C oi v a→∀ u,YieldsC P ops C oi v (a.put oj.dst u):=fun a hy u=>
  hy.of_same (execOp_put oi hsi a oj.dst u h3) (wanted_put oi a oj.dst u h3)
 have keepD:∀ d,YieldsC P ops C oi v { a with defers:=d::a.defers }:=fun d=>hy.of_same rfl rfl
 unfold wpOp at *
 simp only[hj] at *
 rw[wanted_put oj a oi.dst v h1] at h
 split
 ·
  rename_i hw
  simp only[hw,if_true] at h
  rcases h with h | ⟨hasks,hlets⟩
  case inr=>exact .inr ⟨by unfold Oper.asks at *;rw[execOp_put oj hsj a oi.dst v h1] at hasks;exact hasks,hlets⟩
  refine .inl ?_
  unfold Oper.wp at *
  rw[execOp_put oj hsj a oi.dst v h1] at h
  generalize (execOp a.eval oj).run P w=r at *
  cases r with
  |
   ok n w'=>
   cases n<;>simp only[Oper.upon] at h ⊢
   case value u=>exact⟨keep a hy u,by rw[← Act.put_comm a v u h2];exact h⟩
   case skip=>exact⟨keep a hy _,by rw[← Act.put_comm a v undef h2];exact h⟩
   case defer d=>
    refine⟨keep _ (keepD d) _,?_⟩
    rw[← Act.put_comm _ v undef h2,← Act.put_defers]
    exact h
   case enter f args=>
    refine Calls.mono h fun e w'' he=>?_
    cases e with
    | returned u=>exact⟨keep a hy u,by rw[← Act.put_comm a v u h2];exact he⟩
    | panicked c=>exact hQ _ _ _ he
    | outgrown=>exact he
   case row row args=>exact Rows.mono h fun u w'' he=>⟨keep a hy u,by rw[← Act.put_comm a v u h2];exact he⟩
  |
   halt x w'=>
   cases x<;>simp only[Oper.upon] at h ⊢
   case panic u=>exact hQ _ _ _ h
 ·
  rename_i hw
  simp only[hw] at h
  exact⟨keep a hy _,by rw[← Act.put_comm a v undef h2];exact h⟩
theorem wpAnyC_first {i:Nat} {oi:Oper} {v:Value} (hi:ops[i]?=some oi) (hsel:∀ (j:Nat) (o:Oper) cs b,ops[j]?=some o→o.op≠.select cs b)
  (hQ:∀ c a w,¬ Q (.panic c) a w) :
  ∀
   (fuel:Nat) (listed:Array Bool) (a:Act) (w:World),C w →
   (∀ j oj,ops[j]?=some oj→j≠i→listed.getD j true=false→(∀ e∈oj.after,Region.binds md e=true→e.on≠i)→oi.apart ops oj=true) →
   i∈Region.ready md ops listed→YieldsC P ops C oi v a →
   wpAnyC P md ops C Q fuel (listed.setIfInBounds i true) (a.put oi.dst v) w→wpAnyC P md ops C Q (fuel+1) listed a w:=by
 intro fuel
 induction fuel with
 |
  zero=>
  intro listed a w hC _ hr hy H
  refine⟨fun h=>(by rw[h] at hr;cases hr),fun j hj=>?_⟩
  by_cases hji:j=i
  · subst hji;exact hy.wpOp hi hC ⟨hC,H⟩
  ·
   have:=ready_mono hj hji
   rw[H.1] at this
   cases this
 |
  succ fuel ih=>
  intro listed a w hC hfree hr hy H
  refine⟨fun h=>(by rw[h] at hr;cases hr),fun j hj=>?_⟩
  by_cases hji:j=i
  · subst hji;exact hy.wpOp hi hC ⟨hC,H⟩
  ·
   have h1:=H.2 j (ready_mono hj hji)
   obtain⟨hjun,oj,hoj,hall⟩:=mem_ready.1 hj
   have hnot:∀ e∈oj.after,Region.binds md e=true→e.on≠i:=fun e he hb heq=>by
    have h1:=hall e he hb
    have h0:=(mem_ready.1 hr).1
    rw[heq] at h1
    rcases Nat.lt_or_ge i listed.size with h' | h'
    · simp[h'] at h0 h1;rw[h0] at h1;cases h1
    · simp[Array.getElem?_eq_none h'] at h1
   have h2:=wpOp_putC hoj (hfree j oj hoj hji hjun hnot) (fun cs b=>hsel i oi cs b hi) (fun cs b=>hsel j oj cs b hoj) (fun c a w h=>absurd h (hQ c _ w)) hy h1
   have hfree':∀ k ok,ops[k]?=some ok→k≠i→(listed.setIfInBounds j true).getD k true=false →
     (∀ e∈ok.after,Region.binds md e=true→e.on≠i)→oi.apart ops ok=true:=fun k ok hk hki hun hno=>by
    refine hfree k ok hk hki ?_ hno
    by_cases hjk:j=k
    · subst hjk;exact hjun
    · rw[getD_set_ne true hjk] at hun;exact hun
   refine wpOp_mono (fun a' w' h3=>⟨h3.2.1,ih (listed.setIfInBounds j true) a' w' h3.2.1 hfree' (ready_mono hr (Ne.symm hji)) h3.1 ?_⟩) h2
   rw[Array.setIfInBounds_comm _ _ hji]
   exact h3.2.2
def floatB (md:Region.Mode) (ops:Array Oper):List Nat→Array Bool→Bool
 | [],_=>true
 | k::T,listed=>(Region.ready md ops listed).contains k && Region.free md ops listed k && floatB md ops T (listed.setIfInBounds k true)
def chainR (md:Region.Mode) (ops:Array Oper):List Nat→Array Bool→Bool
 | [],listed=>Region.ready md ops listed == []
 | k::T,listed=>Region.ready md ops listed == [k] && chainR md ops T (listed.setIfInBounds k true)
theorem upon_monoE {o:Oper} {a:Act} {next next':Act→World→Prop} {Q Q':Exit→Act→World→Prop} (hn:∀ a w,next a w→next' a w) (hE:∀ e a w,e≠.normal→Q e a w→Q' e a w) :
  ∀ (r:Result Next),o.upon P a next Q r→o.upon P a next' Q' r:=by
 intro r h
 cases r with
 |
  ok n w'=>
  cases n<;>simp only[Oper.upon] at h ⊢
  case value=>exact hn _ _ h
  case skip=>exact hn _ _ h
  case defer=>exact hn _ _ h
  case enter f args=>
   refine Calls.mono h fun e w'' he=>?_
   cases e with
   | returned u=>exact hn _ _ he
   | panicked c=>exact hE _ _ _ (by simp) he
   | outgrown=>obtain⟨a,w,he⟩:=he;exact⟨a,w,hE _ _ _ (by simp) he⟩
  case row row args=>exact Rows.mono h fun u w'' he=>hn _ _ he
 |
  halt x w'=>
  cases x<;>simp only[Oper.upon] at h ⊢
  case panic u=>exact hE _ _ _ (by simp) h
end
section
variable {P:Program} {ops:Array Oper} {Q:Exit→St→Prop} {o:Oper} {rest:List Oper} {σ:St} {ds:List (Option Nat)}
def keptL:List Own→List Own→Prop
 | [],_=>True
 | .dead::l,_::own=>keptL l own
 | o::l,o'::own=>o=o'∧keptL l own
 | _::_,[]=>False
theorem keptL_get:∀ {T own:List Own},keptL T own→∀ (k:Nat) (o:Own),T[k]?=some o→o=.dead∨own[k]?=some o
 | [],_,_,k,o,h=>by simp at h
 | x::T,[],hk,k,o,h=>by cases x<;>exact hk.elim
 |
  x::T,y::own,hk,0,o,h=>by
  simp only[List.getElem?_cons_zero,Option.some.injEq] at h ⊢
  subst h
  cases x with
  | dead=>exact .inl rfl
  | cells=>exact .inr hk.1.symm
  | slice=>exact .inr hk.1.symm
  | map=>exact .inr hk.1.symm
 |
  x::T,y::own,hk,k+1,o,h=>by
  have:keptL T own:=by cases x<;>first | exact hk | exact hk.2
  simpa using keptL_get this k o (by simpa using h)
def CF (T:List Own) (sn:List ((Nat→Prop)×World)) (w:World):Prop:=Base (fun _=>0) ⟨0,[],T,sn,[]⟩ w
theorem CF.of {ρ:Nat→Nat} {w:World} {T:List Own} {sn:List ((Nat→Prop)×World)} (hb:Base ρ σ w) (hT:keptL T σ.own) (hf:T.all freeO=true) (hsn:∀ p,p∈sn→p∈σ.snaps):CF T sn w:=by
 have hfk:∀ (k:Nat) (o:Own),T[k]?=some o→freeO o=true:=fun k o hk=>List.all_eq_true.1 hf o (List.mem_of_getElem? hk)
 refine⟨fun k o hk ρ' _=>?_,fun i j oi oj b hi hj hni hnj=>?_,fun p hp=>⟨(hb.keep p (hsn p hp)).1,fun k o b hk hn hS=>?_⟩⟩
 ·
  rcases keptL_get hT k o hk with rfl | h
  · trivial
  · exact freeO_holds (hfk k o hk) (hb.own k o h ρ (Agree.refl _ _))
 ·
  rcases keptL_get hT i oi hi with rfl | h
  · cases hni
  ·
   rcases keptL_get hT j oj hj with rfl | h'
   · cases hnj
   · exact hb.apart i j oi oj b h h' (by rw[freeO_num (hfk i oi hi) ρ (fun _=>0) i i];exact hni) (by rw[freeO_num (hfk j oj hj) ρ (fun _=>0) j j];exact hnj)
 ·
  rcases keptL_get hT k o hk with rfl | h
  · cases hn
  · exact(hb.keep p (hsn p hp)).2 k o b h (by rw[freeO_num (hfk k o hk) ρ (fun _=>0) k k];exact hn) hS
theorem CF.base {ρ:Nat→Nat} {w:World} {T:List Own} {sn:List ((Nat→Prop)×World)} {n:Nat} {e:List (Nat×SV)} {F:List Dm} (h:CF T sn w) (hf:T.all freeO=true):Base ρ ⟨n,e,T,sn,F⟩ w:=
 (Base.free (σ:=⟨0,[],T,sn,[]⟩) (ρ':=ρ) h (fun o ho=>List.all_eq_true.1 hf o ho)).same rfl rfl
def WF (P:Program) (K:St→Prop):List Oper→St→Prop
 | [],σ=>K σ
 | o::l,σ=>o.guard=none∧dOk σ o.dst=true∧∃ s,QR P o σ s∧WF P K l (σ.put o.dst s)
theorem WF.nil {K:St→Prop} (h:K σ):WF P K [] σ:=h
theorem WF.q {K:St→Prop} {s:SV} (hg:o.guard=none) (hd:dOk σ o.dst=true) (h:QR P o σ s) (k:WF P K rest (σ.put o.dst s)):WF P K (o::rest) σ:=⟨hg,hd,s,h,k⟩
theorem WF.go {K:St→Prop} (hg:o.guard=none) (hd:dOk σ o.dst=true) (hm:isMem o.op=false) (h:RunP (step P σ (some 0) o.op) fun s=>WF P K rest (σ.put o.dst s)):WF P K (o::rest) σ:=by
 cases hst:step P σ (some 0) o.op with
 | none=>rw[hst] at h;exact h.elim
 |
  some σ'=>
  rw[hst] at h
  obtain⟨s,h1,h2,rfl⟩:=step_opv hm hst
  refine⟨hg,hd,s,fun ρ a w hs=>?_,h⟩
  obtain⟨v,h3,h4⟩:=opv_sound hs h1
  exact⟨v,h3,h4⟩
def WC (P:Program) (ops:Array Oper) (Q:Exit→St→Prop) (T:List Own) (sn:List ((Nat→Prop)×World)):List Oper→St→Prop
 | [],σ=>Q .normal σ
 |
  o::l,σ=>WO P ops (fun e σ'=>match e with
  | .normal=>keptL T σ'.own∧(∀ p,p∈sn→p∈σ'.snaps)∧WC P ops Q T sn l σ'
  | e=>Q e σ') [o] σ
theorem WC.sound {T:List Own} {sn:List ((Nat→Prop)×World)} (hf:T.all freeO=true):∀ (R:List Nat) (listed:Array Bool) (fuel:Nat) (ρ:Nat→Nat) (σ:St) (a:Act) (w:World),R.length=fuel→chainR .any ops R listed=true→(∀ i,i∈R→i<ops.size) →
  WC P ops Q T sn (pickL ops R) σ→Sat ρ σ a w→wpAnyC P .any ops (CF T sn) (lift Q) fuel listed a w
 |
  [],listed,fuel,ρ,σ,a,w,hfu,hc,_,h,hs=>by
  subst hfu
  exact⟨by simpa [chainR] using hc,ρ,σ,hs,h⟩
 |
  k::R,listed,fuel,ρ,σ,a,w,hfu,hc,hlt,h,hs=>by
  subst hfu
  simp only[chainR,Bool.and_eq_true,beq_iff_eq] at hc
  obtain⟨hr,hc⟩:=hc
  have hk:=hlt k List.mem_cons_self
  have ho:ops[k]?=some ops[k]:=Array.getElem?_eq_getElem hk
  have hp:pickL ops (k::R)=ops[k]::pickL ops R:=by simp[pickL,ho]
  rw[hp] at h
  refine⟨fun h0=>(by rw[hr] at h0;cases h0),fun i hi=>?_⟩
  rw[hr,List.mem_singleton] at hi
  subst hi
  have h1:=h ρ a w hs
  simp only[wpList] at h1
  unfold wpOp
  simp only[ho]
  have next:∀ a' w',lift (fun e σ'=>match e with
    | .normal=>keptL T σ'.own∧(∀ p,p∈sn→p∈σ'.snaps)∧WC P ops Q T sn (pickL ops R) σ'
    | e=>Q e σ') .normal a' w'→CF T sn w'∧wpAnyC P .any ops (CF T sn) (lift Q) R.length (listed.setIfInBounds i true) a' w':=fun a' w' ⟨ρ',σ',hs',g1,g2,g3⟩=>
   ⟨CF.of hs'.base g1 hf g2,WC.sound hf R _ _ ρ' σ' a' w' rfl hc (fun j hj=>hlt j (List.mem_cons_of_mem _ hj)) g3 hs'⟩
  have exits:∀ e a' w',e≠.normal→lift (fun e σ'=>match e with
    | .normal=>keptL T σ'.own∧(∀ p,p∈sn→p∈σ'.snaps)∧WC P ops Q T sn (pickL ops R) σ'
    | e=>Q e σ') e a' w'→lift Q e a' w':=fun e a' w' hne ⟨ρ',σ',hs',g⟩=>⟨ρ',σ',hs',by cases e<;>first | exact absurd rfl hne | exact g⟩
  split
  ·
   rename_i hw
   rw[if_pos hw] at h1
   rcases h1 with h1 | ⟨h1,a9,w9,h2⟩
   · exact .inl (upon_monoE next exits _ h1)
   · exact .inr ⟨h1,a9,w9,exits _ _ _ (by simp) h2⟩
  ·
   rename_i hw
   rw[if_neg hw] at h1
   exact next _ _ h1
theorem WF.sound {T:List Own} {sn:List ((Nat→Prop)×World)} (hf:T.all freeO=true) {Q':Exit→Act→World→Prop} {K:St→Prop} (hsel:Region.noSelect ops=true) (hQ:∀ c a w,¬ Q' (.panic c) a w) (ρ:Nat→Nat) (w:World) (hC:CF T sn w) :
  ∀
   (F:List Nat) (listed:Array Bool) (fuel:Nat) (σ:St) (a:Act),floatB .any ops F listed=true→(∀ i,i∈F→i<ops.size)→σ.own=T→σ.snaps=sn→SatE ρ σ a→WF P K (pickL ops F) σ →
   (∀ σ' a',SatE ρ σ' a'→σ'.own=T→σ'.snaps=sn→(σ'.n,σ'.dfs)=(σ.n,σ.dfs)→K σ'→wpAnyC P .any ops (CF T sn) Q' fuel (markL F listed) a' w)→wpAnyC P .any ops (CF T sn) Q' (F.length+fuel) listed a w
 |
  [],listed,fuel,σ,a,_,_,ho,hsn,hs,h,hk=>by
  rw[List.length_nil,Nat.zero_add];exact hk σ a hs ho hsn rfl h
 |
  k::F,listed,fuel,σ,a,hB,hlt,ho,hsn,hs,h,hk=>by
  simp only[floatB,Bool.and_eq_true] at hB
  obtain⟨⟨hr,hfr⟩,hB⟩:=hB
  have hkl:=hlt k List.mem_cons_self
  have hok:ops[k]?=some ops[k]:=Array.getElem?_eq_getElem hkl
  have hp:pickL ops (k::F)=ops[k]::pickL ops F:=by simp[pickL,hok]
  rw[hp] at h
  obtain⟨hg,hd,s,hq,hrest⟩:=h
  have hbase:∀ w',CF T sn w'→Base ρ σ w':=fun w' hw'=>(CF.base (n:=σ.n) (e:=σ.env) (F:=σ.dfs) hw' hf).same ho hsn
  have hy:YieldsC P ops (CF T sn) ops[k] (den ρ s) a:=by
   refine⟨by simp[Region.wanted,hg],fun w' hw'=>?_⟩
   obtain⟨v,h1,h2⟩:=hq ρ a w' (hs.sat (hbase w' hw'))
   rw[h1,h2 ρ (Agree.refl _ _)]
  obtain⟨v0,g1,g2⟩:=hq ρ a w (hs.sat (hbase w hC))
  have hs':SatE ρ (σ.put ops[k].dst s) (a.put ops[k].dst (den ρ s)):=((hs.sat (hbase w hC)).put _ s _ (dOk_lt hd) fun ρ' hρ=>by rw[← g2 ρ (Agree.refl _ _),g2 ρ' hρ]).e
  rw[List.length_cons,show F.length+1+fuel=(F.length+fuel)+1 by omega]
  refine wpAnyC_first hok (Region.noSelect_spec hsel) hQ _ _ _ _ hC (Region.free_spec hok hfr) (by simpa using hr) hy ?_
  refine WF.sound hf hsel hQ ρ w hC F _ fuel (σ.put ops[k].dst s) _ hB (fun i hi=>hlt i (List.mem_cons_of_mem _ hi)) (by cases hdd:ops[k].dst<;>simpa [hdd,St.put] using ho) (by cases hdd:ops[k].dst<;>simpa [hdd,St.put] using hsn) hs' hrest fun σ' a' e1 e2 e3 e4 e5=>hk σ' a' e1 e2 e3 (by rw[e4];cases hdd:ops[k].dst<;>rfl) e5
def floatOK (ops:Array Oper) (F R:List Nat):Bool:=
 Region.noSelect ops && decide (F.length+R.length=ops.size) && F.all (fun i=>decide (i<ops.size)) && R.all (fun i=>decide (i<ops.size)) && floatB .any ops F (Array.replicate ops.size false) && chainR .any ops R (markL F (Array.replicate ops.size false))
theorem W.regionF {id:Nat} (F R:List Nat) (T:List Own) (hm:P.follows .mixedOrders=true) (hB:floatOK ops F R=true) (hf:T.all freeO=true) (hT:keptL T σ.own) (hlen:T.length=σ.own.length) (hQ:∀ c σ,¬ Q (.panic c) σ)
  (h:WF P (fun σ1=>WC P ops Q T σ.snaps (pickL ops R) ⟨σ.n,σ1.env,σ.own,σ.snaps,σ.dfs⟩) (pickL ops F) ⟨σ.n,σ.env,T,σ.snaps,σ.dfs⟩):W P (.region id ops true) Q σ:=fun ρ a w hs=>by
 simp only[floatOK,Bool.and_eq_true,decide_eq_true_eq,List.all_eq_true] at hB
 obtain⟨⟨⟨⟨⟨hsel,hsz⟩,hFl⟩,hRl⟩,hFB⟩,hRB⟩:=hB
 refine of_wp (wp_region_any hm ?_)
 have hs':Sat ρ σ a { w with drawn:=w.drawn+1 }:=hs.below (below_drew w)
 have hC:CF T σ.snaps { w with drawn:=w.drawn+1 }:=CF.of hs'.base hT hf fun _ h=>h
 rw[← hsz]
 refine wpAny_of_C _ _ _ _ (WF.sound hf hsel (fun c a w ⟨_,σ',_,h⟩=>hQ c σ' h) ρ _ hC F _ R.length ⟨σ.n,σ.env,T,σ.snaps,σ.dfs⟩ a (by rw[hsz];exact hFB) hFl rfl rfl ⟨hs'.size,hs'.defers,fun i s hi=>⟨(hs'.env i s hi).1,fun ρ' hρ=>(hs'.env i s hi).2 ρ' (by rw[← hlen];exact hρ)⟩⟩ h ?_)
 intro σ1 a1 e1 e2 e3 e4 hk
 refine WC.sound hf R _ _ ρ ⟨σ.n,σ1.env,σ.own,σ.snaps,σ.dfs⟩ a1 _ rfl (by rw[hsz];exact hRB) hRl hk ⟨?_,?_,fun i s hi=>?_,hs'.base.same rfl rfl⟩
 · have:=e1.size;simp only[Prod.mk.injEq] at e4;rw[this];exact e4.1
 · have:=e1.defers;simp only[Prod.mk.injEq] at e4;rw[this,e4.2]
 ·
  obtain⟨g1,g2⟩:=e1.env i s hi
  simp only[Prod.mk.injEq] at e4
  exact⟨by rw[← e4.1];exact g1,fun ρ' hρ=>g2 ρ' (by rw[e2,hlen];exact hρ)⟩
theorem WC.one {T:List Own} {sn:List ((Nat→Prop)×World)} (h:WO P ops (fun e σ'=>match e with
  | .normal=>keptL T σ'.own∧(∀ p,p∈sn→p∈σ'.snaps)∧WC P ops Q T sn rest σ'
  | e=>Q e σ') [o] σ):WC P ops Q T sn (o::rest) σ:=h
theorem WC.next {T:List Own} {sn:List ((Nat→Prop)×World)} (h1:keptL T σ.own) (h2:∀ p,p∈sn→p∈σ.snaps) (h3:WC P ops Q T sn rest σ):WO P ops (fun e σ'=>match e with
  | .normal=>keptL T σ'.own∧(∀ p,p∈sn→p∈σ'.snaps)∧WC P ops Q T sn rest σ'
  | e=>Q e σ') [] σ:=WO.nil ⟨h1,h2,h3⟩
theorem WC.nil {T:List Own} {sn:List ((Nat→Prop)×World)} (h:Q .normal σ):WC P ops Q T sn [] σ:=h
end
section
variable {P:Program} {ops:Array Oper} {Q:Exit→St→Prop} {o:Oper} {rest:List Oper} {σ:St} {ds:List (Option Nat)}
def WV (P:Program) (ops:Array Oper) (Q:Exit→St→Prop) (T:List Own) (sn:List ((Nat→Prop)×World)):Nat→Array Bool→St→Prop
 | 0,listed,σ=>Region.ready .any ops listed=[]∧Q .normal σ
 |
  f+1,listed,σ=>Region.ready .any ops listed≠[]∧∀ i∈Region.ready .any ops listed,∃ o,ops[i]?=some o∧WO P ops (fun e σ'=>match e with
  | .normal=>keptL T σ'.own∧(∀ p,p∈sn→p∈σ'.snaps)∧WV P ops Q T sn f (listed.setIfInBounds i true) σ'
  | e=>Q e σ') [o] σ
theorem WV.sound {T:List Own} {sn:List ((Nat→Prop)×World)} (hf:T.all freeO=true):∀ (fuel:Nat) (listed:Array Bool) (ρ:Nat→Nat) (σ:St) (a:Act) (w:World),
  WV P ops Q T sn fuel listed σ→Sat ρ σ a w→wpAnyC P .any ops (CF T sn) (lift Q) fuel listed a w
 | 0,listed,ρ,σ,a,w,h,hs=>⟨h.1,ρ,σ,hs,h.2⟩
 |
  f+1,listed,ρ,σ,a,w,h,hs=>by
  refine⟨fun h0=>absurd h0 h.1,fun i hi=>?_⟩
  obtain⟨o,ho,h1⟩:=h.2 i hi
  have h1:=h1 ρ a w hs
  simp only[wpList] at h1
  unfold wpOp
  simp only[ho]
  have next:∀ a' w',lift (fun e σ'=>match e with
    | .normal=>keptL T σ'.own∧(∀ p,p∈sn→p∈σ'.snaps)∧WV P ops Q T sn f (listed.setIfInBounds i true) σ'
    | e=>Q e σ') .normal a' w'→CF T sn w'∧wpAnyC P .any ops (CF T sn) (lift Q) f (listed.setIfInBounds i true) a' w':=fun a' w' ⟨ρ',σ',hs',g1,g2,g3⟩=>
   ⟨CF.of hs'.base g1 hf g2,WV.sound hf f _ ρ' σ' a' w' g3 hs'⟩
  have exits:∀ e a' w',e≠.normal→lift (fun e σ'=>match e with
    | .normal=>keptL T σ'.own∧(∀ p,p∈sn→p∈σ'.snaps)∧WV P ops Q T sn f (listed.setIfInBounds i true) σ'
    | e=>Q e σ') e a' w'→lift Q e a' w':=fun e a' w' hne ⟨ρ',σ',hs',g⟩=>⟨ρ',σ',hs',by cases e<;>first | exact absurd rfl hne | exact g⟩
  split
  ·
   rename_i hw
   rw[if_pos hw] at h1
   rcases h1 with h1 | ⟨h1,a9,w9,h2⟩
   · exact .inl (upon_monoE next exits _ h1)
   · exact .inr ⟨h1,a9,w9,exits _ _ _ (by simp) h2⟩
  ·
   rename_i hw
   rw[if_neg hw] at h1
   exact next _ _ h1
def floatOK2 (ops:Array Oper) (F:List Nat) (m:Nat):Bool:=
 Region.noSelect ops && decide (F.length+m=ops.size) && F.all (fun i=>decide (i<ops.size)) && floatB .any ops F (Array.replicate ops.size false)
theorem W.regionV {id:Nat} (F:List Nat) (m:Nat) (T:List Own) (hm:P.follows .mixedOrders=true) (hB:floatOK2 ops F m=true) (hf:T.all freeO=true) (hT:keptL T σ.own) (hlen:T.length=σ.own.length) (hQ:∀ c σ,¬ Q (.panic c) σ)
  (h:WF P (fun σ1=>WV P ops Q T σ.snaps m (markL F (Array.replicate ops.size false)) ⟨σ.n,σ1.env,σ.own,σ.snaps,σ.dfs⟩) (pickL ops F) ⟨σ.n,σ.env,T,σ.snaps,σ.dfs⟩):W P (.region id ops true) Q σ:=fun ρ a w hs=>by
 simp only[floatOK2,Bool.and_eq_true,decide_eq_true_eq,List.all_eq_true] at hB
 obtain⟨⟨⟨hsel,hsz⟩,hFl⟩,hFB⟩:=hB
 refine of_wp (wp_region_any hm ?_)
 have hs':Sat ρ σ a { w with drawn:=w.drawn+1 }:=hs.below (below_drew w)
 have hC:CF T σ.snaps { w with drawn:=w.drawn+1 }:=CF.of hs'.base hT hf fun _ h=>h
 have key:wpAnyC P .any ops (CF T σ.snaps) (lift Q) (F.length+m) (Array.replicate ops.size false) a { w with drawn:=w.drawn+1 }:=by
  refine WF.sound hf hsel (fun c a w ⟨_,σ',_,h⟩=>hQ c σ' h) ρ _ hC F _ m ⟨σ.n,σ.env,T,σ.snaps,σ.dfs⟩ a hFB hFl rfl rfl ⟨hs'.size,hs'.defers,fun i s hi=>⟨(hs'.env i s hi).1,fun ρ' hρ=>(hs'.env i s hi).2 ρ' (by rw[← hlen];exact hρ)⟩⟩ h ?_
  intro σ1 a1 e1 e2 e3 e4 hk
  refine WV.sound hf _ _ ρ ⟨σ.n,σ1.env,σ.own,σ.snaps,σ.dfs⟩ a1 _ hk ⟨?_,?_,fun i s hi=>?_,hs'.base.same rfl rfl⟩
  · have:=e1.size;simp only[Prod.mk.injEq] at e4;rw[this];exact e4.1
  · have:=e1.defers;simp only[Prod.mk.injEq] at e4;rw[this,e4.2]
  ·
   obtain⟨g1,g2⟩:=e1.env i s hi
   simp only[Prod.mk.injEq] at e4
   exact⟨by rw[← e4.1];exact g1,fun ρ' hρ=>g2 ρ' (by rw[e2,hlen];exact hρ)⟩
 rw[hsz] at key
 exact wpAny_of_C _ _ _ _ key
variable {T:List Own} {sn:List ((Nat→Prop)×World)} {f:Nat} {listed:Array Bool}
abbrev QV (P:Program) (ops:Array Oper) (Q:Exit→St→Prop) (T:List Own) (sn:List ((Nat→Prop)×World)) (f:Nat) (listed:Array Bool) (i:Nat):Exit→St→Prop:=fun e σ'=>match e with
  | .normal=>keptL T σ'.own∧(∀ p,p∈sn→p∈σ'.snaps)∧WV P ops Q T sn f (listed.setIfInBounds i true) σ'
  | e=>Q e σ'
theorem WV.one (i:Nat) {oi:Oper} (hr:Region.ready .any ops listed=[i]) (hi:ops[i]?=some oi) (h:WO P ops (QV P ops Q T sn f listed i) [oi] σ):WV P ops Q T sn (f+1) listed σ:=
 ⟨by rw[hr];simp,fun k hk=>by rw[hr] at hk;simp at hk;subst hk;exact⟨oi,hi,h⟩⟩
theorem WV.two (i j:Nat) {oi oj:Oper} (hr:Region.ready .any ops listed=[i,j]) (hi:ops[i]?=some oi) (hj:ops[j]?=some oj) (h1:WO P ops (QV P ops Q T sn f listed i) [oi] σ) (h2:WO P ops (QV P ops Q T sn f listed j) [oj] σ):WV P ops Q T sn (f+1) listed σ:=
 ⟨by rw[hr];simp,fun k hk=>by
  rw[hr] at hk;simp at hk
  rcases hk with rfl | rfl
  · exact⟨oi,hi,h1⟩
  · exact⟨oj,hj,h2⟩⟩
theorem WV.next {i:Nat} (h1:keptL T σ.own) (h2:∀ p,p∈sn→p∈σ.snaps) (h3:WV P ops Q T sn f (listed.setIfInBounds i true) σ):WO P ops (QV P ops Q T sn f listed i) [] σ:=WO.nil ⟨h1,h2,h3⟩
theorem WV.nil (hr:Region.ready .any ops listed=[]) (h:Q .normal σ):WV P ops Q T sn 0 listed σ:=⟨hr,h⟩
def Sub (σ τ:St):Prop:=∀ ρ a w,Sat ρ σ a w→∃ ρ',Sat ρ' τ a w
theorem Sub.refl (σ:St):Sub σ σ:=fun ρ _ _ h=>⟨ρ,h⟩
theorem W.sub {rO:Option Nat} {c:Code} {τ:St} (h:Sub σ τ) (k:WR rO P c Q τ):WR rO P c Q σ:=fun ρ a w hs=>by
 obtain⟨ρ',h'⟩:=h ρ a w hs
 exact k ρ' a w h'
theorem getE_in:∀ {l:List (Nat×SV)} {i:Nat} {s:SV},getE l i=some s→(i,s)∈l
 | [],_,_,h=>by cases h
 |
  (j,x)::l,i,s,h=>by
  simp only[getE] at h
  split at h
  · rename_i he;subst he;obtain rfl:=Option.some.inj h;exact List.mem_cons_self
  · exact List.mem_cons_of_mem _ (getE_in h)
def renS (π:List Nat):SV→SV
 | .loc k off=>.loc (π.getD k 0) off
 | s=>s
def okS (m:Nat):SV→Bool
 | .val _=>true
 | .loc k _=>decide (k<m)
 | _=>false
def flatO:Own→Bool
 | .cells _ cs=>bndL 0 cs
 | _=>true
theorem Sub.permG {τ:St} (π:List Nat) (hn:τ.n=σ.n) (hd:τ.dfs=σ.dfs) (hsn:∀ p,p∈τ.snaps→p∈σ.snaps) (he:∀ i s,getE τ.env i=some s→okS τ.own.length s=true∧getE σ.env i=some (renS π s)) (hf:τ.own.all flatO=true) (hp:placed σ.own π τ.own) (hnd:π.Nodup):Sub σ τ:=fun ρ a w hs=>by
 obtain⟨hkl,hget⟩:=placed_get hp
 have hfk:∀ (k:Nat) (o:Own),τ.own[k]?=some o→flatO o=true:=fun k o hk=>List.all_eq_true.1 hf o (List.mem_of_getElem? hk)
 have hks:∀ (i:Nat) (o:Own),τ.own[i]?=some o→∃ k,π[i]?=some k∧π.getD i 0=k∧σ.own[k]?=some o:=fun i o h=>by
  have h1:=(List.getElem?_eq_some_iff.1 h).1
  have h2:π[i]?=some (π[i]'(by omega)):=List.getElem?_eq_getElem _
  exact⟨π[i]'(by omega),h2,by simp[List.getD_eq_getElem?_getD,h2],hget i _ o h2 h⟩
 have hnum:∀ (i k:Nat) (o:Own),π.getD i 0=k→o.num (fun k=>ρ (π.getD k 0)) i=o.num ρ k:=fun i k o h=>by subst h;cases o<;>rfl
 refine⟨fun k=>ρ (π.getD k 0),by rw[hs.size,hn],by rw[hs.defers,hd],fun i s h=>?_,⟨fun k o hk ρ' hρ=>?_,fun i j oi oj b h1 h2 h3 h4=>?_,fun p hpm=>⟨(hs.base.keep p (hsn p hpm)).1,fun k o b hk hnb hS=>?_⟩⟩⟩
 ·
  obtain⟨g1,g2⟩:=he _ _ h
  obtain⟨g3,g4⟩:=hs.env i _ g2
  refine⟨by rw[hn];exact g3,fun ρ' hρ=>?_⟩
  rw[g4 ρ (Agree.refl _ _)]
  cases s with
  | val x=>simp[renS,den]
  |
   loc k off=>
   simp only[okS,decide_eq_true_eq] at g1
   simp only[renS,den,hρ k g1]
  | lsl=>cases g1
  | agg=>cases g1
  | tup=>cases g1
  | fn=>cases g1
 ·
  obtain⟨k',_,h0,h1⟩:=hks k o hk
  have h2:=hs.base.own k' o h1 ρ (Agree.refl _ _)
  have hkl2:=(List.getElem?_eq_some_iff.1 hk).1
  cases o with
  |
   cells T cs=>
   have h3:=hfk k _ hk
   simp only[flatO] at h3
   simp only[Own.holds] at h2 ⊢
   rw[hρ k hkl2,denL_agree (m:=0) (ρ:=ρ) (fun i hi=>by omega) cs h3]
   show w.heap[ρ (π.getD k 0)]?=_
   rw[h0];exact h2
  | slice=>exact h2
  | map=>exact h2
  | dead=>trivial
 ·
  obtain⟨k,g1,g0,hk⟩:=hks i oi h1
  obtain⟨k',g2,g0',hk'⟩:=hks j oj h2
  have:=hs.base.apart k k' oi oj b hk hk' (by rw[← hnum i k oi g0];exact h3) (by rw[← hnum j k' oj g0'];exact h4)
  subst this
  exact(List.getElem?_inj (List.getElem?_eq_some_iff.1 g1).1 hnd).1 (g1.trans g2.symm)
 ·
  obtain⟨k',_,g0,h1⟩:=hks k o hk
  exact(hs.base.keep p (hsn p hpm)).2 k' o b h1 (by rw[← hnum k k' o g0];exact hnb) hS
end
section
variable {P:Program} {ops:Array Oper} {Q:Exit→St→Prop} {σ:St} {o:Oper} {rest:List Oper} {ds:List (Option Nat)}
def stayS (π:List Nat) (m:Nat):SV→Bool
 | .val _=>true
 | .loc k _=>decide (k<m) && decide (π.getD k 0=k)
 | _=>false
theorem Sub.own (π:List Nat) (own':List Own) (he:σ.env.all (fun p=>stayS π own'.length p.2)=true) (hf:own'.all flatO=true) (hp:placed σ.own π own') (hnd:π.Nodup):Sub σ ⟨σ.n,σ.env,own',σ.snaps,σ.dfs⟩:=
 Sub.permG (τ:=⟨σ.n,σ.env,own',σ.snaps,σ.dfs⟩) π rfl rfl (fun _ h=>h) (fun i s h=>by
  have h1:=List.all_eq_true.1 he _ (getE_in h)
  cases s with
  | val x=>exact⟨rfl,h⟩
  |
   loc k off=>
   simp only[stayS,Bool.and_eq_true,decide_eq_true_eq] at h1
   exact⟨decide_eq_true h1.1,by simp only[renS,h1.2];exact h⟩
  | lsl=>cases h1
  | agg=>cases h1
  | tup=>cases h1
  | fn=>cases h1) hf hp hnd
end
section
variable {P:Program} {ops:Array Oper} {Q:Exit→St→Prop} {σ:St} {o:Oper} {rest:List Oper} {ds:List (Option Nat)}
theorem QR.sliceNil {x:Operand} {t e t':TypeId} {a:Option Addr} {n c n' c':Nat} (hop:o.op=.binOp .eql t x (.const (.slice none n' c')) t') (hx:ev σ x=some (.val (.slice a n c))) (hu:P.underlying t=some (.slice e)):QR P o σ (.val (.bool a.isNone)):=fun ρ w s hs=>by
 refine⟨_,?_,fun _ _=>rfl⟩
 unfold execOp
 rw[hop]
 simp only[Sem.run_bind,hs.ev hx ρ (Agree.refl _ _),den]
 have e1:w.eval (Operand.const (Value.slice none n' c'))=.slice none n' c':=rfl
 have e2:(eqGuard BinOp.eql t x (Operand.const (Value.slice none n' c')) (Value.slice a n c) (.slice none n' c')).run P s=.ok () s:=rfl
 rw[e1,e2,Result.andThen_ok,Go.Lib.run_eql_slice_nil s t e a n c n' c' hu]
 rfl
theorem zeroCells_mem {z:Array Value} {m:Nat} (hp:0<z.size):∀ v,v∈(Builtin.zeroCells z m).toList→v∈z.toList:=fun v hv=>by
 simp only[Builtin.zeroCells,Array.toList_map,List.mem_map] at hv
 obtain⟨i,_,rfl⟩:=hv
 have h:i % z.size<z.size:=Nat.mod_lt _ hp
 rw[getElem!_pos z _ h]
 exact Array.mem_toList_iff.2 (Array.getElem_mem h)
theorem WO.clearRow {x:Operand} {t e T:TypeId} {k b n c m c' sz by' off:Nat} {zs xs:List Value} {q:Addr} (hk:nth σ.own k=some (.slice T sz (.slice (some ⟨b,0,none⟩) n c) n xs)) (hds:dsOk ds ops.toList=true) (hg:gd ds σ o.guard=some true) (hd:dOk σ o.dst=true)
  (hop:o.op=.call ⟨.builtin .clear,#[x],#[t]⟩) (hx:ev σ x=some (.val (.slice (some q) m c'))) (hq:q=(⟨b,off,none⟩:Addr)) (he:elemK P t=some (e,sz,by',zs)) (hz1:zs.all Value.oneCell'=true) (hm:0<m) (hoff:off+m*sz=n*sz)
  (h:∀ ys:List Value,ys.length=n*sz→ys.take off=xs.take off→WO P ops Q rest ((setOwn σ k (.slice T sz (.slice (some ⟨b,0,none⟩) n c) n ys)).put o.dst (.val (.tuple #[])))):WO P ops Q (o::rest) σ:=
 WO.one hds hg fun ρ a w hs=>by
  rw[nth_eq] at hk
  obtain⟨hu,i,z,hi,hz,hsz,hby,hzs,hpos,hzl⟩:=elemK_spec he
  have hown:=hs.base.own k _ hk ρ (Agree.refl _ _)
  simp only[Own.holds] at hown
  obtain⟨hxl,hown⟩:=hown
  rcases hown with⟨hv,hn0⟩ | ⟨g,cap,cur,hv,hbg,hcell,hnc,hcm,hcs,htake⟩
  · cases hv
  ·
   simp only[Value.slice.injEq,Option.some.injEq,Addr.mk.injEq] at hv
   obtain⟨⟨rfl,_⟩,_,rfl⟩:=hv
   have hle:n*sz≤cur.size:=by rw[hcs];exact Nat.mul_le_mul_right _ hnc
   obtain⟨vs,hvs⟩:∃ vs,(Builtin.zeroCells z.cells m).toList=vs:=⟨_,rfl⟩
   have hvl:vs.length=m*sz:=by rw[← hvs];simp[size_zeroCells,hzs]
   have h1:∀ v,v∈vs→v.oneCell'=true:=fun v hv=>by
    rw[← hvs] at hv
    have:=zeroCells_mem (by omega) v hv
    rw[hzl] at this
    exact List.all_eq_true.1 hz1 v this
   have hst:=run_storeCells_at P b off T vs 0 cur w hcell (by omega) h1
   have hrun:(Builtin.clear_ #[t] o.type #[.slice (some q) m c']).run P w=.ok (.tuple #[]) (w.setRow b (cur.toList.take off++vs++cur.toList.drop (off+vs.length)).toArray):=by
    obtain⟨m',rfl⟩:∃ m',m=m'+1:=⟨m - 1,by omega⟩
    rw[hq]
    simp[Builtin.clear_,run_underlying hu,zeroValue,typeInfo,hi,hz,hvs]
    have hst':(storeCells { block:=b,off:=off } vs).run P w=.ok () (w.setRow b (cur.toList.take off++vs++cur.toList.drop (off+vs.length)).toArray):=by simpa using hst
    rw[hst']
    simp
   have hgr:Grown w (w.setRow b (cur.toList.take off++vs++cur.toList.drop (off+vs.length)).toArray) (some b):=⟨rfl,rfl,rfl,by simp[World.setRow],fun j hj hne=>setRow_other w b j _ fun he=>hne (by rw[he]),DLe.refl _⟩
   have hcl:cur.toList.length=cur.size:=Array.length_toList
   refine⟨ρ,(setOwn σ k (.slice T sz (.slice (some ⟨b,0,none⟩) n c) n (xs.take off++vs))).put o.dst (.val (.tuple #[])),.tuple #[],_,.inl ?_,Sat.put (hs.turn (o':=.slice T sz (.slice (some ⟨b,0,none⟩) n c) n (xs.take off++vs)) hk (fun _ _ h=>by cases h) hgr ?_ (fun b' hb=>.inl hb)) _ _ _ ?_ (fun _ _=>rfl),h _ ?_ ?_⟩
   ·
    unfold execOp
    rw[hop]
    simp only[Sem.run_bind,resolve,List.map_toArray,List.map_cons,List.map_nil,Sem.run_pure,Result.andThen_ok,invoke,builtin]
    rw[hs.ev hx ρ (Agree.refl _ _)]
    simp only[den]
    rw[hrun]
    rfl
   ·
    have hot:off≤n*sz:=by omega
    refine⟨by simp[hxl,hvl];omega,.inr ⟨b,c,_,rfl,hbg,setRow_heap w b cur _ T _ hcell,hnc,hcm,?_,?_⟩⟩
    · simp;omega
    ·
     rw[← htake]
     show(cur.toList.take off++vs++cur.toList.drop (off+vs.length)).take (n*sz)=_
     rw[List.take_take,show min off (n*sz)=off by omega,List.take_left' (by simp;omega)]
   · intro j hj;exact dOk_lt (σ:=setOwn σ k _) (by rw[dOk_setOwn];exact hd) j hj
   · simp[hxl,hvl];omega
   · rw[List.take_left' (by simp[hxl];omega)]
theorem W.ownCap {rO:Option Nat} {cd:Code} {k T sz n c:Nat} {q:Option Addr} {xs:List Value} (hk:nth σ.own k=some (.slice T sz (.slice q n c) n xs)) (hn:0<n) (h:∀ b,q=some ⟨b,0,none⟩→n≤c→c≤maxLen→WR rO P cd Q σ):WR rO P cd Q σ:=fun ρ a w hs=>by
 have hown:=hs.base.own k _ (by rw[← nth_eq];exact hk) ρ (Agree.refl _ _)
 simp only[Own.holds] at hown
 rcases hown.2 with⟨hv,hn0⟩ | ⟨g,cap,cur,hv,hbg,hcell,hnc,hcm,hcs,htake⟩
 · omega
 ·
  simp only[Value.slice.injEq] at hv
  obtain⟨rfl,_,rfl⟩:=hv
  exact h g rfl hnc hcm ρ a w hs
end
section
variable {P:Program} {ops:Array Oper} {Q:Exit→St→Prop} {σ:St} {l:List Oper} {o:Oper} {rest:List Oper} {ds:List (Option Nat)}
theorem WI.fresh (kp:List Nat) (hb:((keepE σ.env kp).all fun p=>bnd 0 p.2)=true) (h:WI P ops Q l ⟨σ.n,keepE σ.env kp,[],σ.snaps,σ.dfs⟩):WI P ops Q l σ:=fun ρ a w hs=>
 h ρ a w (hs.le (σ':=⟨σ.n,keepE σ.env kp,[],σ.snaps,σ.dfs⟩) ⟨rfl,fun p hp=>⟨keepE_mem hp,List.all_eq_true.1 hb p hp⟩,⟨σ.own,rfl⟩,fun o ho=>(by cases ho),fun p hp=>hp⟩)
end
section
variable {P:Program} {ops:Array Oper} {Q:Exit→St→Prop} {σ:St} {l rest:List Oper} {o:Oper} {ds:List (Option Nat)}
def vmL:Nat→List (Int×Value)→List MapEntry
 | _,[]=>[]
 | i,k::ks=>⟨.int .i64 k.1,k.2,i⟩::vmL (i+1) ks
def vmE (ks:List (Int×Value)):Array MapEntry:=(vmL 0 ks).toArray
theorem vmL_append:∀ (ks:List (Int×Value)) (i:Nat) (k:Int×Value),vmL i (ks++[k])=vmL i ks++[⟨.int .i64 k.1,k.2,i+ks.length⟩]
 | [],i,k=>by simp[vmL]
 | x::ks,i,k=>by simp[vmL,vmL_append ks (i+1) k,Nat.add_assoc,Nat.add_comm 1]
theorem vmE_push (ks:List (Int×Value)) (k:Int) (v:Value):(vmE ks).push ⟨.int .i64 k,v,ks.length⟩=vmE (ks++[(k,v)]):=by
 apply Array.toList_inj.1
 simp[vmE,vmL_append]
def mapInt (P:Program) (t:TypeId):Bool:=
 match P.underlying t with
 |
  some (.map k _)=>match P.underlying k with
  | some (.int _)=>true
  | _=>false
 | _=>false
theorem mapInt_spec {t:TypeId} (h:mapInt P t=true):∃ k e kk,P.underlying t=some (.map k e)∧P.underlying k=some (.int kk):=by
 unfold mapInt at h
 split at h
 ·
  rename_i k e hu
  split at h
  ·
   rename_i kk h1
   exact⟨k,e,kk,hu,h1⟩
  · cases h
 · cases h
theorem findNow_vm (kk:IntKind) (x:Int):∀ (ks:List (Int×Value)) (i j:Nat),(Instr.findNow (.int kk) (.int .i64 x) (vmL i ks) j=some none∧x∉ks.map (·.1))∨(∃ n v,Instr.findNow (.int kk) (.int .i64 x) (vmL i ks) j=some (some (n,v))∧(x,v)∈ks)
 | [],i,j=>.inl ⟨rfl,by simp⟩
 |
  k::ks,i,j=>by
  by_cases h:x=k.1
  · exact .inr ⟨j,k.2,by simp[vmL,Instr.findNow,Instr.sameNow,h],by rw[h];simp⟩
  ·
   rcases findNow_vm kk x ks (i+1) (j+1) with⟨h1,h2⟩ | ⟨n,v,h1,h2⟩
   ·
    left
    refine⟨?_,by simp only[List.map_cons,List.mem_cons];exact fun hh=>hh.elim h h2⟩
    simp only[vmL,Instr.findNow,Instr.sameNow,if_true]
    have:(x == k.1)=false:=by simpa using h
    rw[this];exact h1
   ·
    right
    refine⟨n,v,?_,by simp[h2]⟩
    simp only[vmL,Instr.findNow,Instr.sameNow,if_true]
    have:(x == k.1)=false:=by simpa using h
    rw[this];exact h1
theorem WO.makeV {t:TypeId} (hds:dsOk ds ops.toList=true) (hg:gd ds σ o.guard=some true) (hd:dOk σ o.dst=true)
  (hop:o.op=.makeMap t none) (h:∀ r,WO P ops Q rest ((σ.pushO (.map r (vmE []) ([]:List (Int×Value)).length)).put o.dst (.val (.map (some r))))):WO P ops Q (o::rest) σ:=
 WO.makeSet hds hg hd hop h
theorem WO.addV {t:TypeId} {m x vo:Operand} {k r:Nat} {ks:List (Int×Value)} {y:Int} (v:Value) (hds:dsOk ds ops.toList=true) (hg:gd ds σ o.guard=some true) (hd:dOk σ o.dst=true)
  (hop:o.op=.mapUpdate t m x vo) (hk:nth σ.own k=some (.map r (vmE ks) ks.length)) (hm:ev σ m=some (.val (.map (some r)))) (hx:ev σ x=some (.val (.int .i64 y))) (hv:∃ s,ev σ vo=some s∧∀ ρ,den ρ s=v) (ht:mapInt P t=true)
  (hnew:y∉ks.map (·.1)) (h:WO P ops Q rest ((setOwn σ k (.map r (vmE (ks++[(y,v)])) (ks++[(y,v)]).length)).put o.dst (.val undef))):WO P ops Q (o::rest) σ:=
 WO.one hds hg fun ρ a w hs=>by
  rw[nth_eq] at hk
  have hown:=hs.base.own k _ hk ρ (Agree.refl _ _)
  simp only[Own.holds] at hown
  obtain⟨kt,et,kk,hu,hkk⟩:=mapInt_spec ht
  obtain⟨sv,hsv,hdv⟩:=hv
  have hlt:r<w.heap.size:=(Array.getElem?_eq_some_iff.1 hown).1
  have hget:(getObj r).run P w=.ok (.map (vmE ks) ks.length) w:=by simp[getObj,Sem.run,hown]
  have hgr:Grown w { w with heap:=w.heap.setIfInBounds r (.map (vmE (ks++[(y,v)])) (ks.length+1)) } (some r):=
   ⟨rfl,rfl,rfl,by simp,fun j hj hne=>by simp[Array.getElem?_setIfInBounds,show r≠j from fun e=>hne (by rw[e])],DLe.refl _⟩
  refine⟨ρ,_,undef,_,.inr ⟨?_,rfl⟩,Sat.put (hs.turn (o':=.map r (vmE (ks++[(y,v)])) (ks++[(y,v)]).length) hk (fun _ _ h=>by cases h) hgr ?_ (fun b hb=>.inl hb)) _ _ _ ?_ (fun _ _=>rfl),h⟩
  ·
   unfold execOp
   rw[hop]
   simp only[Sem.run_bind,hs.ev hm ρ (Agree.refl _ _),hs.ev hx ρ (Agree.refl _ _),hs.ev hsv ρ (Agree.refl _ _),hdv,den,Instr.mapUpdate,run_underlying hu,Result.andThen_ok]
   simp only[hget,Result.andThen_ok,Sem.run_bind,run_checkKey hkk,Instr.findKey,run_underlying hkk]
   rcases findNow_vm kk y ks 0 0 with⟨h1,h2⟩ | ⟨n,u,h1,h2⟩
   ·
    have hpush:(vmE ks).push { key:=Value.int IntKind.i64 y,val:=v,born:=ks.length }=vmE (ks++[(y,v)]):=vmE_push ks y v
    have hset:(setObj r (.map (vmE (ks++[(y,v)])) (ks.length+1))).run P w=.ok () { w with heap:=w.heap.setIfInBounds r (.map (vmE (ks++[(y,v)])) (ks.length+1)) }:=by simp[setObj,Sem.run,hown]
    have h1':Instr.findNow (TypeDesc.int kk) (Value.int IntKind.i64 y) (vmE ks).toList 0=some none:=h1
    rw[h1']
    simp only[Sem.run_pure,Result.andThen_ok,hpush,hset]
   · exact absurd (List.mem_map.2 ⟨_,h2,rfl⟩) hnew
  · simp[Own.holds,hlt]
  · intro j hj;exact dOk_lt (σ:=setOwn σ k _) (by rw[dOk_setOwn];exact hd) j hj
end
section
variable {P:Program} {ops:Array Oper} {Q:Exit→St→Prop} {σ:St} {l rest:List Oper} {o:Oper} {ds:List (Option Nat)}
def mapZ (P:Program) (t:TypeId):Option Value:=
 match P.underlying t with
 |
  some (.map k e)=>match P.underlying k with
  | some (.int _)=>(P.info? e).bind (·.zero)
  | _=>none
 | _=>none
theorem mapZ_spec {t:TypeId} {z:Value} (h:mapZ P t=some z):∃ k e kk i,P.underlying t=some (.map k e)∧P.underlying k=some (.int kk)∧P.info? e=some i∧i.zero=some z:=by
 unfold mapZ at h
 split at h
 ·
  rename_i k e hu
  split at h
  ·
   rename_i kk h1
   rw[Option.bind_eq_some_iff] at h
   obtain⟨i,h2,h3⟩:=h
   exact⟨k,e,kk,i,hu,h1,h2,h3⟩
  · cases h
 · cases h
def vmGet (ks:List (Int×Value)) (y:Int) (z:Value) (v:Value) (b:Bool):Prop:=(y∉ks.map (·.1)∧v=z∧b=false)∨((y∈ks.map (·.1))∧(∀ u,(y,u)∈ks→u=v)∧b=true)
theorem run_lookup {t:TypeId} {r:Nat} {ks:List (Int×Value)} {y:Int} {z v:Value} {b ok:Bool} {w:World} (ht:mapZ P t=some z) (hm:w.heap[r]?=some (.map (vmE ks) ks.length)) (hv:vmGet ks y z v b) :
  (Instr.lookup t (.map (some r)) (.int .i64 y) ok).run P w=.ok (if ok then .tuple #[v,.bool b] else v) w:=by
 obtain⟨kt,et,kk,i,hu,hkk,hi,hz⟩:=mapZ_spec ht
 have hget:(getObj r).run P w=.ok (.map (vmE ks) ks.length) w:=by simp[getObj,Sem.run,hm]
 have hzero:(zeroValue et).run P w=.ok z w:=by simp[zeroValue,typeInfo,hi,hz]
 simp only[Instr.lookup,Sem.run_bind,run_underlying hu,Result.andThen_ok,hget,Sem.run_pure,run_checkKey hkk,Instr.findKey,run_underlying hkk]
 rcases findNow_vm kk y ks 0 0 with⟨h1,h2⟩ | ⟨n,u,h1,h2⟩
 ·
  rcases hv with⟨_,rfl,rfl⟩ | ⟨h3,_⟩
  · cases ok<;>simp[vmE,h1,hzero]
  · exact absurd h3 h2
 ·
  rcases hv with⟨h3,_⟩ | ⟨_,h4,rfl⟩
  · exact absurd (List.mem_map.2 ⟨_,h2,rfl⟩) h3
  ·
   obtain rfl:=h4 u h2
   cases ok<;>simp[vmE,h1]
theorem QR.lookup {t:TypeId} {m x:Operand} {r:Nat} {ks:List (Int×Value)} {y:Int} (z v:Value) (b ok:Bool) (hop:o.op=.lookup t m x ok) (hm:ev σ m=some (.val (.map (some r)))) (hx:ev σ x=some (.val (.int .i64 y)))
  (hat:∀ ρ w,Base ρ σ w→w.heap[r]?=some (.map (vmE ks) ks.length)) (ht:mapZ P t=some z) (hv:vmGet ks y z v b):QR P o σ (.val (if ok then .tuple #[v,.bool b] else v)):=fun ρ a w hs=>by
 refine⟨_,?_,fun _ _=>rfl⟩
 unfold execOp
 rw[hop]
 simp only[hs.ev hm ρ (Agree.refl _ _),hs.ev hx ρ (Agree.refl _ _),den]
 rw[Sem.run_bind,run_lookup ht (hat ρ w hs.base) hv]
 rfl
def isMapT (P:Program) (t:TypeId):Bool:=match P.underlying t with
 | some (.map _ _)=>true
 | _=>false
theorem QR.lenMap {t:TypeId} {m:Operand} {r:Nat} {ks:List (Int×Value)} (hop:o.op=.call ⟨.builtin .len,#[m],#[t]⟩) (hm:ev σ m=some (.val (.map (some r)))) (hat:∀ ρ w,Base ρ σ w→w.heap[r]?=some (.map (vmE ks) ks.length)) (ht:isMapT P t=true):QR P o σ (.val (.int .i64 (ks.length:Int))):=fun ρ a w hs=>by
 refine⟨_,?_,fun _ _=>rfl⟩
 have hu:∃ k e,P.underlying t=some (.map k e):=by
  unfold isMapT at ht
  split at ht
  · rename_i k e h;exact⟨k,e,h⟩
  · cases ht
 obtain⟨k,e,hu⟩:=hu
 have hget:(getObj r).run P w=.ok (.map (vmE ks) ks.length) w:=by simp[getObj,Sem.run,hat ρ w hs.base]
 have hsz:∀ (l:List (Int×Value)) (i:Nat),(vmL i l).length=l.length:=fun l=>by
  induction l with
  | nil=>intro i;rfl
  | cons x l ih=>intro i;simp[vmL,ih]
 unfold execOp
 rw[hop]
 simp only[Sem.run_bind,resolve,List.map_toArray,List.map_cons,List.map_nil,Sem.run_pure,Result.andThen_ok,invoke,builtin,hs.ev hm ρ (Agree.refl _ _),den,Builtin.len_]
 simp[run_underlying hu,hget,goInt,vmE,hsz]
def kvOf {α:Type} (f:α→Int) (g:α→Value) (l:List α):List (Int×Value):=l.map fun x=>(f x,g x)
theorem kv_keys {α:Type} (f:α→Int) (g:α→Value) (l:List α):(kvOf f g l).map (·.1)=l.map f:=by simp[kvOf]
theorem kv_no {α:Type} {f:α→Int} {g:α→Value} {l:List α} {y:Int} {z:Value} (h:y∉l.map f):vmGet (kvOf f g l) y z z false:=.inl ⟨by rw[kv_keys];exact h,rfl,rfl⟩
theorem kv_yes {α:Type} {f:α→Int} {g:α→Value} {l:List α} {z:Value} {x:α} (hnd:(l.map f).Nodup) (h:x∈l):vmGet (kvOf f g l) (f x) z (g x) true:=by
 refine .inr ⟨by rw[kv_keys];exact List.mem_map.2 ⟨x,h,rfl⟩,fun u hu=>?_,rfl⟩
 obtain⟨x',h1,h2⟩:=List.mem_map.1 hu
 simp only[Prod.mk.injEq] at h2
 obtain⟨i,hi⟩:=List.mem_iff_getElem?.1 h
 obtain⟨j,hj⟩:=List.mem_iff_getElem?.1 h1
 have e1:(l.map f)[i]?=some (f x):=by rw[List.getElem?_map,hi];rfl
 have e2:(l.map f)[j]?=some (f x):=by rw[List.getElem?_map,hj,← h2.1];rfl
 have:=(List.getElem?_inj (List.getElem?_eq_some_iff.1 e1).1 hnd).1 (e1.trans e2.symm)
 subst this
 rw[hi] at hj
 obtain rfl:=Option.some.inj hj
 exact h2.2.symm
theorem kv_len {α:Type} (f:α→Int) (g:α→Value) (l:List α):(kvOf f g l).length=l.length:=by simp[kvOf]
theorem kv_snoc {α:Type} (f:α→Int) (g:α→Value) (l:List α) (x:α):kvOf f g (l++[x])=kvOf f g l++[(f x,g x)]:=by simp[kvOf]
theorem kv_take {α:Type} {f:α→Int} {g:α→Value} {l:List α} {i:Nat} {x:α} (h:l[i]?=some x):kvOf f g (l.take (i+1))=kvOf f g (l.take i)++[(f x,g x)]:=by rw[List.take_add_one,h];exact kv_snoc f g _ x
theorem kv_new {α:Type} {f:α→Int} {g:α→Value} {l:List α} {i:Nat} {x:α} (hnd:(l.map f).Nodup) (h:l[i]?=some x):f x∉(kvOf f g (l.take i)).map (·.1):=by
 rw[kv_keys]
 intro hm
 obtain⟨z,hz,he⟩:=List.mem_map.1 hm
 obtain⟨j,hj⟩:=List.mem_iff_getElem?.1 hz
 rw[List.getElem?_take] at hj
 split at hj
 ·
  rename_i hlt
  have e1:(l.map f)[i]?=some (f x):=by rw[List.getElem?_map,h];rfl
  have e2:(l.map f)[j]?=some (f x):=by rw[List.getElem?_map,hj,← he];rfl
  have:=(List.getElem?_inj (List.getElem?_eq_some_iff.1 e2).1 hnd).1 (e2.trans e1.symm)
  omega
 · cases hj
end
end Go.SX
