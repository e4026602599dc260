/-
  Written notes become notes of a score: walks.
-/
import Derived.Test.YtolmeekbjonbcaaGreatDoorC3
import Derived.Shelf.GgSortFunc.InsertionK
import Derived.Shelf.SlSortCmp.WholeK
import Derived.Shelf.SlSortCmp.NoneTotal
import Derived.Shelf.SlIterI.Nil
import Derived.Shelf.SortM.Plain
import Derived.Shelf.SortM.SortNone
import Derived.Ground.SlsfProg
import Derived.Ground.GgzProg
import Derived.Ground.SlgmProg
import Derived.Test.YtolmeekbjonbcaaGreatDoorProg
set_option linter.unusedVariables false
set_option linter.unusedSimpArgs false
set_option linter.unusedSectionVars false
set_option linter.defProp false
set_option linter.unnecessarySimpa false
set_option maxHeartbeats 4000000
set_option maxRecDepth 8000
namespace Go.Proofs.YtolmeekbjonbcaaGreatDoor
open Go Go.SX Go.RowKit
variable [Drw]
open Int renaming reduceEq → E, reduceLT → F, reduceBEq → G, reduceBNe → H, reduceNeg → Z1, reduceGT → Z2, reduceLE → Z3, reduceGE → Z4, reduceMul → Z5, reduceMod → Z6, reduceAdd → Z7, reduceTMod → Z8, reduceTDiv → Z9
open Nat renaming reduceAdd → J, reduceSub → M, reduceMul → R, reduceLT → Tz, reduceLeDiff → V, reduceEqDiff → X
open List renaming reduceReplicate → Y
structure NoteA (bars:List Br) (n:Nt):Prop where
 id:within 1 1000000 n.id=true
 part:within 1 1000000 n.part=true
 voice:within 0 9 n.voice=true
 ossia:within 0 20 n.ossia=true
 start:okT n.start=true
 len:0<tickF n.len
 bar:∃ b,b∈bars∧b.id=n.bar∧tickF n.start+tickF n.len≤tickF b.len
theorem NoteOk.a {bars:List Br} {n:Nt} (h:NoteOk bars n):NoteA bars n:=⟨h.id,h.part,h.voice,h.ossia,h.start,h.len,h.bar⟩
theorem NoteA.ok {bars:List Br} {n:Nt} (h:NoteA bars n) (hp:isNoteP n.pit=true):NoteOk bars n:=⟨hp,h.id,h.part,h.voice,h.ossia,h.start,h.len,h.bar⟩
theorem bar_short {b:Br} (h:BarOk b):b.len.1≠0∧¬ 24*b.len.2<b.len.1*1:=by
 have hok:=h.t
 have ht:=h.tick
 have hq:=okT_iff.1 hok
 have he:tickF b.len=b.len.1*(1680:Int).tdiv b.len.2:=if_pos hok
 rw[he] at ht
 have hqb:=quo_bound hq.1
 have hm:b.len.2*(1680:Int).tdiv b.len.2=1680:=by
  have:=Int.mul_tdiv_add_tmod 1680 b.len.2
  rw[hq.2.1] at this
  omega
 refine⟨fun h0=>?_,fun h1=>?_⟩
 · rw[h0,Int.zero_mul] at ht;omega
 ·
  generalize (1680:Int).tdiv b.len.2=q at *
  have h3:=Int.mul_le_mul_of_nonneg_right (show 24*b.len.2+1≤b.len.1 by omega) hqb.1
  rw[Int.add_mul,Int.mul_assoc,hm] at h3
  have:q≠0:=by rintro rfl;omega
  omega
def trueV {α:Type}:α→Value:=fun _=>.bool true
abbrev D42_:List (Option Nat):=[some 37,some 38,some 39,some 40,some 41,some 42,some 43,some 44,some 45,some 46,some 47,some 48,some 49,some 50,some 51,some 52]
abbrev D43_:List (Option Nat):=[some 57,some 58,some 59,some 60,some 61,some 62,some 63,some 64,some 2]
abbrev D41_:List (Option Nat):=[some 13,some 14,some 15,some 16,some 17,some 18,some 19,some 20,some 21,some 22,some 23,some 24,some 25,some 26,some 27,some 28,some 29,some 30,some 31,some 32,some 33,some 34,some 35,some 36]
theorem mValid_spec {S:Nat→Prop} {w:World} {v:Value} {l:List Br} (hl:rBrs.rd S w [v] l) (hv:BarsOk l):Gives Tryz.prog 78 #[v] w fun r _=>r=.bool true:=by
 obtain⟨p,c,rfl,hc1,hc2⟩:=Rp.slice_val hl
 have hl:(Rp.slice rBr).rd (fun _=>True) w _ l:=Rp.any hl
 have hlen:=hv.len
 have hone:=hv.one
 refine gives_of [.val (.slice p l.length c)] 65 [.tmp 2] Tryz.func78 rfl rfl rfl (by simp) rfl rfl ?_
 refine W.pure dn fun K1 k1=>?_
 simp only[E,F,J,M,R,Tz,V,X,Y,reduceIte,G,H,sz];refine k1 _ ?_
 refine W.seqK fun K2 k2=>W.region ?_
 refine WO.makeV dn rfl rfl rfl fun r=>?_
 simp only[St.pushO]
 refine WO.go 1 dn ?_
 simp only[E,F,J,M,R,Tz,V,X,Y,reduceIte,G,H,sz]
 refine WO.nil ?_
 refine k2 _ ?_
 refine W.seqK fun K3 k3=>?_
 refine W.pure dn fun K4 k4=>?_
 simp only[E,F,J,M,R,Tz,V,X,Y,reduceIte,G,H,sz];refine k4 _ ?_
 refine W.block ?_
 refine W.loopO (X:=Nat) [0,3,7,8] (fun x=>[(9,wv (x:Int))]) (fun x=>[.map r (vmE (kvOf Br.id trueV (l.take x))) (kvOf Br.id trueV (l.take x)).length]) (fun x=>[((fun _=>True),w)]) (fun x=>x≤l.length) (fun x=>l.length - x) 0 ?_ ?_ ?_
 · exact⟨rfl,by simp[getE,bnd,keepE],⟨[],by simp[kvOf]⟩,by simp[Own.bnd,bndL,bnd,boxO],by simp⟩
 ·
  exact Nat.zero_le _
 ·
  rintro i hi
  simp only[E,F,J,M,R,Tz,V,X,Y,reduceIte,sxk,G,H,sz]
  refine W.pure dn fun K5 k5=>?_
  simp only[E,F,J,M,R,Tz,V,X,Y,reduceIte,G,H,sz];refine k5 _ ?_
  refine W.seqK fun K6 k6=>?_
  refine W.cond rfl rfl (fun hc=>?_) fun hc=>?_
  ·
   have hlt:i<l.length:=by simpa using hc
   obtain⟨y,hy⟩:=len_lt (rfl:l.length=_) hlt
   have hyb:=hv.all y (List.mem_of_getElem? hy)
   have hs9:=bar_short hyb
   have hid:=hyb.id
   have hky:=hyb.key
   have hnew:=kv_new (g:=trueV) hv.nd hy
   refine W.skip (k6 _ ?_)
   refine W.seqK fun K7 k7=>?_
   refine W.block ?_
   refine W.seqK fun K8 k8=>W.region ?_
   refine WO.elem (y:=y) hl (by simp[St.put]) dn rfl rfl (by simp[St.put]) (fun _=>rfl) rfl rfl rfl rfl rfl el22 agg75 sz75 (.inl rfl) (by omega) (hy) fun p ces hces=>?_
   have hces:ces=brV y:=hces
   subst hces
   simp only[brV,ofCells,if_true,List.toList_toArray,sr]
   refine WO.go 2 dn ?_
   simp only[E,F,J,M,R,Tz,V,X,Y,reduceIte,G,H,sz]
   refine WO.nil ?_
   refine k8 _ ?_
   refine W.seqK fun K9 k9=>?_
   refine W.seqK fun K10 k10=>W.region ?_
   refine WO.go 4 (ds:=D41_) rfl ?_
   simp only[E,F,J,M,R,Tz,V,X,Y,reduceIte,G,H,sz]
   refine WO.cases 16 _ rfl (fun hg16=>?_) fun hg16=>?_
   ·
    simp at hg16;omega
   ·
    refine WO.go 5 (ds:=D41_) rfl ?_
    simp only[E,F,J,M,R,Tz,V,X,Y,reduceIte,G,H,sz]
    refine WO.cases 21 _ rfl (fun hg21=>?_) fun hg21=>?_
    ·
     simp at hg21;omega
    ·
     refine WO.go 3 (ds:=D41_) rfl ?_
     simp only[E,F,J,M,R,Tz,V,X,Y,reduceIte,G,H,sz]
     refine WO.q (ds:=D41_) rfl rfl rfl (QR.lookup (r:=r) (ks:=(kvOf Br.id trueV (l.take i))) (.bool false) (.bool false) false false rfl rfl rfl (fun ρ w1 hb=>own_map hb (k:=0) rfl) (by kernel_rfl) (.inl ⟨hnew,rfl,rfl⟩)) ?_
     simp only[Bool.false_eq_true,if_false,if_true]
     refine WO.go 7 (ds:=D41_) rfl ?_
     simp only[E,F,J,M,R,Tz,V,X,Y,reduceIte,G,H,sz]
     refine WO.cases 32 _ rfl (fun hg32=>?_) fun hg32=>?_
     ·
      simp at hg32;omega
     ·
      refine WO.go 4 (ds:=D41_) rfl ?_
      simp only[E,F,J,M,R,Tz,V,X,Y,reduceIte,G,H,sz]
      refine WO.nil ?_
      refine k10 _ ?_
      refine W.cond rfl rfl (fun hc=>?_) fun hc=>?_
      ·
       simp at hc;omega
      ·
       refine W.skip (k9 _ ?_)
       refine W.seqK fun K11 k11=>?_
       refine W.seqK fun K12 k12=>W.region ?_
       refine WO.go 2 (ds:=D42_) rfl ?_
       simp only[E,F,J,M,R,Tz,V,X,Y,reduceIte,G,H,sz]
       refine WO.call (.bool true) (ds:=D42_) rfl rfl rfl rfl co134 (fun ρ w1 hb=>isDuration_spec w1 y.len hyb.t) ?_
       refine WO.go 8 (ds:=D42_) rfl ?_
       simp only[E,F,J,M,R,Tz,V,X,Y,reduceIte,G,H,sz]
       refine WO.cases 47 _ rfl (fun hg47=>?_) fun hg47=>?_
       ·
        exact absurd (by simpa using hg47) hs9.1
       ·
        refine WO.go 3 (ds:=D42_) rfl ?_
        simp only[E,F,J,M,R,Tz,V,X,Y,reduceIte,G,H,sz]
        refine WO.call (.bool (decide (24*y.len.2<y.len.1*1))) (ds:=D42_) rfl rfl rfl rfl co135 (fun ρ w1 hb=>mless_spec w1 (24,1) y.len (by decide) hyb.t) ?_
        refine WO.go 1 (ds:=D42_) rfl ?_
        simp only[E,F,J,M,R,Tz,V,X,Y,reduceIte,G,H,sz]
        refine WO.nil ?_
        refine k12 _ ?_
        refine W.cond rfl rfl (fun hc=>?_) fun hc=>?_
        ·
         simp at hc;omega
        ·
         refine W.skip (k11 _ ?_)
         refine W.region ?_
         refine WO.go 3 dn ?_
         simp only[E,F,J,M,R,Tz,V,X,Y,reduceIte,G,H,sz]
         refine WO.addV (k:=0) (ks:=(kvOf Br.id trueV (l.take i))) (trueV y) dn rfl rfl rfl rfl rfl rfl ⟨_,rfl,fun _=>rfl⟩ (by kernel_rfl) hnew ?_
         rw[← show(kvOf Br.id trueV (l.take (i+1)))=(kvOf Br.id trueV (l.take i))++[(y.id,trueV y)] from kv_take (g:=trueV) hy]
         simp only[E,F,J,M,R,Tz,V,X,Y,reduceIte,G,H,sz]
         refine WO.nil ?_
         refine k7 _ ?_
         refine W.region ?_
         refine WO.go 2 dn ?_
         simp only[E,F,J,M,R,Tz,V,X,Y,reduceIte,G,H,sz]
         refine WO.nil ?_
         refine⟨i+1,hlt,by omega,rfl,by simp[getE,bnd,keepE,wrap_succ (show i+1≤9223372036854775807 by omega)],⟨_,rfl⟩,by simp[Own.bnd,bndL,bnd],by simp⟩
  ·
   have hge:l.length≤i:=by simpa using hc
   refine W.exit (k3 _ ?_)
   refine W.join 2 (.val (.bool true)) [] (W.region ?_) ?_
   ·
    refine WO.go 4 (ds:=D43_) rfl ?_
    simp only[E,F,J,M,R,Tz,V,X,Y,reduceIte,G,H,sz]
    refine WO.cases 60 _ rfl (fun hg60=>?_) fun hg60=>?_
    ·
     refine WO.go 5 (ds:=D43_) rfl ?_
     simp only[E,F,J,M,R,Tz,V,X,Y,reduceIte,G,H,sz]
     refine WO.nil ?_
     refine⟨rfl,?_,⟨_,rfl⟩,by simp[Own.bnd,bndL,bnd,boxO],by simp⟩
     simp at hg60
     try omega
     try (simp[getE,bnd,keepE];omega)
    ·
     refine WO.go 5 (ds:=D43_) rfl ?_
     simp only[E,F,J,M,R,Tz,V,X,Y,reduceIte,G,H,sz]
     refine WO.nil ?_
     refine⟨rfl,?_,⟨_,rfl⟩,by simp[Own.bnd,bndL,bnd,boxO],by simp⟩
     simp at hg60
     try omega
     try (simp[getE,bnd,keepE];omega)
   ·
    simp only[E,F,J,M,R,Tz,V,X,Y,reduceIte,sxk,G,H,sz]
    refine W.ret ⟨by simp,_,rfl,fun ρ w1 hb=>?_⟩
    rfl
abbrev D44_:List (Option Nat):=[some 3,some 4,some 5,some 6,some 7,some 8,some 9,some 10,some 11,some 12,some 13,some 14,some 2]
theorem nisNote_spec (w:World) (p:Pit):Gives Tryz.prog 174 #[.agg #[iv p.1,iv p.2.1,iv p.2.2]] w fun r _=>r=.bool (isNoteP p):=by
 refine gives_of [.agg [wv p.1,wv p.2.1,wv p.2.2]] 15 [.tmp 2] Tryz.func174 rfl rfl rfl (by simp) rfl rfl ?_
 refine W.pure dn fun K1 k1=>?_
 simp only[E,F,J,M,R,Tz,V,X,Y,reduceIte,G,H,sz];refine k1 _ ?_
 refine W.join 2 (.val (.bool (isNoteP p))) [] (W.region ?_) ?_
 ·
  refine WO.go 1 (ds:=D44_) rfl ?_
  simp only[E,F,J,M,R,Tz,V,X,Y,reduceIte,G,H,sz]
  refine WO.call (.bool (validP p)) (ds:=D44_) rfl rfl rfl rfl co119 (fun ρ w1 hb=>valid_spec w1 p) ?_
  refine WO.go 1 (ds:=D44_) rfl ?_
  simp only[E,F,J,M,R,Tz,V,X,Y,reduceIte,G,H,sz]
  refine WO.cases 5 _ rfl (fun hg5=>?_) fun hg5=>?_
  ·
   refine WO.go 2 (ds:=D44_) rfl ?_
   simp only[E,F,J,M,R,Tz,V,X,Y,reduceIte,G,H,sz]
   refine WO.call (.bool (within (-2) 2 p.2.1)) (ds:=D44_) rfl rfl rfl rfl co173 (fun ρ w1 hb=>nwithin_spec w1 _ _ _) ?_
   refine WO.go 2 (ds:=D44_) rfl ?_
   simp only[E,F,J,M,R,Tz,V,X,Y,reduceIte,G,H,sz]
   refine WO.cases 10 _ rfl (fun hg10=>?_) fun hg10=>?_
   ·
    refine WO.go 2 (ds:=D44_) rfl ?_
    simp only[E,F,J,M,R,Tz,V,X,Y,reduceIte,G,H,sz]
    refine WO.call (.bool (within 0 9 p.2.2)) (ds:=D44_) rfl rfl rfl rfl co173 (fun ρ w1 hb=>nwithin_spec w1 _ _ _) ?_
    refine WO.go 2 (ds:=D44_) rfl ?_
    simp only[E,F,J,M,R,Tz,V,X,Y,reduceIte,G,H,sz]
    refine WO.nil ?_
    refine⟨rfl,?_,⟨_,rfl⟩,by simp[Own.bnd,bndL,bnd,boxO],by simp⟩
    try rw[hg5]
    try rw[hg10]
    simp[getE,bnd,keepE]
    try simp_all [isNoteP]
   ·
    refine WO.go 5 (ds:=D44_) rfl ?_
    simp only[E,F,J,M,R,Tz,V,X,Y,reduceIte,G,H,sz]
    refine WO.nil ?_
    refine⟨rfl,?_,⟨_,rfl⟩,by simp[Own.bnd,bndL,bnd,boxO],by simp⟩
    try rw[hg5]
    try rw[hg10]
    simp[getE,bnd,keepE]
    try simp_all [isNoteP]
  ·
   refine WO.go 10 (ds:=D44_) rfl ?_
   simp only[E,F,J,M,R,Tz,V,X,Y,reduceIte,G,H,sz]
   refine WO.nil ?_
   refine⟨rfl,?_,⟨_,rfl⟩,by simp[Own.bnd,bndL,bnd,boxO],by simp⟩
   try rw[hg5]
   try rw[hg10]
   simp[getE,bnd,keepE]
   try simp_all [isNoteP]
 ·
  simp only[E,F,J,M,R,Tz,V,X,Y,reduceIte,sxk,G,H,sz]
  refine W.ret ⟨by simp,_,rfl,fun ρ w1 hb=>?_⟩
  rfl
def bxK (x:Br×Nat):Int:=x.1.id
def bxV (x:Br×Nat):Value:=.int .i64 (x.2:Int)
theorem bx_keys (l:List Br):(l.zipIdx.map bxK)=l.map Br.id:=by
 rw[show bxK=Br.id ∘ Prod.fst from rfl,← List.map_map];simp
theorem bx_get {l:List Br} {i:Nat} {y:Br} (h:l[i]?=some y):l.zipIdx[i]?=some (y,i):=by simp[List.getElem?_zipIdx,h]
theorem indexes_spec {S:Nat→Prop} {w:World} {v:Value} {l:List Br} (hl:rBrs.rd S w [v] l) (hv:BarsOk l):Gives Tryz.prog 124 #[v] w fun u w'=>∃ r:Nat,u=.map (some r)∧(∀ ρ' j,(Own.map r (vmE (kvOf bxK bxV l.zipIdx)) (kvOf bxK bxV l.zipIdx).length).holds ρ' j w')∧∀ ρ' j b,(Own.map r (vmE (kvOf bxK bxV l.zipIdx)) (kvOf bxK bxV l.zipIdx).length).num ρ' j=some b→w.heap.size≤b:=by
 obtain⟨p,c,rfl,hc1,hc2⟩:=Rp.slice_val hl
 have hl:(Rp.slice rBr).rd (fun _=>True) w _ l:=Rp.any hl
 have hlen:=hv.len
 have hnd:(l.zipIdx.map bxK).Nodup:=by rw[bx_keys];exact hv.nd
 have hzl:l.zipIdx.length=l.length:=List.length_zipIdx
 refine gives_of [.val (.slice p l.length c)] 20 [.tmp 2] Tryz.func124 rfl rfl rfl (by simp) rfl rfl ?_
 refine W.pure dn fun K1 k1=>?_
 simp only[E,F,J,M,R,Tz,V,X,Y,reduceIte,G,H,sz];refine k1 _ ?_
 refine W.seqK fun K2 k2=>W.region ?_
 refine WO.makeV dn rfl rfl rfl fun r=>?_
 simp only[St.pushO]
 refine WO.go 1 dn ?_
 simp only[E,F,J,M,R,Tz,V,X,Y,reduceIte,G,H,sz]
 refine WO.nil ?_
 refine k2 _ ?_
 refine W.seqK fun K3 k3=>?_
 refine W.pure dn fun K4 k4=>?_
 simp only[E,F,J,M,R,Tz,V,X,Y,reduceIte,G,H,sz];refine k4 _ ?_
 refine W.block ?_
 refine W.loopO (X:=Nat) [3,7,8] (fun x=>[(9,wv (x:Int))]) (fun x=>[.map r (vmE (kvOf bxK bxV (l.zipIdx.take x))) (kvOf bxK bxV (l.zipIdx.take x)).length]) (fun x=>[((fun _=>True),w)]) (fun x=>x≤l.length) (fun x=>l.length - x) 0 ?_ ?_ ?_
 · exact⟨rfl,by simp[getE,bnd,keepE],⟨[],by simp[kvOf]⟩,by simp[Own.bnd,bndL,bnd,boxO],by simp⟩
 ·
  exact Nat.zero_le _
 ·
  rintro i hi
  simp only[E,F,J,M,R,Tz,V,X,Y,reduceIte,sxk,G,H,sz]
  refine W.pure dn fun K5 k5=>?_
  simp only[E,F,J,M,R,Tz,V,X,Y,reduceIte,G,H,sz];refine k5 _ ?_
  refine W.seqK fun K6 k6=>?_
  refine W.cond rfl rfl (fun hc=>?_) fun hc=>?_
  ·
   have hlt:i<l.length:=by simpa using hc
   obtain⟨y,hy⟩:=len_lt (rfl:l.length=_) hlt
   have hnew:=kv_new (g:=bxV) hnd (bx_get hy)
   refine W.skip (k6 _ ?_)
   refine W.seqK fun K7 k7=>?_
   refine W.block ?_
   refine W.seqK fun K8 k8=>W.region ?_
   refine WO.go 1 dn ?_
   simp only[E,F,J,M,R,Tz,V,X,Y,reduceIte,G,H,sz]
   refine WO.elem (y:=y) hl (by simp[St.put]) dn rfl rfl (by simp[St.put]) (fun _=>rfl) rfl rfl rfl rfl rfl el22 agg75 sz75 (.inl rfl) (by omega) (hy) fun p ces hces=>?_
   have hces:ces=brV y:=hces
   subst hces
   simp only[brV,ofCells,if_true,List.toList_toArray,sr]
   refine WO.go 3 dn ?_
   simp only[E,F,J,M,R,Tz,V,X,Y,reduceIte,G,H,sz]
   refine WO.nil ?_
   refine k8 _ ?_
   refine W.region ?_
   refine WO.go 4 dn ?_
   simp only[E,F,J,M,R,Tz,V,X,Y,reduceIte,G,H,sz]
   refine WO.addV (k:=0) (ks:=(kvOf bxK bxV (l.zipIdx.take i))) (iv (i:Int)) dn rfl rfl rfl rfl rfl rfl ⟨_,rfl,fun _=>rfl⟩ (by kernel_rfl) hnew ?_
   rw[← show(kvOf bxK bxV (l.zipIdx.take (i+1)))=(kvOf bxK bxV (l.zipIdx.take i))++[(y.id,iv (i:Int))] from kv_take (f:=bxK) (g:=bxV) (bx_get hy)]
   simp only[E,F,J,M,R,Tz,V,X,Y,reduceIte,G,H,sz]
   refine WO.nil ?_
   refine k7 _ ?_
   refine W.region ?_
   refine WO.go 2 dn ?_
   simp only[E,F,J,M,R,Tz,V,X,Y,reduceIte,G,H,sz]
   refine WO.nil ?_
   refine⟨i+1,hlt,by omega,rfl,by simp[getE,bnd,keepE,wrap_succ (show i+1≤9223372036854775807 by omega)],⟨_,rfl⟩,by simp[Own.bnd,bndL,bnd],by simp⟩
  ·
   have hge:l.length≤i:=by simpa using hc
   rw[List.take_of_length_le (by omega)]
   refine W.exit (k3 _ ?_)
   refine W.pure dn fun K9 k9=>?_
   simp only[E,F,J,M,R,Tz,V,X,Y,reduceIte,G,H,sz];refine k9 _ ?_
   refine W.ret ⟨by simp,_,rfl,fun ρ w1 hb=>?_⟩
   exact⟨r,rfl,fun _ _=>own_map hb (k:=0) rfl,fun _ _ b hb'=>own_new (o:=.map r (vmE (kvOf bxK bxV l.zipIdx)) (kvOf bxK bxV l.zipIdx).length) hb (by simp) (k:=0) rfl hb'⟩
abbrev D45_:List (Option Nat):=[some 29,some 30,some 31,some 32,some 33,some 34,some 35,some 36,some 37,some 38,some 39,some 40,some 41,some 42,some 43,some 44,some 45,some 46,some 47,some 48,some 49,some 50,some 51,some 52,some 53,some 54,some 55,some 56,some 57,some 58,some 59,some 60,some 61,some 62,some 63,some 64,some 65,some 66,some 67,some 68,some 4]
theorem nformed_spec {bars:List Br} (w:World) (b:Br) (n:Nt) (hb9:BarOk b) (h:NoteA bars n) (hfit:tickF n.start+tickF n.len≤tickF b.len):Gives Tryz.prog 125 #[.agg #[iv b.id,iv b.len.1,iv b.len.2,iv b.key],(ntq n)] w fun r _=>r=.bool (isNoteP n.pit):=by
 have q1:=h.start
 have q2:okT n.len=true:=tick_ok (by have:=h.len;omega)
 have q3:=hb9.t
 have q4:=h.len
 have t1:=tick_bound n.start
 have t2:=tick_bound n.len
 have hww:=wrap_id (x:=tickF n.start+tickF n.len) (by omega) (by omega)
 refine gives_of [.agg [wv b.id,wv b.len.1,wv b.len.2,wv b.key],.agg (ntw n)] 69 [.tmp 4] Tryz.func125 rfl rfl rfl (by simp) rfl rfl ?_
 refine W.pure dn fun K1 k1=>?_
 simp only[E,F,J,M,R,Tz,V,X,Y,reduceIte,G,H,sz];refine k1 _ ?_
 refine W.seqK fun K2 k2=>W.region ?_
 refine WO.go 2 dn ?_
 simp only[E,F,J,M,R,Tz,V,X,Y,reduceIte,G,H,sz]
 refine WO.call (.tuple #[iv (tickF n.start),.bool true]) dn rfl rfl rfl co171 (fun ρ w1 hb=>nticks_spec w1 n.start (by assumption)) ?_
 refine WO.go 5 dn ?_
 simp only[E,F,J,M,R,Tz,V,X,Y,reduceIte,G,H,sz]
 refine WO.nil ?_
 refine k2 _ ?_
 refine W.seqK fun K3 k3=>W.region ?_
 refine WO.go 2 dn ?_
 simp only[E,F,J,M,R,Tz,V,X,Y,reduceIte,G,H,sz]
 refine WO.call (.tuple #[iv (tickF n.len),.bool true]) dn rfl rfl rfl co171 (fun ρ w1 hb=>nticks_spec w1 n.len (by assumption)) ?_
 refine WO.go 5 dn ?_
 simp only[E,F,J,M,R,Tz,V,X,Y,reduceIte,G,H,sz]
 refine WO.nil ?_
 refine k3 _ ?_
 refine W.seqK fun K4 k4=>W.region ?_
 refine WO.go 2 dn ?_
 simp only[E,F,J,M,R,Tz,V,X,Y,reduceIte,G,H,sz]
 refine WO.call (.tuple #[iv (tickF b.len),.bool true]) dn rfl rfl rfl co171 (fun ρ w1 hb=>nticks_spec w1 b.len (by assumption)) ?_
 refine WO.go 5 dn ?_
 simp only[E,F,J,M,R,Tz,V,X,Y,reduceIte,G,H,sz]
 refine WO.nil ?_
 refine k4 _ ?_
 refine W.seqK fun K5 k5=>W.region ?_
 refine WO.go 9 (ds:=D45_) rfl ?_
 simp only[E,F,J,M,R,Tz,V,X,Y,reduceIte,G,H,hww,sz]
 refine WO.cases 37 _ rfl (fun hg37=>?_) fun hg37=>?_
 ·
  refine WO.go 7 (ds:=D45_) rfl ?_
  simp only[E,F,J,M,R,Tz,V,X,Y,reduceIte,G,H,hww,sz]
  refine WO.cases 44 _ rfl (fun hg44=>?_) fun hg44=>?_
  ·
   refine WO.go 2 (ds:=D45_) rfl ?_
   simp only[E,F,J,M,R,Tz,V,X,Y,reduceIte,G,H,hww,sz]
   refine WO.call (.bool true) (ds:=D45_) rfl rfl rfl rfl co172 (fun ρ w1 hb=>by have h9:=nisID_spec w1 n.id;rw[h.id] at h9;exact h9) ?_
   refine WO.go 4 (ds:=D45_) rfl ?_
   simp only[E,F,J,M,R,Tz,V,X,Y,reduceIte,G,H,hww,sz]
   refine WO.call (.bool true) (ds:=D45_) rfl rfl rfl rfl co172 (fun ρ w1 hb=>by have h9:=nisID_spec w1 n.part;rw[h.part] at h9;exact h9) ?_
   refine WO.go 4 (ds:=D45_) rfl ?_
   simp only[E,F,J,M,R,Tz,V,X,Y,reduceIte,G,H,hww,sz]
   refine WO.call (.bool true) (ds:=D45_) rfl rfl rfl rfl co173 (fun ρ w1 hb=>by have h9:=nwithin_spec w1 n.voice 0 9;rw[h.voice] at h9;exact h9) ?_
   refine WO.go 4 (ds:=D45_) rfl ?_
   simp only[E,F,J,M,R,Tz,V,X,Y,reduceIte,G,H,hww,sz]
   refine WO.call (.bool true) (ds:=D45_) rfl rfl rfl rfl co173 (fun ρ w1 hb=>by have h9:=nwithin_spec w1 n.ossia 0 20;rw[h.ossia] at h9;exact h9) ?_
   refine WO.go 4 (ds:=D45_) rfl ?_
   simp only[E,F,J,M,R,Tz,V,X,Y,reduceIte,G,H,hww,sz]
   refine WO.call (.bool (isNoteP n.pit)) (ds:=D45_) rfl rfl rfl rfl co174 (fun ρ w1 hb=>nisNote_spec w1 n.pit) ?_
   refine WO.go 2 (ds:=D45_) rfl ?_
   simp only[E,F,J,M,R,Tz,V,X,Y,reduceIte,G,H,hww,sz]
   refine WO.nil ?_
   refine k5 _ ?_
   refine W.ret ⟨by simp,_,rfl,fun ρ w1 hb=>?_⟩
   rfl
  ·
   simp at hg44;omega
 ·
  simp at hg37;omega
abbrev D46_:List (Option Nat):=[some 11,some 12,some 13,some 14,some 15,some 16,some 17,some 18]
abbrev D47_:List (Option Nat):=[some 35,some 36,some 37,some 38,some 39,some 40,some 41,some 42,some 43,some 44,some 45,some 46,some 47,some 48,some 49,some 50,some 51]
theorem nValid_spec {S S2:Nat→Prop} {w:World} {v u:Value} {bars:List Br} {l:List Nt} (hl:rBrs.rd S w [v] bars) (hl2:rNts.rd S2 w [u] l) (hv:BarsOk bars) (hlen:l.length≤20000) (hall:∀ n,n∈l→NoteA bars n) (hnd:(l.map Nt.id).Nodup):Gives Tryz.prog 70 #[v,u] w fun r _=>r=.bool (pb (∀ n,n∈l→isNoteP n.pit=true)):=by
 obtain⟨p,c,rfl,hc1,hc2⟩:=Rp.slice_val hl
 obtain⟨p2,c2,rfl,hc3,hc4⟩:=Rp.slice_val hl2
 have hl:(Rp.slice rBr).rd (fun _=>True) w _ bars:=Rp.any hl
 have hl2:(Rp.slice rNt).rd (fun _=>True) w _ l:=Rp.any hl2
 have hndz:(bars.zipIdx.map bxK).Nodup:=by rw[bx_keys];exact hv.nd
 refine gives_of [.val (.slice p bars.length c),.val (.slice p2 l.length c2)] 56 [.tmp 4] Tryz.func70 rfl rfl rfl (by simp) rfl rfl ?_
 refine W.pure dn fun K1 k1=>?_
 simp only[E,F,J,M,R,Tz,V,X,Y,reduceIte,G,H,sz];refine k1 _ ?_
 refine W.seqK fun K2 k2=>?_
 refine W.seqK fun K3 k3=>W.region ?_
 refine WO.go 1 (ds:=D46_) rfl ?_
 simp only[E,F,J,M,R,Tz,V,X,Y,reduceIte,G,H,sz]
 refine WO.call (.bool true) (ds:=D46_) rfl rfl rfl rfl co78 (fun ρ w1 hb=>mValid_spec (Rp.now hl (hb.first (by simp[St.put]))) hv) ?_
 refine WO.go 6 (ds:=D46_) rfl ?_
 simp only[E,F,J,M,R,Tz,V,X,Y,reduceIte,G,H,sz]
 refine WO.nil ?_
 refine k3 _ ?_
 refine W.cond rfl rfl (fun hc=>?_) fun hc=>?_
 ·
  simp at hc;omega
 ·
  refine W.skip (k2 _ ?_)
  refine W.seqK fun K4 k4=>W.region ?_
  refine WO.go 1 dn ?_
  simp only[E,F,J,M,R,Tz,V,X,Y,reduceIte,G,H,sz]
  refine WO.callO (fun r:Nat=>.map (some r)) (fun r=>.map r (vmE (kvOf bxK bxV bars.zipIdx)) (kvOf bxK bxV bars.zipIdx).length) dn rfl rfl rfl co124 (fun _ _ _ h=>by cases h) (fun ρ w1 hb=>indexes_spec (Rp.now hl (hb.first (by simp[St.put]))) hv) fun r0=>?_
  simp only[St.pushO]
  refine WO.go 1 dn ?_
  simp only[E,F,J,M,R,Tz,V,X,Y,reduceIte,G,H,sz]
  refine WO.nil ?_
  refine k4 _ ?_
  refine W.seqK fun K5 k5=>W.region ?_
  refine WO.makeV dn rfl rfl rfl fun r=>?_
  simp only[St.pushO]
  refine WO.go 1 dn ?_
  simp only[E,F,J,M,R,Tz,V,X,Y,reduceIte,G,H,sz]
  refine WO.nil ?_
  refine k5 _ ?_
  refine W.seqK fun K6 k6=>?_
  refine W.pure dn fun K7 k7=>?_
  simp only[E,F,J,M,R,Tz,V,X,Y,reduceIte,G,H,sz];refine k7 _ ?_
  refine W.block ?_
  refine W.loopO (X:=Nat) [0,5,6,22,23] (fun x=>[(24,wv (x:Int))]) (fun x=>[.map r0 (vmE (kvOf bxK bxV bars.zipIdx)) (kvOf bxK bxV bars.zipIdx).length,.map r (vmE (kvOf Nt.id trueV (l.take x))) (kvOf Nt.id trueV (l.take x)).length]) (fun x=>[((fun _=>True),w)]) (fun x=>x≤l.length∧∀ (j:Nat) y,j<x→l[j]?=some y→isNoteP y.pit=true) (fun x=>l.length - x) 0 ?_ ?_ ?_
  · exact⟨rfl,by simp[getE,bnd,keepE],⟨[],by simp[kvOf]⟩,by simp[Own.bnd,bndL,bnd,boxO],by simp⟩
  ·
   exact⟨Nat.zero_le _,fun j _ hj=>by omega⟩
  ·
   rintro i ⟨hi,hno⟩
   simp only[E,F,J,M,R,Tz,V,X,Y,reduceIte,sxk,G,H,sz]
   refine W.pure dn fun K8 k8=>?_
   simp only[E,F,J,M,R,Tz,V,X,Y,reduceIte,G,H,sz];refine k8 _ ?_
   refine W.seqK fun K9 k9=>?_
   refine W.cond rfl rfl (fun hc=>?_) fun hc=>?_
   ·
    have hlt:i<l.length:=by simpa using hc
    obtain⟨y,hy⟩:=len_lt (rfl:l.length=_) hlt
    have hym:=List.mem_of_getElem? hy
    have hya:=hall y hym
    obtain⟨b9,hb1,hb2,hb3⟩:=hya.bar
    obtain⟨kb,hkb⟩:=List.mem_iff_getElem?.1 hb1
    have hmem:=List.mem_of_getElem? (bx_get hkb)
    have hnew:=kv_new (g:=trueV) hnd hy
    refine W.skip (k9 _ ?_)
    refine W.seqK fun K10 k10=>?_
    refine W.block ?_
    refine W.seqK fun K11 k11=>W.region ?_
    refine WO.elem (y:=y) hl2 (by simp[St.put]) dn rfl rfl (by simp[St.put]) (fun _=>rfl) rfl rfl rfl rfl rfl el24 agg89 sz89 (.inl rfl) (by omega) (hy) fun p ces hces=>?_
    have hces:ces=ntV y:=hces
    subst hces
    simp only[ntV,ofCells,if_true,List.toList_toArray,sr]
    refine WO.go 2 dn ?_
    simp only[E,F,J,M,R,Tz,V,X,Y,reduceIte,G,H,sz]
    refine WO.nil ?_
    refine k11 _ ?_
    refine W.seqK fun K12 k12=>W.region ?_
    refine WO.go 3 dn ?_
    simp only[E,F,J,M,R,Tz,V,X,Y,reduceIte,G,H,sz]
    refine WO.q dn rfl rfl (QR.lookup (r:=r0) (ks:=(kvOf bxK bxV bars.zipIdx)) (iv 0) (iv (kb:Int)) true true rfl rfl rfl (fun ρ w1 hb=>own_map hb (k:=0) rfl) (by kernel_rfl) (by have h9:=kv_yes (f:=bxK) (g:=bxV) (z:=iv 0) hndz hmem;rw[show bxK (b9,kb)=y.bar from hb2] at h9;exact h9)) ?_
    simp only[Bool.false_eq_true,if_false,if_true]
    refine WO.go 5 dn ?_
    simp only[E,F,J,M,R,Tz,V,X,Y,reduceIte,G,H,sz]
    refine WO.nil ?_
    refine k12 _ ?_
    refine W.seqK fun K13 k13=>?_
    refine W.seqK fun K14 k14=>?_
    refine W.regionQ mixed (by kernel_rfl) ?_
    refine WQ.go 6 (ds:=D47_) rfl ?_
    simp only[E,F,J,M,R,Tz,V,X,Y,reduceIte,sxq,G,H,sz]
    refine WQ.q (ds:=D47_) rfl rfl rfl (QR.lookup (r:=r) (ks:=(kvOf Nt.id trueV (l.take i))) (.bool false) (.bool false) false false rfl rfl rfl (fun ρ w1 hb=>own_map hb (k:=1) rfl) (by kernel_rfl) (.inl ⟨hnew,rfl,rfl⟩)) ?_
    simp only[Bool.false_eq_true,if_false,if_true]
    refine WQ.go 4 (ds:=D47_) rfl ?_
    simp only[E,F,J,M,R,Tz,V,X,Y,reduceIte,sxq,G,H,sz]
    refine WQ.elem (y:=b9) hl (by simp[St.put]) (ds:=D47_) rfl rfl rfl (by simp[St.put]) (fun _=>rfl) rfl rfl rfl rfl rfl el22 agg75 sz75 (.inl rfl) (by omega) (hkb) fun p ces hces=>?_
    have hces:ces=brV b9:=hces
    subst hces
    simp only[brV,ofCells,if_true,List.toList_toArray,sr]
    refine WQ.go 1 (ds:=D47_) rfl ?_
    simp only[E,F,J,M,R,Tz,V,X,Y,reduceIte,sxq,G,H,sz]
    refine WQ.call (.bool (isNoteP y.pit)) (ds:=D47_) rfl rfl rfl rfl co125 (fun ρ w1 hb=>nformed_spec w1 b9 y (hv.all b9 hb1) hya hb3) ?_
    refine WQ.go 2 (ds:=D47_) rfl ?_
    simp only[E,F,J,M,R,Tz,V,X,Y,reduceIte,sxq,G,H,sz]
    refine WQ.nil ?_
    refine k14 _ ?_
    refine W.cond rfl rfl (fun hc=>?_) fun hc=>?_
    ·
     have hf:isNoteP y.pit=false:=by simpa using hc
     refine W.pure dn fun K15 k15=>?_
     simp only[E,F,J,M,R,Tz,V,X,Y,reduceIte,G,H,sz];refine k15 _ ?_
     refine W.ret ⟨by simp,_,rfl,fun ρ w1 hb=>?_⟩
     rw[pb_no fun h=>by rw[h y hym] at hf;cases hf];rfl
    ·
     have hf:isNoteP y.pit=true:=by simpa using hc
     refine W.skip (k13 _ ?_)
     refine W.region ?_
     refine WO.go 3 dn ?_
     simp only[E,F,J,M,R,Tz,V,X,Y,reduceIte,G,H,sz]
     refine WO.addV (k:=1) (ks:=(kvOf Nt.id trueV (l.take i))) (trueV y) dn rfl rfl rfl rfl rfl rfl ⟨_,rfl,fun _=>rfl⟩ (by kernel_rfl) hnew ?_
     rw[← show(kvOf Nt.id trueV (l.take (i+1)))=(kvOf Nt.id trueV (l.take i))++[(y.id,trueV y)] from kv_take (g:=trueV) hy]
     simp only[E,F,J,M,R,Tz,V,X,Y,reduceIte,G,H,sz]
     refine WO.nil ?_
     refine k10 _ ?_
     refine W.region ?_
     refine WO.go 2 dn ?_
     simp only[E,F,J,M,R,Tz,V,X,Y,reduceIte,G,H,sz]
     refine WO.nil ?_
     refine⟨i+1,⟨hlt,fun j u hj hu=>?_⟩,by omega,rfl,by simp[getE,bnd,keepE,wrap_succ (show i+1≤9223372036854775807 by omega)],⟨_,rfl⟩,by simp[Own.bnd,bndL,bnd],by simp⟩
     rcases Nat.lt_succ_iff_lt_or_eq.1 hj with h | rfl
     · exact hno j u h hu
     · rw[hy] at hu;obtain rfl:=Option.some.inj hu;exact hf
   ·
    have hge:l.length≤i:=by simpa using hc
    refine W.exit (k6 _ ?_)
    refine W.pure dn fun K16 k16=>?_
    simp only[E,F,J,M,R,Tz,V,X,Y,reduceIte,G,H,sz];refine k16 _ ?_
    refine W.ret ⟨by simp,_,rfl,fun ρ w1 hb=>?_⟩
    rw[pb_yes (all_at fun j y hy=>hno j y (by have:=(List.getElem?_eq_some_iff.1 hy).1;omega) hy)];rfl
theorem height_spec {w:World} (hN:GN w) (p:Pit):Gives Tryz.prog 128 #[.agg #[iv p.1,iv p.2.1,iv p.2.2]] w fun r _=>r=iv (numG p):=by
 refine gives_of [.agg [wv p.1,wv p.2.1,wv p.2.2]] 11 [.tmp 2] Tryz.func128 rfl rfl rfl (by simp) rfl rfl ?_
 refine W.pure dn fun K1 k1=>?_
 simp only[E,F,J,M,R,Tz,V,X,Y,reduceIte,G,H,sz];refine k1 _ ?_
 refine W.seqK fun K2 k2=>W.region ?_
 refine WO.go 1 dn ?_
 simp only[E,F,J,M,R,Tz,V,X,Y,reduceIte,G,H,sz]
 refine WO.call (.tuple #[iv (numG p),iv (if validP p=true then 0 else 1)]) dn rfl rfl rfl co114 (fun ρ w1 hb=>Number_spec (hN.now (hb.first (by simp[St.put]))) p) ?_
 refine WO.go 5 dn ?_
 simp only[E,F,J,M,R,Tz,V,X,Y,reduceIte,G,H,sz]
 refine WO.nil ?_
 refine k2 _ ?_
 refine W.pure dn fun K3 k3=>?_
 simp only[E,F,J,M,R,Tz,V,X,Y,reduceIte,G,H,sz];refine k3 _ ?_
 refine W.ret ⟨by simp,_,rfl,fun ρ w1 hb=>?_⟩
 rfl
theorem shifts_spec (w:World) (a b:Int):Gives Tryz.prog 189 #[.agg #[iv a,iv b]] w fun r _=>r=.bool (shiftOk a b):=by
 refine gives_of [.agg [wv a,wv b]] 26 [.tmp 2] Tryz.func189 rfl rfl rfl (by simp) rfl rfl ?_
 refine W.pure dn fun K1 k1=>?_
 simp only[E,F,J,M,R,Tz,V,X,Y,reduceIte,G,H,sz];refine k1 _ ?_
 refine W.seqK fun K2 k2=>W.region ?_
 refine WO.go 1 dn ?_
 simp only[E,F,J,M,R,Tz,V,X,Y,reduceIte,G,H,sz]
 refine WO.call (.tuple #[iv (fifthsF a b).1,iv (fifthsF a b).2]) dn rfl rfl rfl co213 (fun ρ w1 hb=>fifths_spec w1 a b) ?_
 refine WO.go 5 dn ?_
 simp only[E,F,J,M,R,Tz,V,X,Y,reduceIte,G,H,sz]
 refine WO.nil ?_
 refine k2 _ ?_
 refine W.join 2 (.val (.bool (shiftOk a b))) [] (W.region ?_) ?_
 ·
  refine WO.go 3 (ds:=D28_) rfl ?_
  simp only[E,F,J,M,R,Tz,V,X,Y,reduceIte,G,H,sz]
  refine WO.cases 12 _ rfl (fun hg12=>?_) fun hg12=>?_
  ·
   rw[fifths_ok] at hg12
   simp only[fifthsF_yes hg12]
   refine WO.go 2 (ds:=D28_) rfl ?_
   simp only[E,F,J,M,R,Tz,V,X,Y,reduceIte,G,H,sz]
   refine WO.call (.bool (within (-21) 21 a)) (ds:=D28_) rfl rfl rfl rfl co123 (fun ρ w1 hb=>swithin_spec w1 _ _ _) ?_
   refine WO.go 2 (ds:=D28_) rfl ?_
   simp only[E,F,J,M,R,Tz,V,X,Y,reduceIte,G,H,sz]
   refine WO.cases 17 _ rfl (fun hg17=>?_) fun hg17=>?_
   ·
    refine WO.go 2 (ds:=D28_) rfl ?_
    simp only[E,F,J,M,R,Tz,V,X,Y,reduceIte,G,H,sz]
    refine WO.call (.bool (within (-36) 36 b)) (ds:=D28_) rfl rfl rfl rfl co123 (fun ρ w1 hb=>swithin_spec w1 _ _ _) ?_
    refine WO.go 2 (ds:=D28_) rfl ?_
    simp only[E,F,J,M,R,Tz,V,X,Y,reduceIte,G,H,sz]
    refine WO.cases 22 _ rfl (fun hg22=>?_) fun hg22=>?_
    ·
     refine WO.go 1 (ds:=D28_) rfl ?_
     simp only[E,F,J,M,R,Tz,V,X,Y,reduceIte,G,H,sz]
     refine WO.call (.bool (within (-12) 12 (7*b - 12*a))) (ds:=D28_) rfl rfl rfl rfl co123 (fun ρ w1 hb=>swithin_spec w1 _ _ _) ?_
     refine WO.go 2 (ds:=D28_) rfl ?_
     simp only[E,F,J,M,R,Tz,V,X,Y,reduceIte,G,H,sz]
     refine WO.nil ?_
     refine⟨rfl,?_,⟨_,rfl⟩,by simp[Own.bnd,bndL,bnd,boxO],by simp⟩
     unfold shiftOk
     try simp only[fifths_ok] at hg12
     try rw[hg17]
     try rw[hg22]
     try rw[hg12]
     simp[getE,bnd,keepE]
     try simp_all
    ·
     refine WO.go 4 (ds:=D28_) rfl ?_
     simp only[E,F,J,M,R,Tz,V,X,Y,reduceIte,G,H,sz]
     refine WO.nil ?_
     refine⟨rfl,?_,⟨_,rfl⟩,by simp[Own.bnd,bndL,bnd,boxO],by simp⟩
     unfold shiftOk
     try simp only[fifths_ok] at hg12
     try rw[hg17]
     try rw[hg22]
     try rw[hg12]
     simp[getE,bnd,keepE]
     try simp_all
   ·
    refine WO.go 9 (ds:=D28_) rfl ?_
    simp only[E,F,J,M,R,Tz,V,X,Y,reduceIte,G,H,sz]
    refine WO.nil ?_
    refine⟨rfl,?_,⟨_,rfl⟩,by simp[Own.bnd,bndL,bnd,boxO],by simp⟩
    unfold shiftOk
    try simp only[fifths_ok] at hg12
    try rw[hg17]
    try rw[hg22]
    try rw[hg12]
    simp[getE,bnd,keepE]
    try simp_all
  ·
   refine WO.go 14 (ds:=D28_) rfl ?_
   simp only[E,F,J,M,R,Tz,V,X,Y,reduceIte,G,H,sz]
   refine WO.nil ?_
   refine⟨rfl,?_,⟨_,rfl⟩,by simp[Own.bnd,bndL,bnd,boxO],by simp⟩
   unfold shiftOk
   try simp only[fifths_ok] at hg12
   try rw[hg17]
   try rw[hg22]
   try rw[hg12]
   simp[getE,bnd,keepE]
   try simp_all
 ·
  simp only[E,F,J,M,R,Tz,V,X,Y,reduceIte,sxk,G,H,sz]
  refine W.ret ⟨by simp,_,rfl,fun ρ w1 hb=>?_⟩
  rfl
abbrev D49_:List (Option Nat):=[some 27,some 28,some 29,some 30,some 31,some 32,some 33,some 34,some 35,some 36,some 37,some 38,some 39,some 40,some 41,some 42,some 43,some 44,some 45,some 46,some 47,some 48,some 49,some 50,some 51]
abbrev D50_:List (Option Nat):=[some 52,some 53,some 54,some 55,some 56,some 57,some 58,some 59,some 60,some 61,some 62,some 63,some 64,some 65,some 66,some 67,some 68,some 2]
abbrev D48_:List (Option Nat):=[some 4,some 5,some 6,some 7,some 8,some 9,some 10,some 11,some 12,some 13,some 14,some 15,some 16,some 17,some 18,some 19,some 20,some 21,some 22,some 23,some 24,some 25,some 26,some 3]
theorem isPart_spec {w:World} (hN:GN w) (p:Pt) (hp:PartOk p):Gives Tryz.prog 136 #[(ptq p)] w fun r _=>r=.bool true:=by
 refine gives_of [.agg (ptw p)] 69 [.tmp 2] Tryz.func136 rfl rfl rfl (by simp) rfl rfl ?_
 refine W.pure dn fun K1 k1=>?_
 simp only[E,F,J,M,R,Tz,V,X,Y,reduceIte,G,H,sz];refine k1 _ ?_
 refine W.join 3 (.val (.bool true)) [1] (W.region ?_) ?_
 ·
  refine WO.go 2 (ds:=D48_) rfl ?_
  simp only[E,F,J,M,R,Tz,V,X,Y,reduceIte,G,H,sz]
  refine WO.call (.bool true) (ds:=D48_) rfl rfl rfl rfl co69 (fun ρ w1 hb=>by have h9:=sisID_spec w1 p.id;rw[hp.id] at h9;exact h9) ?_
  refine WO.go 3 (ds:=D48_) rfl ?_
  simp only[E,F,J,M,R,Tz,V,X,Y,reduceIte,G,H,sz]
  refine WO.call (.bool true) (ds:=D48_) rfl rfl rfl rfl co123 (fun ρ w1 hb=>by have h9:=swithin_spec w1 p.sec 0 99;rw[hp.sec] at h9;exact h9) ?_
  refine WO.go 4 (ds:=D48_) rfl ?_
  simp only[E,F,J,M,R,Tz,V,X,Y,reduceIte,G,H,sz]
  refine WO.call (.bool true) (ds:=D48_) rfl rfl rfl rfl co123 (fun ρ w1 hb=>by have h9:=swithin_spec w1 p.src 0 1000000;rw[hp.src] at h9;exact h9) ?_
  refine WO.go 4 (ds:=D48_) rfl ?_
  simp only[E,F,J,M,R,Tz,V,X,Y,reduceIte,G,H,sz]
  refine WO.call (.bool true) (ds:=D48_) rfl rfl rfl rfl co123 (fun ρ w1 hb=>by have h9:=swithin_spec w1 p.oct (-2) 2;rw[hp.oct] at h9;exact h9) ?_
  refine WO.go 4 (ds:=D48_) rfl ?_
  simp only[E,F,J,M,R,Tz,V,X,Y,reduceIte,G,H,sz]
  refine WO.call (.bool true) (ds:=D48_) rfl rfl rfl rfl co123 (fun ρ w1 hb=>by have h9:=swithin_spec w1 p.desks 1 40;rw[hp.desks] at h9;exact h9) ?_
  refine WO.go 2 (ds:=D48_) rfl ?_
  simp only[E,F,J,M,R,Tz,V,X,Y,reduceIte,G,H,sz]
  refine WO.nil ?_
  refine⟨rfl,?_,⟨_,rfl⟩,by simp[Own.bnd,bndL,bnd,boxO],by simp⟩
  simp[getE,bnd,keepE]
 ·
  simp only[E,F,J,M,R,Tz,V,X,Y,reduceIte,sxk,G,H,sz]
  refine W.seqK fun K3 k3=>?_
  refine W.join 51 (.val (.bool false)) [1] (W.region ?_) ?_
  ·
   refine WO.go 10 (ds:=D49_) rfl ?_
   simp only[E,F,J,M,R,Tz,V,X,Y,reduceIte,G,H,sz]
   refine WO.cases 36 _ rfl (fun hg36=>?_) fun hg36=>?_
   ·
    exact absurd (by simpa using hg36) hp.ne
   ·
    refine WO.go 4 (ds:=D49_) rfl ?_
    simp only[E,F,J,M,R,Tz,V,X,Y,reduceIte,G,H,sz]
    refine WO.cases 40 _ rfl (fun hg40=>?_) fun hg40=>?_
    ·
     refine WO.go 6 (ds:=D49_) rfl ?_
     simp only[E,F,J,M,R,Tz,V,X,Y,reduceIte,G,H,sz]
     refine WO.cases 46 _ rfl (fun hg46=>?_) fun hg46=>?_
     ·
      exact absurd (hp.own (by simpa using hg40)) (by simpa using hg46)
     ·
      refine WO.go 2 (ds:=D49_) rfl ?_
      simp only[E,F,J,M,R,Tz,V,X,Y,reduceIte,G,H,sz]
      refine WO.call (.bool true) (ds:=D49_) rfl rfl rfl rfl co189 (fun ρ w1 hb=>by have h9:=shifts_spec w1 p.sa p.sb;rw[hp.shift] at h9;exact h9) ?_
      refine WO.go 2 (ds:=D49_) rfl ?_
      simp only[E,F,J,M,R,Tz,V,X,Y,reduceIte,G,H,sz]
      refine WO.nil ?_
      refine⟨rfl,?_,⟨_,rfl⟩,by simp[Own.bnd,bndL,bnd,boxO],by simp⟩
      simp[getE,bnd,keepE]
    ·
     refine WO.go 8 (ds:=D49_) rfl ?_
     simp only[E,F,J,M,R,Tz,V,X,Y,reduceIte,G,H,sz]
     refine WO.call (.bool true) (ds:=D49_) rfl rfl rfl rfl co189 (fun ρ w1 hb=>by have h9:=shifts_spec w1 p.sa p.sb;rw[hp.shift] at h9;exact h9) ?_
     refine WO.go 2 (ds:=D49_) rfl ?_
     simp only[E,F,J,M,R,Tz,V,X,Y,reduceIte,G,H,sz]
     refine WO.nil ?_
     refine⟨rfl,?_,⟨_,rfl⟩,by simp[Own.bnd,bndL,bnd,boxO],by simp⟩
     simp[getE,bnd,keepE]
  ·
   simp only[E,F,J,M,R,Tz,V,X,Y,reduceIte,sxk,G,H,sz]
   refine W.cond rfl rfl (fun hc=>?_) fun hc=>?_
   ·
    simp at hc
   ·
    refine W.skip (k3 _ ?_)
    refine W.seqK fun K5 k5=>?_
    refine W.regionQ mixed (by kernel_rfl) ?_
    refine WQ.go 2 (ds:=D50_) rfl ?_
    simp only[E,F,J,M,R,Tz,V,X,Y,reduceIte,sxq,G,H,sz]
    refine WQ.call (.bool true) (ds:=D50_) rfl rfl rfl rfl co119 (fun ρ w1 hb=>by have h9:=valid_spec w1 p.low;rw[hp.low] at h9;exact h9) ?_
    refine WQ.go 3 (ds:=D50_) rfl ?_
    simp only[E,F,J,M,R,Tz,V,X,Y,reduceIte,sxq,G,H,sz]
    refine WQ.call (.bool true) (ds:=D50_) rfl rfl rfl rfl co119 (fun ρ w1 hb=>by have h9:=valid_spec w1 p.high;rw[hp.high] at h9;exact h9) ?_
    refine WQ.go 4 (ds:=D50_) rfl ?_
    simp only[E,F,J,M,R,Tz,V,X,Y,reduceIte,sxq,G,H,sz]
    refine WQ.call (iv (numG p.low)) (ds:=D50_) rfl rfl rfl rfl co128 (fun ρ w1 hb=>height_spec (hN.now (hb.first (by simp[St.put]))) p.low) ?_
    refine WQ.go 2 (ds:=D50_) rfl ?_
    simp only[E,F,J,M,R,Tz,V,X,Y,reduceIte,sxq,G,H,sz]
    refine WQ.call (iv (numG p.high)) (ds:=D50_) rfl rfl rfl rfl co128 (fun ρ w1 hb=>height_spec (hN.now (hb.first (by simp[St.put]))) p.high) ?_
    refine WQ.go 3 (ds:=D50_) rfl ?_
    simp only[E,F,J,M,R,Tz,V,X,Y,reduceIte,sxq,G,H,sz]
    refine WQ.nil ?_
    refine k5 _ ?_
    refine W.ret ⟨by simp,_,rfl,fun ρ w1 hb=>?_⟩
    simp[den,numG,hp.low,hp.high,hp.range]
def fIx {α:Type} (q:α→Bool) (l:List α):Int:=match l.findIdx? q with
 | some i=>i
 | none=>-1
theorem fIx_some {α:Type} {q:α→Bool} {l:List α} {i:Nat} {x:α} (h:∀ (j:Nat),j<i→∀ y,l[j]?=some y→q y=false) (hi:l[i]?=some x) (hx:q x=true):fIx q l=i:=by
 unfold fIx
 obtain⟨hlt,he⟩:=List.getElem?_eq_some_iff.1 hi
 have:l.findIdx? q=some i:=by
  rw[List.findIdx?_eq_some_iff_getElem]
  refine⟨hlt,by rw[he];exact hx,fun j hj=>?_⟩
  have:=h j hj l[j] (List.getElem?_eq_getElem (by omega))
  simp[this]
 rw[this]
theorem fIx_none {α:Type} {q:α→Bool} {l:List α} (h:∀ (j:Nat) y,l[j]?=some y→q y=false):fIx q l=-1:=by
 unfold fIx
 have:l.findIdx? q=none:=by
  rw[List.findIdx?_eq_none_iff]
  intro y hy
  obtain⟨j,hj,hjy⟩:=List.getElem_of_mem hy
  exact h j y (by rw[List.getElem?_eq_getElem hj,hjy])
 rw[this]
theorem fIx_any {α:Type} (q:α→Bool) (l:List α):decide (0≤fIx q l)=l.any q:=by
 unfold fIx
 cases h:l.findIdx? q with
 | none=>rw[List.findIdx?_eq_none_iff] at h;simp only;rw[show l.any q=false by rw[List.any_eq_false];intro x hx;simp[h x hx]];rfl
 |
  some i=>
  rw[List.findIdx?_eq_some_iff_getElem] at h
  obtain⟨hi,h1,_⟩:=h
  simp only
  rw[show l.any q=true by rw[List.any_eq_true];exact⟨l[i],List.getElem_mem hi,h1⟩]
  exact decide_eq_true (by omega)
theorem fIx_ix {α:Type} (f:α→Int) (l:List α) (x:Int):fIx (fun y=>f y == x) l=ixOf (l.map f) x:=by
 unfold fIx ixOf
 rw[List.findIdx?_map];rfl
theorem indexPt_spec {S:Nat→Prop} {w:World} {v:Value} {l:List Pt} (hl:rPts.rd S w [v] l) (q:Pt→Bool) (K:FuncId) (caps:Array Value) (hK:callOk Tryz.prog K=true)
  (hq:∀ w1,Keep (fun _=>True) w w1→∀ x,x∈l→Gives Tryz.prog K (#[(ptq x)]++caps) w1 fun r _=>r=.bool (q x)):Gives Tryz.prog 89 #[v,.func (.func K) #[] caps] w fun r _=>r=iv (fIx q l):=by
 obtain⟨p,c,rfl,hc1,hc2⟩:=Rp.slice_val hl
 have hl:(Rp.slice rPt).rd (fun _=>True) w _ l:=Rp.any hl
 refine gives_of [.val (.slice p l.length c),.val (.func (.func K) #[] caps)] 19 [.tmp 4] Tryz.func89 rfl rfl rfl (by simp) rfl rfl ?_
 refine W.pure dn fun K1 k1=>?_
 simp only[E,F,J,M,R,Tz,V,X,Y,reduceIte,G,H,sz];refine k1 _ ?_
 refine W.seqK fun K2 k2=>?_
 refine W.pure dn fun K3 k3=>?_
 simp only[E,F,J,M,R,Tz,V,X,Y,reduceIte,G,H,sz];refine k3 _ ?_
 refine W.block ?_
 refine W.loopK (X:=Nat) [0,1,7] (fun x=>[(8,wv (x:Int))]) (fun x=>x≤l.length∧∀ j,j<x→∀ y,l[j]?=some y→q y=false) (fun x=>l.length - x) 0 ?_ ?_ ?_
 · exact⟨rfl,by simp[getE,bnd,keepE],⟨[],by simp⟩,by simp[Own.bnd,bndL,bnd,boxO],by simp⟩
 ·
  exact⟨Nat.zero_le _,fun j hj=>by omega⟩
 ·
  rintro i ⟨hi,hno⟩
  simp only[E,F,J,M,R,Tz,V,X,Y,reduceIte,sxk,G,H,sz]
  refine W.pure dn fun K4 k4=>?_
  simp only[E,F,J,M,R,Tz,V,X,Y,reduceIte,G,H,sz];refine k4 _ ?_
  refine W.seqK fun K5 k5=>?_
  refine W.cond rfl rfl (fun hc=>?_) fun hc=>?_
  ·
   have hlt:i<l.length:=by simpa using hc
   obtain⟨y,hy⟩:=len_lt (rfl:l.length=_) hlt
   refine W.skip (k5 _ ?_)
   refine W.seqK fun K6 k6=>?_
   refine W.block ?_
   refine W.pure dn fun K7 k7=>?_
   simp only[E,F,J,M,R,Tz,V,X,Y,reduceIte,G,H,sz];refine k7 _ ?_
   refine W.seqK fun K8 k8=>W.region ?_
   refine WO.go 3 dn ?_
   simp only[E,F,J,M,R,Tz,V,X,Y,reduceIte,G,H,sz]
   refine WO.elem (y:=y) hl (by simp[St.put]) dn rfl rfl (by simp[St.put]) (fun _=>rfl) rfl rfl rfl rfl rfl el23 agg50 sz50 (.inl rfl) (by omega) (hy) fun p ces hces=>?_
   have hces:ces=ptV y:=hces
   subst hces
   simp only[ptV,ofCells,if_true,List.toList_toArray,sr]
   simp only[E,F,J,M,R,Tz,V,X,Y,reduceIte,G,H,sz]
   refine WO.call (.bool (q y)) dn rfl rfl rfl hK (fun ρ w1 hb=>by have:=hq w1 (hb.first (by simp[St.put])) y (List.mem_of_getElem? hy);rw[← argsCap] at this;simpa [denL_eq,den,Function.comp_def] using this) ?_
   simp only[E,F,J,M,R,Tz,V,X,Y,reduceIte,G,H,sz]
   refine WO.nil ?_
   refine k8 _ ?_
   refine W.cond rfl rfl (fun hc=>?_) fun hc=>?_
   ·
    have hq9:q y=true:=hc
    refine W.pure dn fun K9 k9=>?_
    simp only[E,F,J,M,R,Tz,V,X,Y,reduceIte,G,H,sz];refine k9 _ ?_
    refine W.ret ⟨by simp,_,rfl,fun ρ w1 hb=>?_⟩
    rw[fIx_some hno hy hq9];rfl
   ·
    have hq9:q y=false:=hc
    refine W.skip (k6 _ ?_)
    refine W.region ?_
    refine WO.go 2 dn ?_
    simp only[E,F,J,M,R,Tz,V,X,Y,reduceIte,G,H,sz]
    refine WO.nil ?_
    refine⟨i+1,?_,by first | omega | (simp;omega),rfl,by simp[getE,bnd,keepE,wrap_succ (show i+1≤9223372036854775807 by omega)],⟨_,rfl⟩,by simp[Own.bnd,bndL,bnd,boxO],by simp⟩
    refine⟨hlt,fun j hj z hz=>?_⟩
    rcases Nat.lt_succ_iff_lt_or_eq.1 hj with h | rfl
    · exact hno j h z hz
    · rw[hy] at hz;obtain rfl:=Option.some.inj hz;exact hq9
  ·
   have hge:l.length≤i:=by simpa using hc
   refine W.exit (k2 _ ?_)
   refine W.pure dn fun K10 k10=>?_
   simp only[E,F,J,M,R,Tz,V,X,Y,reduceIte,G,H,sz];refine k10 _ ?_
   refine W.ret ⟨by simp,_,rfl,fun ρ w1 hb=>?_⟩
   rw[fIx_none fun j y hy=>hno j (by have:=(List.getElem?_eq_some_iff.1 hy).1;omega) y hy];rfl
theorem containsPt_spec {S:Nat→Prop} {w:World} {v:Value} {l:List Pt} (hl:rPts.rd S w [v] l) (q:Pt→Bool) (K:FuncId) (caps:Array Value) (hK:callOk Tryz.prog K=true)
  (hq:∀ w1,Keep (fun _=>True) w w1→∀ x,x∈l→Gives Tryz.prog K (#[(ptq x)]++caps) w1 fun r _=>r=.bool (q x)):Gives Tryz.prog 138 #[v,.func (.func K) #[] caps] w fun r _=>r=.bool (l.any q):=by
 obtain⟨p,c,rfl,hc1,hc2⟩:=Rp.slice_val hl
 have hl:(Rp.slice rPt).rd (fun _=>True) w _ l:=Rp.any hl
 refine gives_of [.val (.slice p l.length c),.val (.func (.func K) #[] caps)] 9 [.tmp 4] Tryz.func138 rfl rfl rfl (by simp) rfl rfl ?_
 refine W.pure dn fun K1 k1=>?_
 simp only[E,F,J,M,R,Tz,V,X,Y,reduceIte,G,H,sz];refine k1 _ ?_
 refine W.seqK fun K2 k2=>W.region ?_
 refine WO.go 2 dn ?_
 simp only[E,F,J,M,R,Tz,V,X,Y,reduceIte,G,H,sz]
 refine WO.call (iv (fIx q l)) dn rfl rfl rfl co89 (fun ρ w1 hb=>indexPt_spec (Rp.now hl (hb.first (by simp))) q K caps hK fun w2 hk=>hq w2 ((hb.first (by simp)).trans hk)) ?_
 refine WO.go 2 dn ?_
 simp only[E,F,J,M,R,Tz,V,X,Y,reduceIte,G,H,sz]
 refine WO.nil ?_
 refine k2 _ ?_
 refine W.ret ⟨by simp,_,rfl,fun ρ w1 hb=>?_⟩
 simp only[den]
 rw[fIx_any]
theorem indexNt_spec {S:Nat→Prop} {w:World} {v:Value} {l:List Nt} (hl:rNts.rd S w [v] l) (q:Nt→Bool) (K:FuncId) (caps:Array Value) (hK:callOk Tryz.prog K=true)
  (hq:∀ w1,Keep (fun _=>True) w w1→∀ x,x∈l→Gives Tryz.prog K (#[(ntq x)]++caps) w1 fun r _=>r=.bool (q x)):Gives Tryz.prog 139 #[v,.func (.func K) #[] caps] w fun r _=>r=iv (fIx q l):=by
 obtain⟨p,c,rfl,hc1,hc2⟩:=Rp.slice_val hl
 have hl:(Rp.slice rNt).rd (fun _=>True) w _ l:=Rp.any hl
 refine gives_of [.val (.slice p l.length c),.val (.func (.func K) #[] caps)] 19 [.tmp 4] Tryz.func139 rfl rfl rfl (by simp) rfl rfl ?_
 refine W.pure dn fun K1 k1=>?_
 simp only[E,F,J,M,R,Tz,V,X,Y,reduceIte,G,H,sz];refine k1 _ ?_
 refine W.seqK fun K2 k2=>?_
 refine W.pure dn fun K3 k3=>?_
 simp only[E,F,J,M,R,Tz,V,X,Y,reduceIte,G,H,sz];refine k3 _ ?_
 refine W.block ?_
 refine W.loopK (X:=Nat) [0,1,7] (fun x=>[(8,wv (x:Int))]) (fun x=>x≤l.length∧∀ j,j<x→∀ y,l[j]?=some y→q y=false) (fun x=>l.length - x) 0 ?_ ?_ ?_
 · exact⟨rfl,by simp[getE,bnd,keepE],⟨[],by simp⟩,by simp[Own.bnd,bndL,bnd,boxO],by simp⟩
 ·
  exact⟨Nat.zero_le _,fun j hj=>by omega⟩
 ·
  rintro i ⟨hi,hno⟩
  simp only[E,F,J,M,R,Tz,V,X,Y,reduceIte,sxk,G,H,sz]
  refine W.pure dn fun K4 k4=>?_
  simp only[E,F,J,M,R,Tz,V,X,Y,reduceIte,G,H,sz];refine k4 _ ?_
  refine W.seqK fun K5 k5=>?_
  refine W.cond rfl rfl (fun hc=>?_) fun hc=>?_
  ·
   have hlt:i<l.length:=by simpa using hc
   obtain⟨y,hy⟩:=len_lt (rfl:l.length=_) hlt
   refine W.skip (k5 _ ?_)
   refine W.seqK fun K6 k6=>?_
   refine W.block ?_
   refine W.pure dn fun K7 k7=>?_
   simp only[E,F,J,M,R,Tz,V,X,Y,reduceIte,G,H,sz];refine k7 _ ?_
   refine W.seqK fun K8 k8=>W.region ?_
   refine WO.go 3 dn ?_
   simp only[E,F,J,M,R,Tz,V,X,Y,reduceIte,G,H,sz]
   refine WO.elem (y:=y) hl (by simp[St.put]) dn rfl rfl (by simp[St.put]) (fun _=>rfl) rfl rfl rfl rfl rfl el24 agg89 sz89 (.inl rfl) (by omega) (hy) fun p ces hces=>?_
   have hces:ces=ntV y:=hces
   subst hces
   simp only[ntV,ofCells,if_true,List.toList_toArray,sr]
   simp only[E,F,J,M,R,Tz,V,X,Y,reduceIte,G,H,sz]
   refine WO.call (.bool (q y)) dn rfl rfl rfl hK (fun ρ w1 hb=>by have:=hq w1 (hb.first (by simp[St.put])) y (List.mem_of_getElem? hy);rw[← argsCap] at this;simpa [denL_eq,den,Function.comp_def] using this) ?_
   simp only[E,F,J,M,R,Tz,V,X,Y,reduceIte,G,H,sz]
   refine WO.nil ?_
   refine k8 _ ?_
   refine W.cond rfl rfl (fun hc=>?_) fun hc=>?_
   ·
    have hq9:q y=true:=hc
    refine W.pure dn fun K9 k9=>?_
    simp only[E,F,J,M,R,Tz,V,X,Y,reduceIte,G,H,sz];refine k9 _ ?_
    refine W.ret ⟨by simp,_,rfl,fun ρ w1 hb=>?_⟩
    rw[fIx_some hno hy hq9];rfl
   ·
    have hq9:q y=false:=hc
    refine W.skip (k6 _ ?_)
    refine W.region ?_
    refine WO.go 2 dn ?_
    simp only[E,F,J,M,R,Tz,V,X,Y,reduceIte,G,H,sz]
    refine WO.nil ?_
    refine⟨i+1,?_,by first | omega | (simp;omega),rfl,by simp[getE,bnd,keepE,wrap_succ (show i+1≤9223372036854775807 by omega)],⟨_,rfl⟩,by simp[Own.bnd,bndL,bnd,boxO],by simp⟩
    refine⟨hlt,fun j hj z hz=>?_⟩
    rcases Nat.lt_succ_iff_lt_or_eq.1 hj with h | rfl
    · exact hno j h z hz
    · rw[hy] at hz;obtain rfl:=Option.some.inj hz;exact hq9
  ·
   have hge:l.length≤i:=by simpa using hc
   refine W.exit (k2 _ ?_)
   refine W.pure dn fun K10 k10=>?_
   simp only[E,F,J,M,R,Tz,V,X,Y,reduceIte,G,H,sz];refine k10 _ ?_
   refine W.ret ⟨by simp,_,rfl,fun ρ w1 hb=>?_⟩
   rw[fIx_none fun j y hy=>hno j (by have:=(List.getElem?_eq_some_iff.1 hy).1;omega) y hy];rfl
theorem containsNt_spec {S:Nat→Prop} {w:World} {v:Value} {l:List Nt} (hl:rNts.rd S w [v] l) (q:Nt→Bool) (K:FuncId) (caps:Array Value) (hK:callOk Tryz.prog K=true)
  (hq:∀ w1,Keep (fun _=>True) w w1→∀ x,x∈l→Gives Tryz.prog K (#[(ntq x)]++caps) w1 fun r _=>r=.bool (q x)):Gives Tryz.prog 129 #[v,.func (.func K) #[] caps] w fun r _=>r=.bool (l.any q):=by
 obtain⟨p,c,rfl,hc1,hc2⟩:=Rp.slice_val hl
 have hl:(Rp.slice rNt).rd (fun _=>True) w _ l:=Rp.any hl
 refine gives_of [.val (.slice p l.length c),.val (.func (.func K) #[] caps)] 9 [.tmp 4] Tryz.func129 rfl rfl rfl (by simp) rfl rfl ?_
 refine W.pure dn fun K1 k1=>?_
 simp only[E,F,J,M,R,Tz,V,X,Y,reduceIte,G,H,sz];refine k1 _ ?_
 refine W.seqK fun K2 k2=>W.region ?_
 refine WO.go 2 dn ?_
 simp only[E,F,J,M,R,Tz,V,X,Y,reduceIte,G,H,sz]
 refine WO.call (iv (fIx q l)) dn rfl rfl rfl co139 (fun ρ w1 hb=>indexNt_spec (Rp.now hl (hb.first (by simp))) q K caps hK fun w2 hk=>hq w2 ((hb.first (by simp)).trans hk)) ?_
 refine WO.go 2 dn ?_
 simp only[E,F,J,M,R,Tz,V,X,Y,reduceIte,G,H,sz]
 refine WO.nil ?_
 refine k2 _ ?_
 refine W.ret ⟨by simp,_,rfl,fun ρ w1 hb=>?_⟩
 simp only[den]
 rw[fIx_any]
def ptA (p:Pt):Value:=(ptq p)
def ptZ:Pt:=⟨0,0,0,0,0,0,0,(0,0,0),(0,0,0)⟩
theorem src_find {l:List Pt} (hl:PartsOk l) {p:Pt} (hp:p∈l):∃ (u:Pt) (b:Bool),vmGet (kvOf Pt.id ptA l) p.src (ptA ptZ) (ptA u) b∧(p.src=0∨(b=true∧u.src=0)):=by
 by_cases h0:p.src=0
 ·
  refine⟨ptZ,false,kv_no fun hm=>?_,.inl h0⟩
  obtain⟨q,hq,he⟩:=List.mem_map.1 hm
  have:=within_iff.1 (hl.all q hq).id
  rw[he,h0] at this
  omega
 ·
  obtain⟨q,h1,h2,h3⟩:=hl.src p hp h0
  have h9:=kv_yes (f:=Pt.id) (g:=ptA) (z:=ptA ptZ) hl.nd h1
  rw[h2] at h9
  exact⟨q,true,h9,.inr ⟨rfl,h3⟩⟩
abbrev D51_:List (Option Nat):=[some 13,some 14,some 15,some 16,some 17,some 18,some 19,some 20,some 21,some 22,some 23,some 24,some 3]
theorem lost_spec {w:World} {a:Addr} {r:Nat} {l:List Pt} (hbx:At w a [.map (some r)]) (hbz:a.block<w.heap.size) (hm:w.heap[r]?=some (.map (vmE (kvOf Pt.id ptA l)) (kvOf Pt.id ptA l).length)) (hl:PartsOk l) (p:Pt) (hp:p∈l):Gives Tryz.prog 137 #[(ptq p),.pointer (some a)] w fun r _=>r=.bool false:=by
 have hrz:r<w.heap.size:=(Array.getElem?_eq_some_iff.1 hm).1
 obtain⟨u,b,hg,hb9⟩:=src_find hl hp
 refine gives_of [.agg (ptw p),.val (.pointer (some a))] 25 [.tmp 3] Tryz.func137 rfl rfl rfl (by simp) rfl rfl ?_
 refine W.pure dn fun K1 k1=>?_
 simp only[E,F,J,M,R,Tz,V,X,Y,reduceIte,G,H,sz];refine k1 _ ?_
 refine W.seqK fun K2 k2=>W.region ?_
 refine WO.q dn rfl rfl (QR.load [.map (some r)] false rfl rfl agg206 sz206 (.inr rfl) (fun ρ w1 hb=>hbx.now (S:=fun _=>True) hb (by simp[St.put]) trivial hbz)) ?_
 simp only[ofCells,sr]
 refine WO.go 2 dn ?_
 simp only[E,F,J,M,R,Tz,V,X,Y,reduceIte,G,H,sz]
 refine WO.q dn rfl rfl (QR.lookup (r:=r) (ks:=(kvOf Pt.id ptA l)) (.agg #[iv 0,iv 0,iv 0,iv 0,iv 0,iv 0,iv 0,iv 0,iv 0,iv 0,iv 0,iv 0,iv 0]) (ptq u) b true rfl rfl rfl (fun ρ w1 hb=>(((hb.first (w0:=w) (by simp[St.put])).block r trivial hrz).trans hm)) (by kernel_rfl) (hg)) ?_
 simp only[Bool.false_eq_true,if_false,if_true]
 refine WO.go 6 dn ?_
 simp only[E,F,J,M,R,Tz,V,X,Y,reduceIte,G,H,sz]
 refine WO.nil ?_
 refine k2 _ ?_
 refine W.join 3 (.val (.bool false)) [] (W.region ?_) ?_
 ·
  refine WO.go 4 (ds:=D51_) rfl ?_
  simp only[E,F,J,M,R,Tz,V,X,Y,reduceIte,G,H,sz]
  refine WO.cases 16 _ rfl (fun hg16=>?_) fun hg16=>?_
  ·
   obtain⟨hb1,hu0⟩:=hb9.resolve_left (by simpa using hg16)
   refine WO.go 3 (ds:=D51_) rfl ?_
   simp only[E,F,J,M,R,Tz,V,X,Y,reduceIte,G,H,sz]
   refine WO.cases 19 _ rfl (fun hg19=>?_) fun hg19=>?_
   ·
    rw[hb1] at hg19;cases hg19
   ·
    refine WO.go 6 (ds:=D51_) rfl ?_
    simp only[E,F,J,M,R,Tz,V,X,Y,reduceIte,G,H,sz]
    refine WO.nil ?_
    refine⟨rfl,?_,⟨_,rfl⟩,by simp[Own.bnd,bndL,bnd,boxO],by simp⟩
    simp[getE,bnd,keepE]
    try simp[hu0]
  ·
   refine WO.go 9 (ds:=D51_) rfl ?_
   simp only[E,F,J,M,R,Tz,V,X,Y,reduceIte,G,H,sz]
   refine WO.nil ?_
   refine⟨rfl,?_,⟨_,rfl⟩,by simp[Own.bnd,bndL,bnd,boxO],by simp⟩
   simp[getE,bnd,keepE]
   try simp[hu0]
 ·
  simp only[E,F,J,M,R,Tz,V,X,Y,reduceIte,sxk,G,H,sz]
  refine W.ret ⟨by simp,_,rfl,fun ρ w1 hb=>?_⟩
  rfl
abbrev D52_:List (Option Nat):=[some 27,some 28,some 29,some 30,some 31,some 32,some 33,some 34,some 35,some 36,some 37,some 2]
theorem areParts_spec {S:Nat→Prop} {w:World} {v:Value} {l:List Pt} (hN:GN w) (hl:rPts.rd S w [v] l) (hv:PartsOk l):Gives Tryz.prog 79 #[v] w fun r _=>r=.bool true:=by
 obtain⟨p,c,rfl,hc1,hc2⟩:=Rp.slice_val hl
 have hl:(Rp.slice rPt).rd (fun _=>True) w _ l:=Rp.any hl
 have hwl:within 1 60 (l.length:Int)=true:=by rw[within_iff];have:=hv.len;have:=hv.one;omega
 have hlen:=hv.len
 refine gives_of [.val (.slice p l.length c)] 38 [.tmp 2] Tryz.func79 rfl rfl rfl (by simp) rfl rfl ?_
 refine W.pure dn fun K1 k1=>?_
 simp only[E,F,J,M,R,Tz,V,X,Y,reduceIte,G,H,sz];refine k1 _ ?_
 refine W.seqK fun K2 k2=>?_
 refine W.seqK fun K3 k3=>W.region ?_
 refine WO.go 2 dn ?_
 simp only[E,F,J,M,R,Tz,V,X,Y,reduceIte,G,H,sz]
 refine WO.call (.bool true) dn rfl rfl rfl co123 (fun ρ w1 hb=>by have h9:=swithin_spec w1 (l.length:Int) 1 60;rw[hwl] at h9;exact h9) ?_
 refine WO.go 1 dn ?_
 simp only[E,F,J,M,R,Tz,V,X,Y,reduceIte,G,H,sz]
 refine WO.nil ?_
 refine k3 _ ?_
 refine W.cond rfl rfl (fun hc=>?_) fun hc=>?_
 ·
  simp at hc
 ·
  refine W.skip (k2 _ ?_)
  refine W.seqK fun K4 k4=>W.region ?_
  refine WO.makeV dn rfl rfl rfl fun r=>?_
  simp only[St.pushO]
  refine WO.go 2 dn ?_
  simp only[E,F,J,M,R,Tz,V,X,Y,reduceIte,G,H,sz]
  refine WO.nil ?_
  refine k4 _ ?_
  refine W.seqK fun K5 k5=>?_
  refine W.pure dn fun K6 k6=>?_
  simp only[E,F,J,M,R,Tz,V,X,Y,reduceIte,G,H,sz];refine k6 _ ?_
  refine W.block ?_
  refine W.loopO (X:=Nat) [0,3,12,13] (fun x=>[(14,wv (x:Int))]) (fun x=>[.map r (vmE (kvOf Pt.id ptA (l.take x))) (kvOf Pt.id ptA (l.take x)).length,.cells 206 [.val (.map (some r))]]) (fun x=>[((fun _=>True),w)]) (fun x=>x≤l.length) (fun x=>l.length - x) 0 ?_ ?_ ?_
  · exact⟨rfl,by simp[getE,bnd,keepE],⟨[],by simp[kvOf]⟩,by simp[Own.bnd,bndL,bnd,boxO],by simp⟩
  ·
   exact Nat.zero_le _
  ·
   rintro i hi
   simp only[E,F,J,M,R,Tz,V,X,Y,reduceIte,sxk,G,H,sz]
   refine W.pure dn fun K7 k7=>?_
   simp only[E,F,J,M,R,Tz,V,X,Y,reduceIte,G,H,sz];refine k7 _ ?_
   refine W.seqK fun K8 k8=>?_
   refine W.cond rfl rfl (fun hc=>?_) fun hc=>?_
   ·
    have hlt:i<l.length:=by simpa using hc
    obtain⟨y,hy⟩:=len_lt (rfl:l.length=_) hlt
    have hym:=List.mem_of_getElem? hy
    have hnew:=kv_new (g:=ptA) hv.nd hy
    refine W.skip (k8 _ ?_)
    refine W.seqK fun K9 k9=>?_
    refine W.block ?_
    refine W.seqK fun K10 k10=>W.region ?_
    refine WO.elem (y:=y) hl (by simp[St.put]) dn rfl rfl (by simp[St.put]) (fun _=>rfl) rfl rfl rfl rfl rfl el23 agg50 sz50 (.inl rfl) (by omega) (hy) fun p ces hces=>?_
    have hces:ces=ptV y:=hces
    subst hces
    simp only[ptV,ofCells,if_true,List.toList_toArray,sr]
    refine WO.go 2 dn ?_
    simp only[E,F,J,M,R,Tz,V,X,Y,reduceIte,G,H,sz]
    refine WO.nil ?_
    refine k10 _ ?_
    refine W.seqK fun K11 k11=>?_
    refine W.seqK fun K12 k12=>W.region ?_
    refine WO.go 1 dn ?_
    simp only[E,F,J,M,R,Tz,V,X,Y,reduceIte,G,H,sz]
    refine WO.call (.bool true) dn rfl rfl rfl co136 (fun ρ w1 hb=>isPart_spec (hN.now (hb.first (by simp[St.put]))) y (hv.all y hym)) ?_
    refine WO.go 1 dn ?_
    simp only[E,F,J,M,R,Tz,V,X,Y,reduceIte,G,H,sz]
    refine WO.nil ?_
    refine k12 _ ?_
    refine W.cond rfl rfl (fun hc=>?_) fun hc=>?_
    ·
     simp at hc
    ·
     refine W.skip (k11 _ ?_)
     refine W.region ?_
     refine WO.go 4 dn ?_
     simp only[E,F,J,M,R,Tz,V,X,Y,reduceIte,G,H,sz]
     refine WO.addV (k:=0) (ks:=(kvOf Pt.id ptA (l.take i))) (ptA y) dn rfl rfl rfl rfl rfl rfl ⟨_,rfl,fun _=>rfl⟩ (by kernel_rfl) hnew ?_
     rw[← show(kvOf Pt.id ptA (l.take (i+1)))=(kvOf Pt.id ptA (l.take i))++[(y.id,ptA y)] from kv_take (g:=ptA) hy]
     simp only[E,F,J,M,R,Tz,V,X,Y,reduceIte,G,H,sz]
     refine WO.nil ?_
     refine k9 _ ?_
     refine W.region ?_
     refine WO.go 2 dn ?_
     simp only[E,F,J,M,R,Tz,V,X,Y,reduceIte,G,H,sz]
     refine WO.nil ?_
     refine⟨i+1,hlt,by omega,rfl,by simp[getE,bnd,keepE,wrap_succ (show i+1≤9223372036854775807 by omega)],⟨_,rfl⟩,by simp[Own.bnd,bndL,bnd],by simp⟩
   ·
    have hge:l.length≤i:=by simpa using hc
    rw[List.take_of_length_le hge]
    refine W.exit (k5 _ ?_)
    refine W.pure dn fun K13 k13=>?_
    simp only[E,F,J,M,R,Tz,V,X,Y,reduceIte,G,H,sz];refine k13 _ ?_
    refine W.seqK fun K14 k14=>W.region ?_
    refine WO.go 1 (ds:=D52_) rfl ?_
    simp only[E,F,J,M,R,Tz,V,X,Y,reduceIte,G,H,sz]
    refine WO.q (ds:=D52_) rfl rfl rfl (QR.lenMap (r:=r) (ks:=(kvOf Pt.id ptA l)) rfl rfl (fun ρ w1 hb=>own_map hb (k:=0) rfl) (by kernel_rfl)) ?_
    rw[kv_len]
    refine WO.go 6 (ds:=D52_) rfl ?_
    simp only[E,F,J,M,R,Tz,V,X,Y,reduceIte,G,H,sz]
    refine WO.call (.bool false) (ds:=D52_) rfl rfl rfl rfl co138 (fun ρ w1 hb=>by
                              obtain⟨g1,g2⟩:=own_cells (k:=1) hb rfl 0
                              have g3:=own_map hb (k:=0) rfl
                              rw[← kv_len Pt.id ptA l] at g3
                              have h9:=containsPt_spec (Rp.now hl (hb.first (by simp[St.put]))) (fun _=>false) 137 #[.pointer (some ⟨ρ 1,0,none⟩)] co137 fun w2 hk x hx=>lost_spec (g1.frame (hk.block _ trivial g2)) (Nat.lt_of_lt_of_le g2 hk.size) ((hk.block r trivial (Array.getElem?_eq_some_iff.1 g3).1).trans g3) hv x hx
                              rw[show l.any (fun _=>false)=false by simp] at h9
                              exact h9) ?_
    refine WO.go 3 (ds:=D52_) rfl ?_
    simp only[E,F,J,M,R,Tz,V,X,Y,reduceIte,G,H,sz]
    refine WO.nil ?_
    refine k14 _ ?_
    refine W.ret ⟨by simp,_,rfl,fun ρ w1 hb=>?_⟩
    rfl
def orF:List Int→Int
 | []=>0
 | x::l=>if x=0 then orF l else x
def cmpI (a b:Int):Int:=if a<b then -1 else if b<a then 1 else 0
theorem orF_step {l:List Int} {i:Nat} {y:Int} (h:l[i]?=some y):orF (l.drop i)=if y=0 then orF (l.drop (i+1)) else y:=by
 obtain⟨h1,rfl⟩:=List.getElem?_eq_some_iff.1 h
 rw[List.drop_eq_getElem_cons h1,orF]
theorem lt_or:∀ (a b:List Int),a.length=b.length→ltL a b=decide (orF (List.zipWith (· - ·) a b)<0)
 | [],[],_=>rfl
 |
  x::a,y::b,h=>by
  rw[ltL,List.zipWith_cons_cons,orF]
  by_cases hxy:x=y
  · rw[if_pos hxy,if_pos (by omega)];exact lt_or a b (by simpa using h)
  · rw[if_neg hxy,if_neg (by omega)];exact decide_eq_decide.2 (by omega)
theorem lt_cmp:∀ (a b:List Int),a.length=b.length→ltL a b=decide (orF (List.zipWith cmpI a b)<0)
 | [],[],_=>rfl
 |
  x::a,y::b,h=>by
  rw[ltL,List.zipWith_cons_cons,orF]
  by_cases hxy:x=y
  · rw[if_pos hxy,if_pos (by unfold cmpI;split<;>(try split)<;>omega)];exact lt_cmp a b (by simpa using h)
  ·
   rw[if_neg hxy,if_neg (by unfold cmpI;split<;>(try split)<;>omega)]
   exact decide_eq_decide.2 (by unfold cmpI;split<;>(try split)<;>omega)
theorem ltL_asym:∀ (a b:List Int),ltL a b=true→ltL b a=false
 | [],_,h=>by simp[ltL] at h
 | _::_,[],h=>by simp[ltL] at h
 |
  x::a,y::b,h=>by
  rw[ltL] at h ⊢
  by_cases hxy:x=y
  · rw[if_pos hxy] at h;rw[if_pos hxy.symm];exact ltL_asym a b h
  · rw[if_neg hxy] at h;rw[if_neg (Ne.symm hxy)];have:=of_decide_eq_true h;exact decide_eq_false (by omega)
theorem isNaN_spec (w:World) (n:Int):Gives Tryz.prog 166 #[iv n] w fun r _=>r=.bool false:=by
 refine gives_of [wv n] 6 [.tmp 2] Tryz.func166 rfl rfl rfl (by simp) rfl rfl ?_
 refine W.pure dn fun K1 k1=>?_
 simp only[E,F,J,M,R,Tz,V,X,Y,reduceIte,G,H,sz];refine k1 _ ?_
 refine W.pure dn fun K2 k2=>?_
 simp only[E,F,J,M,R,Tz,V,X,Y,reduceIte,G,H,sz];refine k2 _ ?_
 refine W.ret ⟨by simp,_,rfl,fun ρ w1 hb=>?_⟩
 simp[den]
theorem compare_spec (w:World) (a b:Int):Gives Tryz.prog 116 #[iv a,iv b] w fun r _=>r=iv (cmpI a b):=by
 refine gives_of [wv a,wv b] 20 [.tmp 4] Tryz.func116 rfl rfl rfl (by simp) rfl rfl ?_
 refine W.pure dn fun K1 k1=>?_
 simp only[E,F,J,M,R,Tz,V,X,Y,reduceIte,G,H,sz];refine k1 _ ?_
 refine W.seqK fun K2 k2=>W.region ?_
 refine WO.go 1 dn ?_
 simp only[E,F,J,M,R,Tz,V,X,Y,reduceIte,G,H,sz]
 refine WO.call (.bool false) dn rfl rfl rfl co166 (fun ρ w1 hb=>isNaN_spec w1 a) ?_
 refine WO.go 1 dn ?_
 simp only[E,F,J,M,R,Tz,V,X,Y,reduceIte,G,H,sz]
 refine WO.nil ?_
 refine k2 _ ?_
 refine W.seqK fun K3 k3=>W.region ?_
 refine WO.go 1 dn ?_
 simp only[E,F,J,M,R,Tz,V,X,Y,reduceIte,G,H,sz]
 refine WO.call (.bool false) dn rfl rfl rfl co166 (fun ρ w1 hb=>isNaN_spec w1 b) ?_
 refine WO.go 1 dn ?_
 simp only[E,F,J,M,R,Tz,V,X,Y,reduceIte,G,H,sz]
 refine WO.nil ?_
 refine k3 _ ?_
 refine W.seqK fun K4 k4=>?_
 refine W.pure dn fun K5 k5=>?_
 simp only[E,F,J,M,R,Tz,V,X,Y,reduceIte,G,H,sz];refine k5 _ ?_
 refine W.cond rfl rfl (fun hc=>?_) fun hc=>?_
 ·
  simp at hc
 ·
  refine W.skip (k4 _ ?_)
  refine W.seqK fun K6 k6=>?_
  refine W.pure dn fun K7 k7=>?_
  simp only[E,F,J,M,R,Tz,V,X,Y,reduceIte,G,H,sz];refine k7 _ ?_
  refine W.cond rfl rfl (fun hc=>?_) fun hc=>?_
  ·
   simp at hc
  ·
   refine W.skip (k6 _ ?_)
   refine W.seqK fun K8 k8=>?_
   refine W.pure dn fun K9 k9=>?_
   simp only[E,F,J,M,R,Tz,V,X,Y,reduceIte,G,H,sz];refine k9 _ ?_
   refine W.cond rfl rfl (fun hc=>?_) fun hc=>?_
   ·
    have h1:a<b:=by simpa using hc
    refine W.pure dn fun K10 k10=>?_
    simp only[E,F,J,M,R,Tz,V,X,Y,reduceIte,G,H,sz];refine k10 _ ?_
    refine W.ret ⟨by simp,_,rfl,fun ρ w1 hb=>?_⟩
    simp only[den,cmpI,if_pos h1]
   ·
    have h1:¬ a<b:=by simpa using hc
    refine W.skip (k8 _ ?_)
    refine W.seqK fun K11 k11=>?_
    refine W.pure dn fun K12 k12=>?_
    simp only[E,F,J,M,R,Tz,V,X,Y,reduceIte,G,H,sz];refine k12 _ ?_
    refine W.cond rfl rfl (fun hc=>?_) fun hc=>?_
    ·
     have h2:b<a:=by simpa using hc
     refine W.pure dn fun K13 k13=>?_
     simp only[E,F,J,M,R,Tz,V,X,Y,reduceIte,G,H,sz];refine k13 _ ?_
     refine W.ret ⟨by simp,_,rfl,fun ρ w1 hb=>?_⟩
     simp only[den,cmpI,if_neg h1,if_pos h2]
    ·
     have h2:¬ b<a:=by simpa using hc
     refine W.skip (k11 _ ?_)
     refine W.pure dn fun K14 k14=>?_
     simp only[E,F,J,M,R,Tz,V,X,Y,reduceIte,G,H,sz];refine k14 _ ?_
     refine W.ret ⟨by simp,_,rfl,fun ρ w1 hb=>?_⟩
     simp only[den,cmpI,if_neg h1,if_neg h2]
theorem or_spec {S:Nat→Prop} {w:World} {v:Value} {l:List Int} (hl:rInts.rd S w [v] l):Gives Tryz.prog 115 #[v] w fun r _=>r=iv (orF l):=by
 obtain⟨p,c,rfl,hc1,hc2⟩:=Rp.slice_val hl
 have hl:(Rp.slice rInt).rd (fun _=>True) w _ l:=Rp.any hl
 refine gives_of [.val (.slice p l.length c)] 18 [.tmp 2] Tryz.func115 rfl rfl rfl (by simp) rfl rfl ?_
 refine W.pure dn fun K1 k1=>?_
 simp only[E,F,J,M,R,Tz,V,X,Y,reduceIte,G,H,sz];refine k1 _ ?_
 refine W.pure dn fun K2 k2=>?_
 simp only[E,F,J,M,R,Tz,V,X,Y,reduceIte,G,H,sz];refine k2 _ ?_
 refine W.seqK fun K3 k3=>?_
 refine W.pure dn fun K4 k4=>?_
 simp only[E,F,J,M,R,Tz,V,X,Y,reduceIte,G,H,sz];refine k4 _ ?_
 refine W.block ?_
 refine W.loopK (X:=Nat) [3,6,7] (fun x=>[(8,wv (x:Int))]) (fun x=>x≤l.length∧orF l=orF (l.drop x)) (fun x=>l.length - x) 0 ?_ ?_ ?_
 · exact⟨rfl,by simp[getE,bnd,keepE],⟨[],by simp⟩,by simp[Own.bnd,bndL,bnd,boxO],by simp⟩
 ·
  exact⟨Nat.zero_le _,rfl⟩
 ·
  rintro i ⟨hi,hE⟩
  simp only[E,F,J,M,R,Tz,V,X,Y,reduceIte,sxk,G,H,sz]
  refine W.pure dn fun K5 k5=>?_
  simp only[E,F,J,M,R,Tz,V,X,Y,reduceIte,G,H,sz];refine k5 _ ?_
  refine W.seqK fun K6 k6=>?_
  refine W.cond rfl rfl (fun hc=>?_) fun hc=>?_
  ·
   have hlt:i<l.length:=by simpa using hc
   obtain⟨y,hy⟩:=len_lt (rfl:l.length=_) hlt
   have hst:=orF_step hy
   refine W.skip (k6 _ ?_)
   refine W.seqK fun K7 k7=>?_
   refine W.block ?_
   refine W.seqK fun K8 k8=>W.region ?_
   refine WO.elem (y:=y) hl (by simp[St.put]) dn rfl rfl (by simp[St.put]) (fun _=>rfl) rfl rfl rfl rfl rfl el94 agg3 sz3 (.inr rfl) (by omega) (hy) fun p ces hces=>?_
   obtain rfl:=rInt_open hces
   clear hces
   refine WO.go 1 dn ?_
   simp only[E,F,J,M,R,Tz,V,X,Y,reduceIte,G,H,sz]
   refine WO.nil ?_
   refine k8 _ ?_
   refine W.pure dn fun K9 k9=>?_
   simp only[E,F,J,M,R,Tz,V,X,Y,reduceIte,G,H,sz];refine k9 _ ?_
   refine W.cond rfl rfl (fun hc=>?_) fun hc=>?_
   ·
    have he:¬ y=0:=by simpa using hc
    refine W.pure dn fun K10 k10=>?_
    simp only[E,F,J,M,R,Tz,V,X,Y,reduceIte,G,H,sz];refine k10 _ ?_
    refine W.ret ⟨by simp,_,rfl,fun ρ w1 hb=>?_⟩
    rw[hE,hst,if_neg he];rfl
   ·
    have he:y=0:=by simpa using hc
    refine W.skip (k7 _ ?_)
    refine W.region ?_
    refine WO.go 2 dn ?_
    simp only[E,F,J,M,R,Tz,V,X,Y,reduceIte,G,H,sz]
    refine WO.nil ?_
    refine⟨i+1,?_,by first | omega | (simp;omega),rfl,by simp[getE,bnd,keepE,wrap_succ (show i+1≤9223372036854775807 by omega)],⟨_,rfl⟩,by simp[Own.bnd,bndL,bnd,boxO],by simp⟩
    exact⟨hlt,by rw[hE,hst,if_pos he]⟩
  ·
   have hge:l.length≤i:=by simpa using hc
   refine W.exit (k3 _ ?_)
   refine W.pure dn fun K11 k11=>?_
   simp only[E,F,J,M,R,Tz,V,X,Y,reduceIte,G,H,sz];refine k11 _ ?_
   refine W.ret ⟨by simp,_,rfl,fun ρ w1 hb=>?_⟩
   rw[hE,List.drop_of_length_le hge];rfl
structure FormA (n:Wt) (r:Rt):Prop where
 id:within 1 1000000 n.id=true
 voice:within 0 9 n.voice=true
 ossia:within 0 20 n.ossia=true
 pit:validP n.pit=true
 start:okT n.start=true
 len:0<tickF n.len
 fit:tickF n.start+tickF n.len≤tickF r
theorem formA_of {n:Wt} {r:Rt} (h:formB n r=true):FormA n r:=by
 simp only[formB,Bool.and_eq_true,decide_eq_true_eq] at h
 exact⟨h.1,h.2.1,h.2.2.1,h.2.2.2.1,tick_ok h.2.2.2.2.1,h.2.2.2.2.2.1,h.2.2.2.2.2.2⟩
theorem formA_b {n:Wt} {r:Rt} (h:FormA n r):formB n r=true:=by
 have:=h.start
 rw[← tick_nonneg] at this
 simp only[formB,Bool.and_eq_true,decide_eq_true_eq]
 exact⟨h.id,h.voice,h.ossia,h.pit,of_decide_eq_true this,h.len,h.fit⟩
theorem FormA.len' {n:Wt} {r:Rt} (h:FormA n r):okT n.len=true:=tick_ok (by have:=h.len;omega)
theorem FormA.s0 {n:Wt} {r:Rt} (h:FormA n r):0≤tickF n.start:=by have:=h.start;rw[← tick_nonneg] at this;exact of_decide_eq_true this
abbrev D54_:List (Option Nat):=[some 27,some 28,some 29,some 30,some 31,some 32,some 33,some 34,some 35,some 36,some 37,some 38,some 39,some 40,some 41,some 42,some 43,some 44,some 45,some 46,some 47,some 48,some 4]
abbrev D53_:List (Option Nat):=[some 8,some 9,some 10,some 11,some 12,some 13,some 14,some 15,some 16,some 17,some 18,some 19,some 20,some 5]
theorem vformed_spec (w:World) (n:Wt) (r:Rt) (h:FormA n r) (hr:okT r=true):Gives Tryz.prog 64 #[.agg #[iv n.id,iv n.voice,iv n.ossia,iv n.start.1,iv n.start.2,iv n.len.1,iv n.len.2,iv n.pit.1,iv n.pit.2.1,iv n.pit.2.2],.agg #[iv r.1,iv r.2]] w fun v _=>v=.bool true:=by
 have t0:=h.s0
 have t1:=tick_bound n.start
 have t2:=tick_bound n.len
 have t3:=h.len
 have t4:=h.fit
 have hww:=wrap_id (x:=tickF n.start+tickF n.len) (by omega) (by omega)
 refine gives_of [.agg [wv n.id,wv n.voice,wv n.ossia,wv n.start.1,wv n.start.2,wv n.len.1,wv n.len.2,wv n.pit.1,wv n.pit.2.1,wv n.pit.2.2],.agg [wv r.1,wv r.2]] 49 [.tmp 4] Tryz.func64 rfl rfl rfl (by simp) rfl rfl ?_
 refine W.pure dn fun K1 k1=>?_
 simp only[E,F,J,M,R,Tz,V,X,Y,reduceIte,G,H,sz];refine k1 _ ?_
 refine W.join 5 (.val (.bool true)) [2,3] (W.region ?_) ?_
 ·
  refine WO.go 2 (ds:=D53_) rfl ?_
  simp only[E,F,J,M,R,Tz,V,X,Y,reduceIte,G,H,sz]
  refine WO.call (.bool true) (ds:=D53_) rfl rfl rfl rfl co118 (fun ρ w1 hb=>by have h9:=vwithin_spec w1 n.id 1 1000000;rw[h.id] at h9;exact h9) ?_
  refine WO.go 3 (ds:=D53_) rfl ?_
  simp only[E,F,J,M,R,Tz,V,X,Y,reduceIte,G,H,sz]
  refine WO.call (.bool true) (ds:=D53_) rfl rfl rfl rfl co118 (fun ρ w1 hb=>by have h9:=vwithin_spec w1 n.voice 0 9;rw[h.voice] at h9;exact h9) ?_
  refine WO.go 4 (ds:=D53_) rfl ?_
  simp only[E,F,J,M,R,Tz,V,X,Y,reduceIte,G,H,sz]
  refine WO.call (.bool true) (ds:=D53_) rfl rfl rfl rfl co118 (fun ρ w1 hb=>by have h9:=vwithin_spec w1 n.ossia 0 20;rw[h.ossia] at h9;exact h9) ?_
  refine WO.go 2 (ds:=D53_) rfl ?_
  simp only[E,F,J,M,R,Tz,V,X,Y,reduceIte,G,H,sz]
  refine WO.nil ?_
  refine⟨rfl,?_,⟨_,rfl⟩,by simp[Own.bnd,bndL,bnd,boxO],by simp⟩
  simp[getE,bnd,keepE]
 ·
  simp only[E,F,J,M,R,Tz,V,X,Y,reduceIte,sxk,G,H,sz]
  refine W.seqK fun K3 k3=>?_
  refine W.regionQ mixed (by kernel_rfl) ?_
  refine WQ.go 2 dn ?_
  simp only[E,F,J,M,R,Tz,V,X,Y,reduceIte,sxq,G,H,sz]
  refine WQ.call (iv (tickF n.start)) dn rfl rfl rfl co117 (fun ρ w1 hb=>vticks_spec w1 n.start h.start) ?_
  refine WQ.go 2 dn ?_
  simp only[E,F,J,M,R,Tz,V,X,Y,reduceIte,sxq,G,H,sz]
  refine WQ.call (iv (tickF n.len)) dn rfl rfl rfl co117 (fun ρ w1 hb=>vticks_spec w1 n.len h.len') ?_
  refine WQ.go 2 dn ?_
  simp only[E,F,J,M,R,Tz,V,X,Y,reduceIte,sxq,G,H,sz]
  refine WQ.nil ?_
  refine k3 _ ?_
  refine W.seqK fun K4 k4=>W.region ?_
  refine WO.go 4 (ds:=D54_) rfl ?_
  simp only[E,F,J,M,R,Tz,V,X,Y,reduceIte,G,H,sz]
  refine WO.call (.bool true) (ds:=D54_) rfl rfl rfl rfl co119 (fun ρ w1 hb=>by have h9:=valid_spec w1 n.pit;rw[h.pit] at h9;exact h9) ?_
  refine WO.go 6 (ds:=D54_) rfl ?_
  simp only[E,F,J,M,R,Tz,V,X,Y,reduceIte,G,H,sz]
  refine WO.cases 37 _ rfl (fun hg37=>?_) fun hg37=>?_
  ·
   refine WO.go 4 (ds:=D54_) rfl ?_
   simp only[E,F,J,M,R,Tz,V,X,Y,reduceIte,G,H,sz]
   refine WO.cases 41 _ rfl (fun hg41=>?_) fun hg41=>?_
   ·
    refine WO.go 4 (ds:=D54_) rfl ?_
    simp only[E,F,J,M,R,Tz,V,X,Y,reduceIte,G,H,sz]
    refine WO.call (iv (tickF r)) (ds:=D54_) rfl rfl rfl rfl co117 (fun ρ w1 hb=>vticks_spec w1 r hr) ?_
    refine WO.go 3 (ds:=D54_) rfl ?_
    simp only[E,F,J,M,R,Tz,V,X,Y,reduceIte,G,H,sz]
    refine WO.nil ?_
    refine k4 _ ?_
    refine W.ret ⟨by simp,_,rfl,fun ρ w1 hb=>?_⟩
    simp only[den,hww];simp;omega
   ·
    simp at hg41;omega
  ·
   simp at hg37;omega
theorem vheight_spec {w:World} (hN:GN w) (n:Wt):Gives Tryz.prog 113 #[.agg #[iv n.id,iv n.voice,iv n.ossia,iv n.start.1,iv n.start.2,iv n.len.1,iv n.len.2,iv n.pit.1,iv n.pit.2.1,iv n.pit.2.2]] w fun r _=>r=iv (numG n.pit):=by
 refine gives_of [.agg [wv n.id,wv n.voice,wv n.ossia,wv n.start.1,wv n.start.2,wv n.len.1,wv n.len.2,wv n.pit.1,wv n.pit.2.1,wv n.pit.2.2]] 12 [.tmp 2] Tryz.func113 rfl rfl rfl (by simp) rfl rfl ?_
 refine W.pure dn fun K1 k1=>?_
 simp only[E,F,J,M,R,Tz,V,X,Y,reduceIte,G,H,sz];refine k1 _ ?_
 refine W.seqK fun K2 k2=>W.region ?_
 refine WO.go 2 dn ?_
 simp only[E,F,J,M,R,Tz,V,X,Y,reduceIte,G,H,sz]
 refine WO.call (.tuple #[iv (numG n.pit),iv (if validP n.pit=true then 0 else 1)]) dn rfl rfl rfl co114 (fun ρ w1 hb=>Number_spec (hN.now (hb.first (by simp[St.put]))) n.pit) ?_
 refine WO.go 5 dn ?_
 simp only[E,F,J,M,R,Tz,V,X,Y,reduceIte,G,H,sz]
 refine WO.nil ?_
 refine k2 _ ?_
 refine W.pure dn fun K3 k3=>?_
 simp only[E,F,J,M,R,Tz,V,X,Y,reduceIte,G,H,sz];refine k3 _ ?_
 refine W.ret ⟨by simp,_,rfl,fun ρ w1 hb=>?_⟩
 rfl
theorem co113:callOk Tryz.prog 113=true:=by kernel_rfl
theorem vorder_spec {w:World} (hN:GN w) (n m:Wt) (h1:okT n.start=true) (h2:okT m.start=true):Gives Tryz.prog 63 #[.agg #[iv n.id,iv n.voice,iv n.ossia,iv n.start.1,iv n.start.2,iv n.len.1,iv n.len.2,iv n.pit.1,iv n.pit.2.1,iv n.pit.2.2],.agg #[iv m.id,iv m.voice,iv m.ossia,iv m.start.1,iv m.start.2,iv m.len.1,iv m.len.2,iv m.pit.1,iv m.pit.2.1,iv m.pit.2.2]] w fun r _=>r=iv (orF [cmpI (tickF n.start) (tickF m.start),cmpI n.voice m.voice,cmpI (numG n.pit) (numG m.pit),cmpI n.id m.id]):=by
 refine gives_of [.agg [wv n.id,wv n.voice,wv n.ossia,wv n.start.1,wv n.start.2,wv n.len.1,wv n.len.2,wv n.pit.1,wv n.pit.2.1,wv n.pit.2.2],.agg [wv m.id,wv m.voice,wv m.ossia,wv m.start.1,wv m.start.2,wv m.len.1,wv m.len.2,wv m.pit.1,wv m.pit.2.1,wv m.pit.2.2]] 32 [.tmp 4] Tryz.func63 rfl rfl rfl (by simp) rfl rfl ?_
 refine W.pure dn fun K1 k1=>?_
 simp only[E,F,J,M,R,Tz,V,X,Y,reduceIte,G,H,sz];refine k1 _ ?_
 refine W.pure dn fun K2 k2=>?_
 simp only[E,F,J,M,R,Tz,V,X,Y,reduceIte,G,H,sz];refine k2 _ ?_
 refine W.seqK fun K3 k3=>?_
 refine W.regionT' 24 [] [0,1,2,3,4,5,6,7,8,9,10,11,12,13,14,15,16,17,18,19,20,21,22,23] mixed (by kernel_rfl) ?_
 simp only[E,F,J,M,R,Tz,V,X,Y,reduceIte,sxt,List.toList_toArray,G,H,sz]
 refine WQ.go 2 dn ?_
 simp only[E,F,J,M,R,Tz,V,X,Y,reduceIte,sxq,G,H,sz]
 refine WQ.call (iv (tickF n.start)) dn rfl rfl rfl co117 (fun ρ w1 hb=>vticks_spec w1 n.start h1) ?_
 refine WQ.go 2 dn ?_
 simp only[E,F,J,M,R,Tz,V,X,Y,reduceIte,sxq,G,H,sz]
 refine WQ.call (iv (tickF m.start)) dn rfl rfl rfl co117 (fun ρ w1 hb=>vticks_spec w1 m.start h2) ?_
 simp only[E,F,J,M,R,Tz,V,X,Y,reduceIte,G,H,sz]
 refine WQ.call (iv (cmpI (tickF n.start) (tickF m.start))) dn rfl rfl rfl co116 (fun ρ w1 hb=>compare_spec w1 _ _) ?_
 refine WQ.go 4 dn ?_
 simp only[E,F,J,M,R,Tz,V,X,Y,reduceIte,sxq,G,H,sz]
 refine WQ.call (iv (cmpI n.voice m.voice)) dn rfl rfl rfl co116 (fun ρ w1 hb=>compare_spec w1 _ _) ?_
 refine WQ.go 2 dn ?_
 simp only[E,F,J,M,R,Tz,V,X,Y,reduceIte,sxq,G,H,sz]
 refine WQ.call (iv (numG n.pit)) dn rfl rfl rfl co113 (fun ρ w1 hb=>vheight_spec (hN.now (hb.first (by simp[St.put]))) n) ?_
 refine WQ.go 2 dn ?_
 simp only[E,F,J,M,R,Tz,V,X,Y,reduceIte,sxq,G,H,sz]
 refine WQ.call (iv (numG m.pit)) dn rfl rfl rfl co113 (fun ρ w1 hb=>vheight_spec (hN.now (hb.first (by simp[St.put]))) m) ?_
 simp only[E,F,J,M,R,Tz,V,X,Y,reduceIte,G,H,sz]
 refine WQ.call (iv (cmpI (numG n.pit) (numG m.pit))) dn rfl rfl rfl co116 (fun ρ w1 hb=>compare_spec w1 _ _) ?_
 refine WQ.go 4 dn ?_
 simp only[E,F,J,M,R,Tz,V,X,Y,reduceIte,sxq,G,H,sz]
 refine WQ.call (iv (cmpI n.id m.id)) dn rfl rfl rfl co116 (fun ρ w1 hb=>compare_spec w1 _ _) ?_
 simp only[E,F,J,M,R,Tz,V,X,Y,reduceIte,G,H,sz]
 refine WQ.nil ?_
 refine WO.go 1 dn ?_
 simp only[E,F,J,M,R,Tz,V,X,Y,reduceIte,G,H,sz]
 refine WO.call (iv (orF [cmpI (tickF n.start) (tickF m.start),cmpI n.voice m.voice,cmpI (numG n.pit) (numG m.pit),cmpI n.id m.id])) dn rfl rfl rfl co115 (fun ρ w1 hb=>or_spec (own_listS (S:=fun _=>True) (A:=rInt) (k:=2) (n:=4) (c:=4) (xs:=[cmpI (tickF n.start) (tickF m.start),cmpI n.voice m.voice,cmpI (numG n.pit) (numG m.pit),cmpI n.id m.id]) hb rfl rfl (Nat.le_refl _) (by omega) trivial (by rintro (_ | _ | _ | _ | i) y hy<;>first | (cases hy;rfl) | simp at hy))) ?_
 refine WO.go 1 dn ?_
 simp only[E,F,J,M,R,Tz,V,X,Y,reduceIte,G,H,sz]
 refine WO.nil ?_
 refine k3 _ ?_
 refine W.ret ⟨by simp,_,rfl,fun ρ w1 hb=>?_⟩
 rfl
theorem order_up {n m:Wt} (h1:validP n.pit=true) (h2:validP m.pit=true) (h:ltL (wkey n) (wkey m)=true):0≤orF [cmpI (tickF m.start) (tickF n.start),cmpI m.voice n.voice,cmpI (numG m.pit) (numG n.pit),cmpI m.id n.id]:=by
 have h9:=ltL_asym _ _ h
 rw[lt_cmp (wkey m) (wkey n) rfl,decide_eq_false_iff_not] at h9
 simp only[wkey,List.zipWith_cons_cons,List.zipWith_nil_left] at h9
 simp only[numG,h1,h2,if_true]
 omega
theorem isSorted_spec {S:Nat→Prop} {w:World} {v:Value} {l:List Wt} (hN:GN w) (hl:rWts.rd S w [v] l) (ho:OrdW l) (hv:∀ n,n∈l→validP n.pit=true∧okT n.start=true):Gives Tryz.prog 62 #[v,.func (.func 63) #[] #[]] w fun r _=>r=.bool true:=by
 obtain⟨p,c,rfl,hc1,hc2⟩:=Rp.slice_val hl
 have hl:(Rp.slice rWt).rd (fun _=>True) w _ l:=Rp.any hl
 have hw0:=wrap_id (x:=(l.length:Int) - 1) (by omega) (by omega)
 refine gives_of [.val (.slice p l.length c),.val (.func (.func 63) #[] #[])] 25 [.tmp 4] Tryz.func62 rfl rfl rfl (by simp) rfl rfl ?_
 refine W.pure dn fun K1 k1=>?_
 simp only[E,F,J,M,R,Tz,V,X,Y,reduceIte,G,H,sz];refine k1 _ ?_
 refine W.seqK fun K2 k2=>?_
 refine W.pure dn fun K3 k3=>?_
 simp only[E,F,J,M,R,Tz,V,X,Y,reduceIte,G,H,sz];refine k3 _ ?_
 refine W.block ?_
 refine W.loopK (X:=Int) [0,1] (fun x=>[(5,wv x)]) (fun x=>-1≤x∧x<l.length) (fun x=>x.toNat) ((l.length:Int) - 1) ?_ ?_ ?_
 · exact⟨rfl,by simp[getE,bnd,keepE,hw0],⟨[],by simp⟩,by simp[Own.bnd,bndL,bnd,boxO],by simp⟩
 ·
  omega
 ·
  rintro i ⟨hi,hi2⟩
  simp only[E,F,J,M,R,Tz,V,X,Y,reduceIte,sxk,G,H,sz]
  refine W.seqK fun K4 k4=>?_
  refine W.pure dn fun K5 k5=>?_
  simp only[E,F,J,M,R,Tz,V,X,Y,reduceIte,G,H,sz];refine k5 _ ?_
  refine W.cond rfl rfl (fun hc=>?_) fun hc=>?_
  ·
   have h0:0<i:=by simpa using hc
   obtain⟨k,rfl⟩:=Int.eq_ofNat_of_zero_le (show 0≤i by omega)
   obtain⟨y,hy⟩:=len_lt (rfl:l.length=_) (show k<l.length by omega)
   obtain⟨z,hz⟩:=len_lt (rfl:l.length=_) (show k - 1<l.length by omega)
   have hwi:IntKind.i64.wrap ((k:Int) - 1)=((k - 1:Nat):Int):=by rw[wrap_id (by omega) (by omega)];omega
   have hyv:=hv y (List.mem_of_getElem? hy)
   have hzv:=hv z (List.mem_of_getElem? hz)
   have hup:=order_up hzv.1 hyv.1 (ho (k - 1) z y hz (by rw[show k - 1+1=k by omega];exact hy))
   refine W.skip (k4 _ ?_)
   refine W.seqK fun K6 k6=>?_
   refine W.block ?_
   refine W.seqK fun K7 k7=>?_
   refine W.regionQ mixed (by kernel_rfl) ?_
   refine WQ.go 3 dn ?_
   simp only[E,F,J,M,R,Tz,V,X,Y,reduceIte,sxq,G,H,hwi,sz]
   refine WQ.elem (y:=y) hl (by simp[St.put]) dn rfl rfl (by simp[St.put]) (fun _=>rfl) rfl rfl rfl rfl rfl el58 agg62 sz62 (.inl rfl) (by omega) (hy) fun p ces hces=>?_
   have hces:ces=wtV y:=hces
   subst hces
   simp only[wtV,ofCells,if_true,List.toList_toArray,sr]
   refine WQ.go 3 dn ?_
   simp only[E,F,J,M,R,Tz,V,X,Y,reduceIte,sxq,G,H,hwi,sz]
   refine WQ.elem (y:=z) hl (by simp[St.put]) dn rfl rfl (by simp[St.put]) (fun _=>rfl) rfl rfl rfl rfl rfl el58 agg62 sz62 (.inl rfl) (by omega) (hz) fun p ces hces=>?_
   have hces:ces=wtV z:=hces
   subst hces
   simp only[wtV,ofCells,if_true,List.toList_toArray,sr]
   simp only[E,F,J,M,R,Tz,V,X,Y,reduceIte,G,H,hwi,sz]
   refine WQ.call (iv (orF [cmpI (tickF y.start) (tickF z.start),cmpI y.voice z.voice,cmpI (numG y.pit) (numG z.pit),cmpI y.id z.id])) dn rfl rfl rfl co63 (fun ρ w1 hb=>vorder_spec (hN.now (hb.first (by simp[St.put]))) y z hyv.2 hzv.2) ?_
   refine WQ.go 1 dn ?_
   simp only[E,F,J,M,R,Tz,V,X,Y,reduceIte,sxq,G,H,hwi,sz]
   refine WQ.nil ?_
   refine k7 _ ?_
   refine W.cond rfl rfl (fun hc=>?_) fun hc=>?_
   ·
    simp at hc;omega
   ·
    refine W.skip (k6 _ ?_)
    refine W.region ?_
    refine WO.go 3 dn ?_
    simp only[E,F,J,M,R,Tz,V,X,Y,reduceIte,G,H,hwi,sz]
    refine WO.nil ?_
    refine⟨(k:Int) - 1,⟨by omega,by omega⟩,by omega,rfl,by(simp[getE,bnd,keepE,hwi];omega),⟨[],by simp⟩,by simp[Own.bnd,bndL,bnd],by simp⟩
  ·
   refine W.exit (k2 _ ?_)
   refine W.pure dn fun K8 k8=>?_
   simp only[E,F,J,M,R,Tz,V,X,Y,reduceIte,G,H,sz];refine k8 _ ?_
   refine W.ret ⟨by simp,_,rfl,fun ρ w1 hb=>?_⟩
   rfl
def cmpN (bars:List Br) (n m:Nt):Int:=orF (List.zipWith (· - ·) (keyL bars n) (keyL bars m))
theorem numG_note {p:Pit} (h:isNoteP p=true):numG p=numF p:=if_pos (isNote_v h)
theorem numF_note {p:Pit} (h:isNoteP p=true):-10≤numF p∧numF p≤200:=by
 have h1:=isNote_b h
 have h2:=nat_bound h1.1
 unfold numF
 omega
theorem bar_ix {bars:List Br} (hv:BarsOk bars) {n:Nt} (h:NoteOk bars n):∃ (k:Nat) (b:Br),ixOf (bars.map Br.id) n.bar=k∧bars[k]?=some b∧b.id=n.bar∧tickF n.start+tickF n.len≤tickF b.len:=by
 obtain⟨b,h1,h2,h3⟩:=h.bar
 obtain⟨k,hk⟩:=List.mem_iff_getElem?.1 h1
 exact⟨k,b,ix_get hv.nd (by rw[List.getElem?_map,hk,← h2];rfl),hk,h2,h3⟩
theorem ncmp_spec {w:World} (hN:GN w) {a:Addr} {r:Nat} {bars:List Br} (hbx:At w a [.map (some r)]) (hbz:a.block<w.heap.size) (hm:w.heap[r]?=some (.map (vmE (kvOf bxK bxV bars.zipIdx)) (kvOf bxK bxV bars.zipIdx).length)) (hv:BarsOk bars) (n m:Nt) (h1:NoteOk bars n) (h2:NoteOk bars m):Gives Tryz.prog 176 #[(ntq n),(ntq m),.pointer (some a)] w fun r _=>r=iv (cmpN bars n m):=by
 have hrz:r<w.heap.size:=(Array.getElem?_eq_some_iff.1 hm).1
 have hndz:(bars.zipIdx.map bxK).Nodup:=by rw[bx_keys];exact hv.nd
 obtain⟨kn,knb,knx,kng,kne,_⟩:=bar_ix hv h1
 obtain⟨km,kmb,kmx,kmg,kme,_⟩:=bar_ix hv h2
 have hgn:=numG_note h1.pit
 have hgm:=numG_note h2.pit
 have b1:=numF_note h1.pit
 have b2:=numF_note h2.pit
 have b3:=within_iff.1 h1.part
 have b4:=within_iff.1 h2.part
 have b5:=within_iff.1 h1.voice
 have b6:=within_iff.1 h2.voice
 have b7:=within_iff.1 h1.id
 have b8:=within_iff.1 h2.id
 have b9:=tick_bound n.start
 have b10:=tick_bound m.start
 have b11:kn<4000:=by have:=(List.getElem?_eq_some_iff.1 kng).1;have:=hv.len;omega
 have b12:km<4000:=by have:=(List.getElem?_eq_some_iff.1 kmg).1;have:=hv.len;omega
 have hw0:=wrap_id (x:=(kn:Int) - (km:Int)) (by omega) (by omega)
 have hw1:=wrap_id (x:=n.part - m.part) (by omega) (by omega)
 have hw2:=wrap_id (x:=tickF n.start - tickF m.start) (by omega) (by omega)
 have hw3:=wrap_id (x:=n.voice - m.voice) (by omega) (by omega)
 have hw4:=wrap_id (x:=numF n.pit - numF m.pit) (by omega) (by omega)
 have hw5:=wrap_id (x:=n.id - m.id) (by omega) (by omega)
 have hcm:cmpN bars n m=orF [(kn:Int) - (km:Int),n.part - m.part,tickF n.start - tickF m.start,n.voice - m.voice,numF n.pit - numF m.pit,n.id - m.id]:=by unfold cmpN keyL;rw[knx,kmx];rfl
 refine gives_of [.agg (ntw n),.agg (ntw m),.val (.pointer (some a))] 70 [.tmp 5] Tryz.func176 rfl rfl rfl (by simp) rfl rfl ?_
 refine W.pure dn fun K1 k1=>?_
 simp only[E,F,J,M,R,Tz,V,X,Y,reduceIte,G,H,sz];refine k1 _ ?_
 refine W.seqK fun K2 k2=>W.region ?_
 refine WO.go 2 dn ?_
 simp only[E,F,J,M,R,Tz,V,X,Y,reduceIte,G,H,sz]
 refine WO.call (.tuple #[iv (tickF n.start),.bool true]) dn rfl rfl rfl co171 (fun ρ w1 hb=>nticks_spec w1 n.start h1.start) ?_
 refine WO.go 5 dn ?_
 simp only[E,F,J,M,R,Tz,V,X,Y,reduceIte,G,H,sz]
 refine WO.nil ?_
 refine k2 _ ?_
 refine W.seqK fun K3 k3=>W.region ?_
 refine WO.go 2 dn ?_
 simp only[E,F,J,M,R,Tz,V,X,Y,reduceIte,G,H,sz]
 refine WO.call (.tuple #[iv (tickF m.start),.bool true]) dn rfl rfl rfl co171 (fun ρ w1 hb=>nticks_spec w1 m.start h2.start) ?_
 refine WO.go 5 dn ?_
 simp only[E,F,J,M,R,Tz,V,X,Y,reduceIte,G,H,sz]
 refine WO.nil ?_
 refine k3 _ ?_
 refine W.seqK fun K4 k4=>W.region ?_
 refine WO.go 2 dn ?_
 simp only[E,F,J,M,R,Tz,V,X,Y,reduceIte,G,H,sz]
 refine WO.call (.tuple #[iv (numG n.pit),iv (if validP n.pit=true then 0 else 1)]) dn rfl rfl rfl co114 (fun ρ w1 hb=>Number_spec (hN.now (hb.first (by simp[St.put]))) n.pit) ?_
 refine WO.go 5 dn ?_
 simp only[E,F,J,M,R,Tz,V,X,Y,reduceIte,G,H,sz]
 refine WO.nil ?_
 refine k4 _ ?_
 refine W.seqK fun K5 k5=>W.region ?_
 refine WO.go 2 dn ?_
 simp only[E,F,J,M,R,Tz,V,X,Y,reduceIte,G,H,sz]
 refine WO.call (.tuple #[iv (numG m.pit),iv (if validP m.pit=true then 0 else 1)]) dn rfl rfl rfl co114 (fun ρ w1 hb=>Number_spec (hN.now (hb.first (by simp[St.put]))) m.pit) ?_
 refine WO.go 5 dn ?_
 simp only[E,F,J,M,R,Tz,V,X,Y,reduceIte,G,H,sz]
 refine WO.nil ?_
 refine k5 _ ?_
 refine W.seqK fun K6 k6=>W.region ?_
 refine WO.q dn rfl rfl (QR.load [.map (some r)] false rfl rfl agg203 sz203 (.inr rfl) (fun ρ w1 hb=>hbx.now (S:=fun _=>True) hb (by simp[St.put]) trivial hbz)) ?_
 simp only[ofCells,sr]
 refine WO.go 2 dn ?_
 simp only[E,F,J,M,R,Tz,V,X,Y,reduceIte,G,H,hgn,hgm,hw0,hw1,hw2,hw3,hw4,hw5,sz]
 refine WO.q dn rfl rfl (QR.lookup (r:=r) (ks:=(kvOf bxK bxV bars.zipIdx)) (iv 0) (iv (kn:Int)) true false rfl rfl rfl (fun ρ w1 hb=>(((hb.first (w0:=w) (by simp[St.put])).block r trivial hrz).trans hm)) (by kernel_rfl) (by have h9:=kv_yes (f:=bxK) (g:=bxV) (z:=iv 0) hndz (List.mem_of_getElem? (bx_get kng));rw[show bxK (knb,kn)=n.bar from kne] at h9;exact h9)) ?_
 simp only[Bool.false_eq_true,if_false,if_true]
 simp only[E,F,J,M,R,Tz,V,X,Y,reduceIte,G,H,hgn,hgm,hw0,hw1,hw2,hw3,hw4,hw5,sz]
 refine WO.q dn rfl rfl (QR.load [.map (some r)] false rfl rfl agg203 sz203 (.inr rfl) (fun ρ w1 hb=>hbx.now (S:=fun _=>True) hb (by simp[St.put]) trivial hbz)) ?_
 simp only[ofCells,sr]
 refine WO.go 2 dn ?_
 simp only[E,F,J,M,R,Tz,V,X,Y,reduceIte,G,H,hgn,hgm,hw0,hw1,hw2,hw3,hw4,hw5,sz]
 refine WO.q dn rfl rfl (QR.lookup (r:=r) (ks:=(kvOf bxK bxV bars.zipIdx)) (iv 0) (iv (km:Int)) true false rfl rfl rfl (fun ρ w1 hb=>(((hb.first (w0:=w) (by simp[St.put])).block r trivial hrz).trans hm)) (by kernel_rfl) (by have h9:=kv_yes (f:=bxK) (g:=bxV) (z:=iv 0) hndz (List.mem_of_getElem? (bx_get kmg));rw[show bxK (kmb,km)=m.bar from kme] at h9;exact h9)) ?_
 simp only[Bool.false_eq_true,if_false,if_true]
 refine WO.go 23 dn ?_
 simp only[E,F,J,M,R,Tz,V,X,Y,reduceIte,G,H,hgn,hgm,hw0,hw1,hw2,hw3,hw4,hw5,sz]
 refine WO.call (iv (orF [(kn:Int) - (km:Int),n.part - m.part,tickF n.start - tickF m.start,n.voice - m.voice,numF n.pit - numF m.pit,n.id - m.id])) dn rfl rfl rfl co115 (fun ρ w1 hb=>or_spec (own_listS (S:=fun _=>True) (A:=rInt) (k:=2) (n:=6) (c:=6) (xs:=[(kn:Int) - (km:Int),n.part - m.part,tickF n.start - tickF m.start,n.voice - m.voice,numF n.pit - numF m.pit,n.id - m.id]) hb rfl rfl (Nat.le_refl _) (by omega) trivial (by rintro (_ | _ | _ | _ | _ | _ | i) y hy<;>first | (cases hy;rfl) | simp at hy))) ?_
 refine WO.go 1 dn ?_
 simp only[E,F,J,M,R,Tz,V,X,Y,reduceIte,G,H,hgn,hgm,hw0,hw1,hw2,hw3,hw4,hw5,sz]
 refine WO.nil ?_
 refine k6 _ ?_
 refine W.ret ⟨by simp,_,rfl,fun ρ w1 hb=>?_⟩
 rw[hcm];rfl
end Go.Proofs.YtolmeekbjonbcaaGreatDoor
namespace Go.Proofs.YtolmeekbjonbcaaGreatDoor
open Go Go.SX Go.RowKit
variable [Drw]
theorem ltL_irr:∀ a:List Int,ltL a a=false
 | []=>rfl
 | x::a=>by rw[ltL,if_pos rfl];exact ltL_irr a
theorem ltL_trans:∀ (a b c:List Int),ltL a b=true→ltL b c=true→ltL a c=true
 | [],_,_,h,_=>by simp[ltL] at h
 | _::_,[],_,h,_=>by simp[ltL] at h
 | _::_,_::_,[],_,h=>by simp[ltL] at h
 |
  x::a,y::b,z::c,h1,h2=>by
  rw[ltL] at h1 h2 ⊢
  by_cases h3:x=y
  ·
   rw[if_pos h3] at h1
   by_cases h4:y=z
   · rw[if_pos h4] at h2;rw[if_pos (h3.trans h4)];exact ltL_trans a b c h1 h2
   · rw[if_neg h4] at h2;rw[if_neg (by omega)];simp at h2 ⊢;omega
  ·
   rw[if_neg h3] at h1
   by_cases h4:y=z
   · rw[if_neg (by omega)];simp at h1 ⊢;omega
   · rw[if_neg h4] at h2;simp at h1 h2;rw[if_neg (by omega)];simp;omega
theorem ltL_tot:∀ (a b:List Int),a.length=b.length→ltL a b=false→ltL b a=false→a=b
 | [],[],_,_,_=>rfl
 | [],_::_,h,_,_=>by simp at h
 | _::_,[],h,_,_=>by simp at h
 |
  x::a,y::b,h,h1,h2=>by
  rw[ltL] at h1 h2
  by_cases h3:x=y
  ·
   rw[if_pos h3] at h1;rw[if_pos h3.symm] at h2
   rw[h3,ltL_tot a b (by simpa using h) h1 h2]
  ·
   rw[if_neg h3] at h1;rw[if_neg (fun g=>h3 g.symm)] at h2
   simp at h1 h2;omega
noncomputable def leN (bars:List Br) (a b:Nt):Bool:=!ltL (keyL bars b) (keyL bars a)
theorem leN_trans (bars:List Br) (a b c:Nt) (h1:leN bars a b=true) (h2:leN bars b c=true):leN bars a c=true:=by
 unfold leN at *
 rw[Bool.not_eq_true'] at *
 cases h:ltL (keyL bars c) (keyL bars a) with
 | false=>rfl
 |
  true=>
  exfalso
  cases h3:ltL (keyL bars a) (keyL bars b) with
  | true=>rw[ltL_trans _ _ _ h h3] at h2;cases h2
  | false=>rw[ltL_tot (keyL bars a) (keyL bars b) rfl h3 h1] at h;rw[h] at h2;cases h2
theorem leN_total (bars:List Br) (a b:Nt):(leN bars a b || leN bars b a)=true:=by
 unfold leN
 cases h:ltL (keyL bars b) (keyL bars a) with
 | false=>rfl
 | true=>rw[ltL_asym _ _ h];rfl
theorem leN_anti {bars:List Br} {a b:Nt} (h1:leN bars a b=true) (h2:leN bars b a=true):a.id=b.id:=by
 unfold leN at *
 rw[Bool.not_eq_true'] at *
 have:=ltL_tot (keyL bars b) (keyL bars a) rfl h1 h2
 unfold keyL at this
 simp at this
 omega
theorem leN_of {bars:List Br} {a b:Nt} (h:ltL (keyL bars a) (keyL bars b)=true):leN bars a b=true:=by
 unfold leN;rw[ltL_asym _ _ h];rfl
noncomputable def srt (bars:List Br) (l:List Nt):List Nt:=l.mergeSort (leN bars)
theorem srt_perm (bars:List Br) (l:List Nt):(srt bars l).Perm l:=List.mergeSort_perm l _
theorem srt_mem {bars:List Br} {l:List Nt} {n:Nt}:n∈srt bars l↔n∈l:=(srt_perm bars l).mem_iff
theorem srt_len (bars:List Br) (l:List Nt):(srt bars l).length=l.length:=(srt_perm bars l).length_eq
theorem srt_pw (bars:List Br) (l:List Nt):(srt bars l).Pairwise fun a b=>leN bars a b=true:=List.pairwise_mergeSort (leN_trans bars) (leN_total bars) l
theorem nd_inj {l:List Nt} (h:(l.map Nt.id).Nodup) {a b:Nt} (ha:a∈l) (hb:b∈l) (he:a.id=b.id):a=b:=by
 obtain⟨i,hi⟩:=List.mem_iff_getElem?.1 ha
 obtain⟨j,hj⟩:=List.mem_iff_getElem?.1 hb
 have h1:(l.map Nt.id)[i]?=some a.id:=by rw[List.getElem?_map,hi];rfl
 have h2:(l.map Nt.id)[j]?=some a.id:=by rw[List.getElem?_map,hj,he];rfl
 have:=(List.getElem?_inj (List.getElem?_eq_some_iff.1 h1).1 h).1 (h1.trans h2.symm)
 subst this
 rw[hi] at hj
 exact Option.some.inj hj
theorem nd_list {l:List Nt} (h:(l.map Nt.id).Nodup):l.Nodup:=(List.pairwise_map.1 h).imp fun hn he=>hn (by rw[he])
theorem srt_uniq {bars:List Br} {l l':List Nt} (hp:l'.Perm l) (hs:l'.Pairwise fun a b=>leN bars a b=true) (hnd:(l.map Nt.id).Nodup):l'=srt bars l:=by
 refine List.Perm.eq_of_pairwise (le:=fun a b=>leN bars a b=true) (fun a b ha hb h1 h2=>?_) hs (srt_pw bars l) (hp.trans (srt_perm bars l).symm)
 exact nd_inj hnd (hp.mem_iff.1 ha) (srt_mem.1 hb) (leN_anti h1 h2)
theorem srt_ext {bars:List Br} {l l':List Nt} (h1:(l.map Nt.id).Nodup) (h2:(l'.map Nt.id).Nodup) (h:∀ n,n∈l↔n∈l'):srt bars l=srt bars l':=
 srt_uniq ((srt_perm bars l).trans ((List.perm_ext_iff_of_nodup (nd_list h1) (nd_list h2)).2 h)) (srt_pw bars l) h2
theorem srt_nd {bars:List Br} {l:List Nt} (h:(l.map Nt.id).Nodup):((srt bars l).map Nt.id).Nodup:=((srt_perm bars l).map _).nodup_iff.2 h
theorem pw_of_ord {bars:List Br}:∀ {l:List Nt},(∀ (i:Nat) a b,l[i]?=some a→l[i+1]?=some b→ltL (keyL bars a) (keyL bars b)=true)→l.Pairwise fun a b=>ltL (keyL bars a) (keyL bars b)=true
 | [],_=>.nil
 |
  x::l,h=>by
  have hl:=pw_of_ord (l:=l) fun i a b h1 h2=>h (i+1) a b (by simpa using h1) (by simpa using h2)
  refine .cons (fun y hy=>?_) hl
  cases l with
  | nil=>cases hy
  |
   cons z l=>
   have h0:=h 0 x z rfl rfl
   rcases List.mem_cons.1 hy with rfl | hy
   · exact h0
   · exact ltL_trans _ _ _ h0 ((List.pairwise_cons.1 hl).1 y hy)
theorem ScOk.pw {s:Sc} (h:ScOk s):s.notes.Pairwise fun a b=>ltL (keyL s.bars a) (keyL s.bars b)=true:=pw_of_ord h.ord
theorem srt_self {s:Sc} (h:ScOk s):srt s.bars s.notes=s.notes:=(srt_uniq (List.Perm.refl _) (h.pw.imp leN_of) h.notes.nd).symm
theorem NotesOk.srt {bars:List Br} {l:List Nt} (h:NotesOk bars l):NotesOk bars (srt bars l):=
 ⟨h.br,by rw[srt_len];exact h.len,fun n hn=>h.all n (srt_mem.1 hn),srt_nd h.nd⟩
theorem nodup_idx {l:List Nt} (h:(l.map Nt.id).Nodup) {i j:Nat} {a b:Nt} (hi:l[i]?=some a) (hj:l[j]?=some b) (he:a.id=b.id):i=j:=by
 have h1:(l.map Nt.id)[i]?=some a.id:=by rw[List.getElem?_map,hi];rfl
 have h2:(l.map Nt.id)[j]?=some a.id:=by rw[List.getElem?_map,hj,he];rfl
 exact(List.getElem?_inj (List.getElem?_eq_some_iff.1 h1).1 h).1 (h1.trans h2.symm)
theorem srt_ord {bars:List Br} {l:List Nt} (hnd:(l.map Nt.id).Nodup):∀ (i:Nat) a b,(srt bars l)[i]?=some a→(srt bars l)[i+1]?=some b→ltL (keyL bars a) (keyL bars b)=true:=fun i a b ha hb=>by
 have h1:=List.pairwise_iff_getElem.1 (srt_pw bars l) i (i+1) (List.getElem?_eq_some_iff.1 ha).1 (List.getElem?_eq_some_iff.1 hb).1 (by omega)
 rw[(List.getElem?_eq_some_iff.1 ha).2,(List.getElem?_eq_some_iff.1 hb).2] at h1
 unfold leN at h1
 rw[Bool.not_eq_true'] at h1
 cases h2:ltL (keyL bars a) (keyL bars b) with
 | true=>rfl
 |
  false=>
  exfalso
  have h3:=leN_anti (bars:=bars) (a:=a) (b:=b) (by unfold leN;rw[h1];rfl) (by unfold leN;rw[h2];rfl)
  have h4:=nodup_idx (srt_nd (bars:=bars) hnd) ha hb h3
  omega
noncomputable def withS (s:Sc) (ver:Int) (l:List Nt):Sc:=⟨ver,s.bars,s.parts,srt s.bars l⟩
theorem with_ok {s:Sc} {ver:Int} {l:List Nt} (h:ScOk s) (hv:within 1 1000000 ver=true) (hl:NotesOk s.bars l) (ho:∀ n,n∈l→OwnOk s.parts n):ScOk (withS s ver l):=
 ⟨hv,h.parts,hl.srt,fun n hn=>ho n (srt_mem.1 hn),srt_ord hl.nd⟩
theorem with_self {s:Sc} (h:ScOk s) {l:List Nt} (hnd:(l.map Nt.id).Nodup) (hm:∀ n,n∈l↔n∈s.notes):withS s s.ver l=s:=by
 unfold withS
 rw[srt_ext hnd h.notes.nd hm,srt_self h]
def zeroN (i:Int):Nt:=⟨i,0,0,0,0,(0,0),(0,0),(0,0,0)⟩
def isEdF (x:Ed):Bool:=within 1 1000000000 x.clock && (within 1 1000000 x.who && (within 1 1000000 x.note.id && (decide (x.kind=1) || (decide (x.kind=2) && decide (x.note=zeroN x.note.id)))))
def appL (l:List Nt) (x:Ed):List Nt:=l.filter (fun n=>n.id != x.note.id)++(if x.kind=1 then [x.note] else [])
theorem appL_mem {l:List Nt} {x:Ed} {n:Nt}:n∈appL l x↔(n∈l∧n.id≠x.note.id)∨(x.kind=1∧n=x.note):=by
 unfold appL
 rw[List.mem_append,List.mem_filter]
 by_cases h:x.kind=1<;>simp[h]
theorem appL_len (l:List Nt) (x:Ed):(appL l x).length≤l.length+1:=by
 unfold appL
 rw[List.length_append]
 have:=List.length_filter_le (fun n:Nt=>n.id != x.note.id) l
 split<;>simp<;>omega
theorem appL_nd {l:List Nt} (x:Ed) (h:(l.map Nt.id).Nodup):((appL l x).map Nt.id).Nodup:=by
 unfold appL
 rw[List.map_append,List.nodup_append]
 refine⟨?_,by split<;>simp,fun a ha b hb=>?_⟩
 · exact h.sublist (List.filter_sublist.map _)
 ·
  obtain⟨n,hn,rfl⟩:=List.mem_map.1 ha
  have h2:=(List.mem_filter.1 hn).2
  split at hb
  · simp at hb;subst hb;simpa using h2
  · simp at hb
structure EdOk (bars:List Br) (parts:List Pt) (l:List Nt) (x:Ed):Prop where
 is:isEdF x=true
 put:x.kind=1→NoteOk bars x.note∧OwnOk parts x.note
 drop:x.kind≠1→∃ n,n∈l∧n.id=x.note.id
theorem EdOk.step {bars:List Br} {parts:List Pt} {l:List Nt} {x y:Ed} (hy:EdOk bars parts l y) (hne:y.note.id≠x.note.id):EdOk bars parts (srt bars (appL l x)) y:=
 ⟨hy.is,hy.put,fun h=>by
  obtain⟨n,h1,h2⟩:=hy.drop h
  exact⟨n,srt_mem.2 (appL_mem.2 (.inl ⟨h1,by omega⟩)),h2⟩⟩
noncomputable def runE (bars:List Br) (l:List Nt) (es:List Ed):List Nt:=es.foldl (fun l x=>srt bars (appL l x)) l
theorem run_cons (bars:List Br) (l:List Nt) (x:Ed) (es:List Ed):runE bars l (x::es)=runE bars (srt bars (appL l x)) es:=rfl
theorem run_snoc (bars:List Br) (l:List Nt) (es:List Ed) (x:Ed):runE bars l (es++[x])=srt bars (appL (runE bars l es) x):=by unfold runE;rw[List.foldl_append];rfl
structure EdsOk (bars:List Br) (parts:List Pt) (l:List Nt) (es:List Ed):Prop where
 notes:NotesOk bars l
 own:∀ n,n∈l→OwnOk parts n
 len:l.length+es.length≤20000
 all:∀ x,x∈es→EdOk bars parts l x
 nd:(es.map fun x=>x.note.id).Nodup
theorem app_notes {bars:List Br} {parts:List Pt} {l:List Nt} {x:Ed} (hl:NotesOk bars l) (ho:∀ n,n∈l→OwnOk parts n) (hlen:l.length<20000) (hx:EdOk bars parts l x):NotesOk bars (appL l x)∧∀ n,n∈appL l x→OwnOk parts n:=by
 have:=appL_len l x
 refine⟨⟨hl.br,by omega,fun n hn=>?_,appL_nd x hl.nd⟩,fun n hn=>?_⟩
 ·
  rcases appL_mem.1 hn with h | ⟨h,rfl⟩
  · exact hl.all n h.1
  · exact(hx.put h).1
 ·
  rcases appL_mem.1 hn with h | ⟨h,rfl⟩
  · exact ho n h.1
  · exact(hx.put h).2
theorem EdsOk.step {bars:List Br} {parts:List Pt} {l:List Nt} {x:Ed} {es:List Ed} (h:EdsOk bars parts l (x::es)):EdsOk bars parts (srt bars (appL l x)) es:=by
 have hl:=h.len
 simp only[List.length_cons] at hl
 have h1:=app_notes h.notes h.own (by omega) (h.all x (by simp))
 have hnd:=h.nd
 rw[List.map_cons,List.nodup_cons] at hnd
 have:=appL_len l x
 exact⟨h1.1.srt,fun n hn=>h1.2 n (srt_mem.1 hn),by rw[srt_len];omega,fun y hy=>(h.all y (by simp[hy])).step fun he=>hnd.1 (List.mem_map.2 ⟨y,hy,he⟩),hnd.2⟩
theorem EdsOk.take {bars:List Br} {parts:List Pt}:∀ {l:List Nt} {es:List Ed} (h:EdsOk bars parts l es) (i:Nat),EdsOk bars parts (runE bars l (es.take i)) (es.drop i)
 | l,es,h,0=>by simpa [runE] using h
 | l,[],h,i+1=>by simpa [runE] using h
 |
  l,x::es,h,i+1=>by
  rw[List.take_succ_cons,List.drop_succ_cons,run_cons]
  exact h.step.take i
theorem run_mem {bars:List Br} {n:Nt}:∀ {l:List Nt} {es:List Ed},(es.map fun x=>x.note.id).Nodup→(n∈runE bars l es↔(n∈l∧∀ x,x∈es→x.note.id≠n.id)∨∃ x,x∈es∧x.kind=1∧n=x.note)
 | l,[],_=>by simp[runE]
 |
  l,x::es,h=>by
  rw[List.map_cons,List.nodup_cons] at h
  rw[run_cons,run_mem h.2,srt_mem,appL_mem]
  constructor
  ·
   rintro (⟨⟨h1,h2⟩ | ⟨h1,h2⟩,h3⟩ | ⟨y,h1,h2⟩)
   ·
    refine .inl ⟨h1,fun y hy=>?_⟩
    rcases List.mem_cons.1 hy with rfl | hy
    · exact fun g=>h2 g.symm
    · exact h3 y hy
   · exact .inr ⟨x,by simp,h1,h2⟩
   · exact .inr ⟨y,by simp[h1],h2⟩
  ·
   rintro (⟨h1,h2⟩ | ⟨y,h1,h2,h3⟩)
   · exact .inl ⟨.inl ⟨h1,fun g=>h2 x (by simp) g.symm⟩,fun y hy=>h2 y (by simp[hy])⟩
   ·
    rcases List.mem_cons.1 h1 with rfl | h1
    ·
     refine .inl ⟨.inr ⟨h2,h3⟩,fun z hz hze=>h.1 (List.mem_map.2 ⟨z,hz,?_⟩)⟩
     rw[hze,h3]
    · exact .inr ⟨y,h1,h2,h3⟩
theorem run_nd {bars:List Br} {parts:List Pt} {l:List Nt} {es:List Ed} (h:EdsOk bars parts l es):((runE bars l es).map Nt.id).Nodup:=by
 have:=(h.take es.length).notes.nd
 rwa [List.take_length] at this
noncomputable def idS (l:List Nt):List Int:=(l.map Nt.id).mergeSort (fun a b=>decide (a≤b))
theorem idS_mem {l:List Nt} {i:Int}:i∈idS l↔∃ n,n∈l∧n.id=i:=by
 unfold idS
 rw[(List.mergeSort_perm _ _).mem_iff,List.mem_map]
theorem idS_nd {l:List Nt} (h:(l.map Nt.id).Nodup):(idS l).Nodup:=(List.mergeSort_perm _ _).nodup_iff.2 h
def noteAt (l:List Nt) (i:Int):Option Nt:=l.find? fun n=>n.id == i
theorem noteAt_some {l:List Nt} (h:(l.map Nt.id).Nodup) {i:Int} {n:Nt}:noteAt l i=some n↔n∈l∧n.id=i:=by
 unfold noteAt
 constructor
 ·
  intro hf
  exact⟨List.mem_of_find?_eq_some hf,by simpa using List.find?_some hf⟩
 ·
  rintro⟨h1,h2⟩
  cases hf:l.find? fun n=>n.id == i with
  | none=>rw[List.find?_eq_none] at hf;exact absurd h2 (by simpa using hf n h1)
  |
   some m=>
   have:=List.find?_some hf
   rw[nd_inj h (List.mem_of_find?_eq_some hf) h1 (by simp at this;omega)]
theorem noteAt_none {l:List Nt} {i:Int}:noteAt l i=none↔∀ n,n∈l→n.id≠i:=by
 unfold noteAt
 rw[List.find?_eq_none]
 simp
def dropF (b:List Nt) (i:Int):Option (Int×Nt):=if (noteAt b i).isNone=true then some (2,zeroN i) else none
def putF (a b:List Nt) (i:Int):Option (Int×Nt):=if noteAt a i=noteAt b i then none else (noteAt b i).map fun n=>(1,n)
noncomputable def kindsE (a b:List Nt):List (Int×Nt):=(idS a).filterMap (dropF b)++(idS b).filterMap (putF a b)
def edsOf (l:List (Int×Nt)):List Ed:=l.zipIdx.map fun x=>⟨x.1.1,x.2+1,1,x.1.2⟩
noncomputable def diffE (a b:List Nt):List Ed:=edsOf (kindsE a b)
theorem edsOf_snoc (l:List (Int×Nt)) (x:Int×Nt):edsOf (l++[x])=edsOf l++[⟨x.1,l.length+1,1,x.2⟩]:=by
 unfold edsOf
 rw[List.zipIdx_append,List.map_append]
 simp
theorem edsOf_len (l:List (Int×Nt)):(edsOf l).length=l.length:=by simp[edsOf]
theorem edsOf_mem {l:List (Int×Nt)} {x:Ed} (h:x∈edsOf l):(x.kind,x.note)∈l∧x.who=1∧1≤x.clock∧x.clock≤l.length:=by
 unfold edsOf at h
 obtain⟨⟨y,i⟩,h1,rfl⟩:=List.mem_map.1 h
 have h2:=List.mem_zipIdx h1
 simp only at *
 obtain⟨h3,h4,h5⟩:=h2
 refine⟨?_,trivial,by omega,by omega⟩
 rw[h5];exact List.getElem_mem _
theorem edsOf_of {l:List (Int×Nt)} {y:Int×Nt} (h:y∈l):∃ x,x∈edsOf l∧x.kind=y.1∧x.note=y.2:=by
 obtain⟨i,hi⟩:=List.mem_iff_getElem?.1 h
 exact⟨⟨y.1,i+1,1,y.2⟩,List.mem_map.2 ⟨(y,i),List.mem_iff_getElem?.2 ⟨i,by rw[List.getElem?_zipIdx,hi];simp⟩,rfl⟩,rfl,rfl⟩
theorem edsOf_ids (l:List (Int×Nt)):(edsOf l).map (fun x=>x.note.id)=l.map fun y=>y.2.id:=by
 unfold edsOf
 rw[List.map_map]
 apply List.ext_getElem?
 intro i
 simp only[List.getElem?_map,List.getElem?_zipIdx]
 cases l[i]?<;>rfl
theorem kinds_mem {a b:List Nt} (ha:(a.map Nt.id).Nodup) (hb:(b.map Nt.id).Nodup) {y:Int×Nt}:y∈kindsE a b↔(∃ n,n∈a∧(∀ m,m∈b→m.id≠n.id)∧y=(2,zeroN n.id))∨(y.2∈b∧y.2∉a∧y.1=1):=by
 unfold kindsE
 rw[List.mem_append,List.mem_filterMap,List.mem_filterMap]
 refine or_congr ?_ ?_
 ·
  constructor
  ·
   rintro⟨i,h1,h2⟩
   obtain⟨n,h3,rfl⟩:=idS_mem.1 h1
   unfold dropF at h2
   split at h2
   ·
    rename_i hq
    rw[Option.isNone_iff_eq_none] at hq
    exact⟨n,h3,noteAt_none.1 hq,(Option.some.inj h2).symm⟩
   · cases h2
  ·
   rintro⟨n,h1,h2,rfl⟩
   refine⟨n.id,idS_mem.2 ⟨n,h1,rfl⟩,?_⟩
   unfold dropF
   rw[noteAt_none.2 h2];rfl
 ·
  constructor
  ·
   rintro⟨i,h1,h2⟩
   obtain⟨n,h3,rfl⟩:=idS_mem.1 h1
   unfold putF at h2
   rw[(noteAt_some hb).2 ⟨h3,rfl⟩] at h2
   split at h2
   · cases h2
   ·
    rename_i hq
    obtain rfl:=Option.some.inj h2
    exact⟨h3,fun hc=>hq ((noteAt_some ha).2 ⟨hc,rfl⟩),rfl⟩
  ·
   rintro⟨h1,h2,h3⟩
   refine⟨y.2.id,idS_mem.2 ⟨_,h1,rfl⟩,?_⟩
   unfold putF
   rw[(noteAt_some hb).2 ⟨h1,rfl⟩,if_neg (fun hc=>h2 ((noteAt_some ha).1 hc).1),← h3];rfl
theorem kinds_nd {a b:List Nt} (ha:(a.map Nt.id).Nodup) (hb:(b.map Nt.id).Nodup):((kindsE a b).map fun y=>y.2.id).Nodup:=by
 unfold kindsE
 rw[List.map_append,List.nodup_append]
 refine⟨fm_nd (idS_nd ha) fun i y h=>?_,fm_nd (idS_nd hb) fun i y h=>?_,fun x hx z hz=>?_⟩
 ·
  unfold dropF at h;split at h
  · rw[← Option.some.inj h];rfl
  · cases h
 ·
  unfold putF at h;split at h
  · cases h
  ·
   obtain⟨n,h1,rfl⟩:=Option.map_eq_some_iff.1 h
   exact((noteAt_some hb).1 h1).2
 ·
  rintro rfl
  obtain⟨y,hy,rfl⟩:=List.mem_map.1 hx
  obtain⟨u,hu,he⟩:=List.mem_map.1 hz
  obtain⟨i,h1,h2⟩:=List.mem_filterMap.1 hy
  obtain⟨j,h3,h4⟩:=List.mem_filterMap.1 hu
  unfold dropF at h2
  unfold putF at h4
  split at h2
  ·
   rename_i hq
   rw[Option.isNone_iff_eq_none] at hq
   split at h4
   · cases h4
   ·
    obtain⟨n,h5,rfl⟩:=Option.map_eq_some_iff.1 h4
    have h6:=(noteAt_some hb).1 h5
    rw[← Option.some.inj h2] at he
    exact noteAt_none.1 hq n h6.1 he
  · cases h2
where fm_nd {f:Int→Option (Int×Nt)}:∀ {l:List Int},l.Nodup→(∀ i y,f i=some y→y.2.id=i)→((l.filterMap f).map fun y=>y.2.id).Nodup
 | [],_,_=>by simp
 |
  i::l,h,hf=>by
  rw[List.nodup_cons] at h
  have ih:=fm_nd h.2 hf
  cases hfi:f i with
  | none=>rw[List.filterMap_cons_none hfi];exact ih
  |
   some y=>
   rw[List.filterMap_cons_some hfi,List.map_cons,List.nodup_cons]
   refine⟨fun hm=>?_,ih⟩
   obtain⟨z,hz,he⟩:=List.mem_map.1 hm
   obtain⟨j,h1,h2⟩:=List.mem_filterMap.1 hz
   have h3:=hf j z h2
   have h4:=hf i y hfi
   exact h.1 (by rw[← h4,← he,h3];exact h1)
theorem kinds_len (a b:List Nt):(kindsE a b).length≤a.length+b.length:=by
 unfold kindsE
 rw[List.length_append]
 have h1:=List.length_filterMap_le (dropF b) (idS a)
 have h2:=List.length_filterMap_le (putF a b) (idS b)
 have h3:(idS a).length=a.length:=by unfold idS;rw[List.length_mergeSort,List.length_map]
 have h4:(idS b).length=b.length:=by unfold idS;rw[List.length_mergeSort,List.length_map]
 omega
theorem diff_ok {bars:List Br} {parts:List Pt} {a b:List Nt} (ha:NotesOk bars a) (hao:∀ n,n∈a→OwnOk parts n) (hb:NotesOk bars b) (hbo:∀ n,n∈b→OwnOk parts n) (hl:2*a.length+b.length≤20000) (hs:srt bars a=a):EdsOk bars parts a (diffE a b)∧runE bars a (diffE a b)=srt bars b∧(diffE a b).length≤a.length+b.length:=by
 have hkl:=kinds_len a b
 have hel:(diffE a b).length≤a.length+b.length:=by unfold diffE;rw[edsOf_len];exact hkl
 have hnd:((diffE a b).map fun x=>x.note.id).Nodup:=by unfold diffE;rw[edsOf_ids];exact kinds_nd ha.nd hb.nd
 have hok:EdsOk bars parts a (diffE a b):=by
  refine⟨ha,hao,by omega,fun x hx=>?_,hnd⟩
  obtain⟨h1,h2,h3,h4⟩:=edsOf_mem hx
  rcases (kinds_mem ha.nd hb.nd).1 h1 with⟨n,h5,h6,h7⟩ | ⟨h5,h6,h7⟩
  ·
   obtain⟨hk,hn⟩:=Prod.mk.inj h7
   have hid:=within_iff.1 (ha.all n h5).id
   refine⟨?_,fun h=>by omega,fun _=>⟨n,h5,by rw[hn];rfl⟩⟩
   unfold isEdF
   rw[hk,hn,h2,within_iff.2 ⟨h3,by omega⟩,show(zeroN n.id).id=n.id from rfl,(ha.all n h5).id]
   simp[within]
  ·
   have hid:=(hb.all _ h5).id
   simp only at h5 h7 hid
   refine⟨?_,fun _=>⟨hb.all _ h5,hbo _ h5⟩,fun h=>absurd h7 h⟩
   unfold isEdF
   rw[h7,h2,within_iff.2 ⟨h3,by omega⟩,hid]
   simp[within]
 refine⟨hok,?_,hel⟩
 have hrs:runE bars a (diffE a b)=srt bars (runE bars a (diffE a b))∨diffE a b=[]:=by
  rcases List.eq_nil_or_concat (diffE a b) with h | ⟨es,x,h⟩
  · exact .inr h
  ·
   left
   have h9:=run_nd hok
   rw[h,List.concat_eq_append,run_snoc] at h9 ⊢
   exact srt_uniq (List.Perm.refl _) (srt_pw bars _) h9
 have hmem:∀ n,n∈runE bars a (diffE a b)↔n∈b:=fun n=>by
  rw[run_mem hnd]
  constructor
  ·
   rintro (⟨h1,h2⟩ | ⟨x,h1,h2,rfl⟩)
   ·
    cases hn:noteAt b n.id with
    |
     none=>
     exfalso
     obtain⟨x,hx,h3,h4⟩:=edsOf_of ((kinds_mem ha.nd hb.nd).2 (.inl ⟨n,h1,noteAt_none.1 hn,rfl⟩))
     exact h2 x hx (by rw[h4];rfl)
    |
     some m=>
     have h3:=(noteAt_some hb.nd).1 hn
     by_cases hm:m∈a
     · rw[← nd_inj ha.nd hm h1 h3.2];exact h3.1
     ·
      exfalso
      obtain⟨x,hx,h5,h6⟩:=edsOf_of ((kinds_mem ha.nd hb.nd).2 (.inr ⟨h3.1,hm,rfl⟩):((1:Int),m)∈kindsE a b)
      exact h2 x hx (by rw[h6];exact h3.2)
   ·
    rcases (kinds_mem ha.nd hb.nd).1 (edsOf_mem h1).1 with⟨n,_,_,h7⟩ | ⟨h5,_,_⟩
    · have:=(Prod.mk.inj h7).1;omega
    · exact h5
  ·
   intro hn
   by_cases hm:n∈a
   ·
    refine .inl ⟨hm,fun x hx he=>?_⟩
    rcases (kinds_mem ha.nd hb.nd).1 (edsOf_mem hx).1 with⟨m,_,h6,h7⟩ | ⟨h5,h6,_⟩
    ·
     have:=(Prod.mk.inj h7).2
     rw[this] at he
     exact h6 n hn he.symm
    ·
     simp only at h5 h6
     rw[nd_inj hb.nd h5 hn he] at h6
     exact h6 hm
   ·
    obtain⟨x,hx,h5,h6⟩:=edsOf_of ((kinds_mem ha.nd hb.nd).2 (.inr ⟨hn,hm,rfl⟩):((1:Int),n)∈kindsE a b)
    exact .inr ⟨x,hx,h5,h6.symm⟩
 rcases hrs with h | h
 ·
  rw[h]
  exact srt_ext (run_nd hok) hb.nd hmem
 ·
  have:runE bars a (diffE a b)=a:=by rw[h];rfl
  rw[this] at hmem ⊢
  rw[← srt_ext ha.nd hb.nd hmem,hs]
def srcOf (p:Pt):Int:=if p.src=0 then p.id else p.src
def playN (p:Pt) (n:Nt):Nt:=⟨n.id,p.id,n.bar,n.voice,n.ossia,n.start,n.len,n.pit.1,n.pit.2.1,n.pit.2.2+p.oct⟩
def playsL (s:Sc) (p:Pt):List Nt:=(s.notes.filter fun n=>n.part == srcOf p).map (playN p)
noncomputable def wtOf (p:Pt) (k:Int) (n:Nt):Wt:=⟨n.id,n.voice,n.ossia,n.start,n.len,(writeF p.sa p.sb p.low p.high k n.pit).1⟩
noncomputable def msF (p:Pt):List Br→List Nt→List Ms
 | [],_=>[]
 | b::bs,l=>⟨b.id,(keyF p.sa p.sb p.low p.high b.key).1,b.len,(l.takeWhile fun n=>n.bar == b.id).map (wtOf p b.key)⟩::msF p bs (l.dropWhile fun n=>n.bar == b.id)
noncomputable def getV (s:Sc) (p:Pt):Vw:=⟨p.id,msF p s.bars (playsL s p)⟩
noncomputable def sndN (p:Pt) (k:Int) (q:Pit):Pit:=if (soundF p.sa p.sb p.low p.high k q).2=0 then ((soundF p.sa p.sb p.low p.high k q).1.1,(soundF p.sa p.sb p.low p.high k q).1.2.1,(soundF p.sa p.sb p.low p.high k q).1.2.2 - p.oct) else (soundF p.sa p.sb p.low p.high k q).1
noncomputable def ownN (p o:Pt) (b:Br) (w:Wt):Nt:=⟨w.id,o.id,b.id,w.voice,w.ossia,w.start,w.len,sndN p b.key w.pit⟩
structure OkN (p o:Pt) (b:Br) (w:Wt):Prop where
 snd:(soundF p.sa p.sb p.low p.high b.key w.pit).2=0
 is:isNoteP (sndN p b.key w.pit)=true
 lo:numF o.low≤numF (sndN p b.key w.pit)
 hi:numF (sndN p b.key w.pit)≤numF o.high
def pairsW (bars:List Br) (ms:List Ms):List (Br×Wt):=(bars.zip ms).flatMap fun x=>x.2.notes.map fun w=>(x.1,w)
noncomputable def newL (p o:Pt) (bars:List Br) (ms:List Ms):List Nt:=(pairsW bars ms).map fun x=>ownN p o x.1 x.2
def othersL (s:Sc) (o:Pt):List Nt:=s.notes.filter fun n=>n.part != o.id
structure GoodW (s:Sc) (p o:Pt) (x:Br×Wt):Prop where
 ok:OkN p o x.1 x.2
 fresh:∀ n,n∈othersL s o→n.id≠x.2.id
def Puts (s:Sc) (v:Vw) (p o:Pt):Prop:=∀ x,x∈pairsW s.bars v.ms→GoodW s p o x
structure Owner (s:Sc) (p o:Pt):Prop where
 mp:p∈s.parts
 mo:o∈s.parts
 id:o.id=srcOf p
 own:o.src=0
theorem own_ex {s:Sc} (h:ScOk s) {p:Pt} (hp:p∈s.parts):∃ o,Owner s p o:=by
 by_cases h0:p.src=0
 · exact⟨p,hp,hp,by unfold srcOf;rw[if_pos h0],h0⟩
 ·
  obtain⟨o,h1,h2,h3⟩:=h.parts.src p hp h0
  exact⟨o,hp,h1,by unfold srcOf;rw[if_neg h0];exact h2,h3⟩
theorem pairs_ids:∀ {bars:List Br} {ms:List Ms},ms.length=bars.length→(pairsW bars ms).map (fun x=>x.2.id)=(allW ms).map Wt.id
 | [],[],_=>rfl
 | [],_::_,h=>by simp at h
 | _::_,[],h=>by simp at h
 |
  b::bs,m::ms,h=>by
  have:=pairs_ids (bars:=bs) (ms:=ms) (by simpa using h)
  unfold pairsW allW at *
  rw[List.zip_cons_cons,List.flatMap_cons,List.flatMap_cons,List.map_append,List.map_append,this,List.map_map]
  rfl
theorem pairs_mem:∀ {bars:List Br} {ms:List Ms} {x:Br×Wt},x∈pairsW bars ms→∃ (i:Nat) (m:Ms),bars[i]?=some x.1∧ms[i]?=some m∧x.2∈m.notes
 |
  bars,ms,x,h=>by
  unfold pairsW at h
  obtain⟨⟨b,m⟩,h1,h2⟩:=List.mem_flatMap.1 h
  obtain⟨w,h3,rfl⟩:=List.mem_map.1 h2
  obtain⟨i,hi⟩:=List.mem_iff_getElem?.1 h1
  rw[List.getElem?_zip_eq_some] at hi
  exact⟨i,m,hi.1,hi.2,h3⟩
theorem VwOk.formA {s:Sc} {v:Vw} (h:VwOk s v) {x:Br×Wt} (hx:x∈pairsW s.bars v.ms):x.1∈s.bars∧FormA x.2 x.1.len:=by
 obtain⟨i,m,h1,h2,h3⟩:=pairs_mem hx
 obtain⟨p,_,_,h4⟩:=h.ms
 refine⟨List.mem_of_getElem? h1,?_⟩
 rw[← (h4 i m x.1 h2 h1).2.2]
 exact formA_of (h.form m (List.mem_of_getElem? h2) x.2 h3)
theorem own_note {s:Sc} {p o:Pt} (hs:ScOk s) (ho:Owner s p o) {b:Br} {w:Wt} (hb:b∈s.bars) (hw:FormA w b.len):NoteA s.bars (ownN p o b w):=
 ⟨hw.id,(hs.parts.all o ho.mo).id,hw.voice,hw.ossia,hw.start,hw.len,b,hb,rfl,hw.fit⟩
theorem others_mem {s:Sc} {o:Pt} {n:Nt}:n∈othersL s o↔n∈s.notes∧n.part≠o.id:=by unfold othersL;rw[List.mem_filter];simp
theorem new_mem {p o:Pt} {bars:List Br} {ms:List Ms} {n:Nt}:n∈newL p o bars ms↔∃ x,x∈pairsW bars ms∧n=ownN p o x.1 x.2:=by
 unfold newL;rw[List.mem_map];exact⟨fun⟨x,h1,h2⟩=>⟨x,h1,h2.symm⟩,fun⟨x,h1,h2⟩=>⟨x,h1,h2.symm⟩⟩
theorem new_ids (p o:Pt) {bars:List Br} {ms:List Ms} (h:ms.length=bars.length):(newL p o bars ms).map Nt.id=(allW ms).map Wt.id:=by
 rw[← pairs_ids h];unfold newL;rw[List.map_map];rfl
noncomputable def putL (s:Sc) (v:Vw) (p o:Pt):List Nt:=othersL s o++newL p o s.bars v.ms
theorem put_len {s:Sc} {v:Vw} {p o:Pt} (hv:VwOk s v):(putL s v p o).length≤s.notes.length+(allW v.ms).length:=by
 have h1:=congrArg List.length (new_ids p o hv.len)
 rw[List.length_map,List.length_map] at h1
 unfold putL
 rw[List.length_append,h1]
 have:(othersL s o).length≤s.notes.length:=by unfold othersL;exact List.length_filter_le _ _
 omega
theorem others_nd {s:Sc} (hs:ScOk s) (o:Pt):((othersL s o).map Nt.id).Nodup:=hs.notes.nd.sublist (List.filter_sublist.map _)
theorem put_notes {s:Sc} {v:Vw} {p o:Pt} (hv:VwOk s v) (ho:Owner s p o) (hp:Puts s v p o) (hl:s.notes.length+(allW v.ms).length≤20000):NotesOk s.bars (putL s v p o)∧∀ n,n∈putL s v p o→OwnOk s.parts n:=by
 have hpl:=put_len (p:=p) (o:=o) hv
 have hi:=new_ids p o hv.len
 refine⟨⟨hv.sc.notes.br,by omega,fun n hn=>?_,?_⟩,fun n hn=>?_⟩
 ·
  rcases List.mem_append.1 hn with h | h
  · exact hv.sc.notes.all n (others_mem.1 h).1
  ·
   obtain⟨x,h1,rfl⟩:=new_mem.1 h
   exact(own_note hv.sc ho (hv.formA h1).1 (hv.formA h1).2).ok (hp x h1).ok.is
 ·
  unfold putL
  rw[List.map_append,List.nodup_append]
  refine⟨others_nd hv.sc o,by rw[hi];exact hv.nd,fun a ha b hb=>?_⟩
  obtain⟨n,hn,rfl⟩:=List.mem_map.1 ha
  obtain⟨m,hm,rfl⟩:=List.mem_map.1 hb
  obtain⟨x,h1,rfl⟩:=new_mem.1 hm
  exact(hp x h1).fresh n hn
 ·
  rcases List.mem_append.1 hn with h | h
  · exact hv.sc.own n (others_mem.1 h).1
  ·
   obtain⟨x,h1,rfl⟩:=new_mem.1 h
   exact⟨o,ho.mo,rfl,ho.own,(hp x h1).ok.lo,(hp x h1).ok.hi⟩
theorem msF_len (p:Pt):∀ (bars:List Br) (l:List Nt),(msF p bars l).length=bars.length
 | [],_=>rfl
 | b::bs,l=>by rw[msF,List.length_cons,msF_len p bs,List.length_cons]
theorem msF_ids (p:Pt):∀ (bars:List Br) (l:List Nt),((allW (msF p bars l)).map Wt.id).Sublist (l.map Nt.id)
 | [],l=>List.nil_sublist _
 |
  b::bs,l=>by
  have ih:=msF_ids p bs (l.dropWhile fun n=>n.bar == b.id)
  unfold allW at *
  rw[msF,List.flatMap_cons,List.map_append,List.map_map]
  have h2:l.map Nt.id=(l.takeWhile fun n=>n.bar == b.id).map Nt.id++(l.dropWhile fun n=>n.bar == b.id).map Nt.id:=by rw[← List.map_append,List.takeWhile_append_dropWhile]
  rw[h2]
  exact List.Sublist.append (List.Sublist.refl _) ih
theorem msF_ok (p:Pt):∀ (bars:List Br) (l:List Nt) (i:Nat) (m:Ms) (b:Br),(msF p bars l)[i]?=some m→bars[i]?=some b→MsOk p m b
 | [],_,i,m,b,h,_=>by simp[msF] at h
 |
  c::bs,l,0,m,b,h,h2=>by
  simp only[msF,List.getElem?_cons_zero,Option.some.injEq] at h h2
  subst h;subst h2;exact⟨rfl,rfl,rfl⟩
 |
  c::bs,l,i+1,m,b,h,h2=>by
  simp only[msF,List.getElem?_cons_succ] at h h2
  exact msF_ok p bs _ i m b h h2
theorem msF_notes (p:Pt):∀ (bars:List Br) (l:List Nt) (m:Ms),m∈msF p bars l→∃ (b:Br) (q:List Nt),b∈bars∧m.len=b.len∧q.Sublist l∧(∀ n,n∈q→n.bar=b.id)∧m.notes=q.map (wtOf p b.key)
 | [],_,m,h=>by cases h
 |
  b::bs,l,m,h=>by
  rw[msF] at h
  rcases List.mem_cons.1 h with rfl | h
  ·
   refine⟨b,_,by simp,rfl,List.takeWhile_sublist _,fun n hn=>?_,rfl⟩
   have:=tw_all _ _ n hn
   simpa using this
  ·
   obtain⟨c,q,h1,h2,h3,h4,h5⟩:=msF_notes p bs _ m h
   exact⟨c,q,by simp[h1],h2,h3.trans (List.dropWhile_sublist _),h4,h5⟩
where tw_all (f:Nt→Bool):∀ (l:List Nt) (n:Nt),n∈l.takeWhile f→f n=true
 | [],n,h=>by cases h
 |
  x::l,n,h=>by
  rw[List.takeWhile_cons] at h
  split at h
  ·
   rcases List.mem_cons.1 h with rfl | h
   · assumption
   · exact tw_all f l n h
  · cases h
theorem pairs_sub (p:Pt):∀ (bars:List Br) (l:List Nt) (x:Br×Wt),x∈pairsW bars (msF p bars l)→∃ n,n∈l∧x.1∈bars∧x.1.id=n.bar∧x.2=wtOf p x.1.key n
 | [],_,x,h=>by cases h
 |
  b::bs,l,x,h=>by
  unfold pairsW at h
  rw[msF,List.zip_cons_cons,List.flatMap_cons] at h
  rcases List.mem_append.1 h with h | h
  ·
   obtain⟨w,h1,rfl⟩:=List.mem_map.1 h
   obtain⟨n,h2,rfl⟩:=List.mem_map.1 h1
   exact⟨n,(List.takeWhile_sublist _).mem h2,by simp,by have:=msF_notes.tw_all _ _ n h2;simp at this;exact this.symm,rfl⟩
  ·
   obtain⟨n,h1,h2,h3⟩:=pairs_sub p bs _ x h
   exact⟨n,(List.dropWhile_sublist _).mem h1,by simp[h2],h3⟩
theorem pairs_all (p:Pt) (f:Int→Nat):∀ (k:Nat) (bars:List Br) (l:List Nt),(∀ (i:Nat) b,bars[i]?=some b→f b.id=i+k)→(∀ n,n∈l→∃ b,b∈bars∧b.id=n.bar)→l.Pairwise (fun a c=>f a.bar≤f c.bar)→∀ n,n∈l→∃ x,x∈pairsW bars (msF p bars l)∧x.1.id=n.bar∧x.2=wtOf p x.1.key n
 | k,[],l,_,h2,_,n,hn=>by obtain⟨b,h,_⟩:=h2 n hn;cases h
 |
  k,b::bs,l,h1,h2,h3,n,hn=>by
  have hbk:=h1 0 b rfl
  have hd:∀ m,m∈l.dropWhile (fun n=>n.bar == b.id)→k+1≤f m.bar:=fun m hm=>by
   cases hq:l.dropWhile (fun n=>n.bar == b.id) with
   | nil=>rw[hq] at hm;cases hm
   |
    cons y q=>
    have hy:(y.bar == b.id)=false:=by
     have h4:=List.head?_dropWhile_not (fun n:Nt=>n.bar == b.id) l
     rw[hq] at h4
     simpa using h4
    have hyl:y∈l:=(List.dropWhile_sublist (fun n:Nt=>n.bar == b.id)).mem (by rw[hq];simp)
    have hyk:k+1≤f y.bar:=by
     obtain⟨c,hc,he⟩:=h2 y hyl
     obtain⟨i,hi⟩:=List.mem_iff_getElem?.1 hc
     have h5:=h1 i c hi
     rw[he] at h5
     cases i with
     | zero=>simp only[List.getElem?_cons_zero,Option.some.injEq] at hi;subst hi;simp at hy;exact absurd he.symm hy
     | succ i=>omega
    rw[hq] at hm
    rcases List.mem_cons.1 hm with rfl | hm
    · exact hyk
    ·
     have h6:(y::q).Pairwise (fun a c=>f a.bar≤f c.bar):=by rw[← hq];exact h3.sublist (List.dropWhile_sublist _)
     have:=(List.pairwise_cons.1 h6).1 m hm
     omega
  have hsp:n∈l.takeWhile (fun n=>n.bar == b.id)∨n∈l.dropWhile (fun n=>n.bar == b.id):=by
   rw[← List.mem_append,List.takeWhile_append_dropWhile];exact hn
  unfold pairsW
  rw[msF,List.zip_cons_cons,List.flatMap_cons]
  rcases hsp with h | h
  ·
   refine⟨(b,wtOf p b.key n),List.mem_append.2 (.inl (List.mem_map.2 ⟨_,List.mem_map.2 ⟨n,h,rfl⟩,rfl⟩)),?_,rfl⟩
   have:=msF_notes.tw_all _ _ n h
   simp at this;exact this.symm
  ·
   obtain⟨x,h5,h6⟩:=pairs_all p f (k+1) bs _ (fun i c hi=>by have:=h1 (i+1) c (by simpa using hi);omega) (fun m hm=>by
    obtain⟨c,hc,he⟩:=h2 m ((List.dropWhile_sublist _).mem hm)
    rcases List.mem_cons.1 hc with rfl | hc
    · have:=hd m hm;rw[← he] at this;omega
    · exact⟨c,hc,he⟩) (h3.sublist (List.dropWhile_sublist _)) n h
   exact⟨x,List.mem_append.2 (.inr h5),h6⟩
theorem ok_part {s:Sc} (hs:ScOk s) {p:Pt} {b:Br} (hp:p∈s.parts) (hb:b∈s.bars):okI p.sa p.sb p.low p.high b.key=true:=by
 have h:=hs.parts.all p hp
 unfold okI writtenF isKey
 rw[Bool.and_eq_true,Bool.and_eq_true]
 refine⟨⟨h.shift,?_⟩,within_iff.2 (hs.bars.all b hb).key⟩
 rw[h.low,h.high];simpa using h.range
theorem write_play {s:Sc} (hs:ScOk s) {p:Pt} {b:Br} {n:Nt} (hp:p∈s.parts) (hb:b∈s.bars) (hn:NoteOk s.bars n):writeF p.sa p.sb p.low p.high b.key (playN p n).pit=(addP (playN p n).pit (mvI p.sa p.sb b.key).2.1 (mvI p.sa p.sb b.key).2.2,0):=by
 have h1:=isNote_b hn.pit
 have h2:=within_iff.1 (hs.parts.all p hp).oct
 refine write_ok (ok_part hs hp hb) ?_ ?_ ?_
 · rw[validP_iff];show(0≤n.pit.1∧n.pit.1≤6)∧(-4≤n.pit.2.1∧n.pit.2.1≤4)∧-8≤n.pit.2.2+p.oct∧n.pit.2.2+p.oct≤20;omega
 · exact h1.2.1
 · show -2≤n.pit.2.2+p.oct∧n.pit.2.2+p.oct≤11;omega
theorem write_snd {s:Sc} (hs:ScOk s) {p:Pt} {b:Br} {n:Nt} (hp:p∈s.parts) (hb:b∈s.bars) (hn:NoteOk s.bars n):(soundF p.sa p.sb p.low p.high b.key (wtOf p b.key (playN p n)).pit).2=0∧sndN p b.key (wtOf p b.key (playN p n)).pit=n.pit∧validP (wtOf p b.key (playN p n)).pit=true:=by
 have h:=write_back (show(writeF p.sa p.sb p.low p.high b.key (playN p n).pit).2=0 by rw[write_play hs hp hb hn])
 have h1:soundF p.sa p.sb p.low p.high b.key (wtOf p b.key (playN p n)).pit=((playN p n).pit,0):=h.1
 refine⟨by rw[h1],?_,h.2⟩
 unfold sndN
 rw[h1,if_pos rfl]
 show(n.pit.1,n.pit.2.1,n.pit.2.2+p.oct - p.oct)=n.pit
 rw[Int.add_sub_cancel]
theorem plays_mem {s:Sc} {p:Pt} {m:Nt}:m∈playsL s p↔∃ n,n∈s.notes∧n.part=srcOf p∧m=playN p n:=by
 unfold playsL
 rw[List.mem_map]
 constructor
 · rintro⟨n,h,rfl⟩;rw[List.mem_filter] at h;exact⟨n,h.1,by simpa using h.2,rfl⟩
 · rintro⟨n,h,h2,rfl⟩;exact⟨n,List.mem_filter.2 ⟨h,by simpa using h2⟩,rfl⟩
theorem plays_nd {s:Sc} (hs:ScOk s) (p:Pt):((playsL s p).map Nt.id).Nodup:=by
 unfold playsL
 rw[List.map_map]
 exact hs.notes.nd.sublist (List.filter_sublist.map _)
theorem ltL_shift' (a b c d e f g h t:Int):ltL [a,b,c+t,d] [e,f,g+t,h]=ltL [a,b,c,d] [e,f,g,h]:=by
 simp only[ltL,Int.add_left_inj,Int.add_lt_add_iff_right]
theorem bars_inj {l:List Br} (h:(l.map Br.id).Nodup) {a b:Br} (ha:a∈l) (hb:b∈l) (he:a.id=b.id):a=b:=by
 obtain⟨i,hi⟩:=List.mem_iff_getElem?.1 ha
 obtain⟨j,hj⟩:=List.mem_iff_getElem?.1 hb
 have h1:(l.map Br.id)[i]?=some a.id:=by rw[List.getElem?_map,hi];rfl
 have h2:(l.map Br.id)[j]?=some a.id:=by rw[List.getElem?_map,hj,he];rfl
 have:=(List.getElem?_inj (List.getElem?_eq_some_iff.1 h1).1 h).1 (h1.trans h2.symm)
 subst this
 rw[hi] at hj
 exact Option.some.inj hj
theorem parts_inj {l:List Pt} (h:(l.map Pt.id).Nodup) {a b:Pt} (ha:a∈l) (hb:b∈l) (he:a.id=b.id):a=b:=by
 obtain⟨i,hi⟩:=List.mem_iff_getElem?.1 ha
 obtain⟨j,hj⟩:=List.mem_iff_getElem?.1 hb
 have h1:(l.map Pt.id)[i]?=some a.id:=by rw[List.getElem?_map,hi];rfl
 have h2:(l.map Pt.id)[j]?=some a.id:=by rw[List.getElem?_map,hj,he];rfl
 have:=(List.getElem?_inj (List.getElem?_eq_some_iff.1 h1).1 h).1 (h1.trans h2.symm)
 subst this
 rw[hi] at hj
 exact Option.some.inj hj
theorem get_ok {s t:Sc} (hs:ScOk s) (ht:ScOk t) (hb:t.bars=s.bars) (hpt:t.parts=s.parts) {q:Pt} (hq:q∈s.parts):VwOk t (getV s q):=by
 have hids:=msF_ids q s.bars (playsL s q)
 refine⟨ht,?_,⟨q,by rw[hpt];exact hq,rfl,fun i m b h1 h2=>msF_ok q s.bars _ i m b h1 (by rw[← hb];exact h2)⟩,fun m hm w hw=>?_,fun m hm=>?_,(plays_nd hs q).sublist hids,?_⟩
 ·
  show(msF q s.bars (playsL s q)).length=_
  rw[msF_len,hb]
 ·
  obtain⟨b,l,h1,h2,h3,h4,h5⟩:=msF_notes q _ _ m hm
  rw[h5] at hw
  obtain⟨n',hn',rfl⟩:=List.mem_map.1 hw
  obtain⟨n,g1,g2,rfl⟩:=plays_mem.1 (h3.mem hn')
  have hn:=hs.notes.all n g1
  refine formA_b ⟨hn.id,hn.voice,hn.ossia,(write_snd hs hq h1 hn).2.2,hn.start,hn.len,?_⟩
  obtain⟨c,c1,c2,c3⟩:=hn.bar
  have hcb:c=b:=bars_inj hs.bars.nd c1 h1 (by rw[c2];exact h4 (playN q n) hn')
  rw[h2,← hcb];exact c3
 ·
  obtain⟨b,l,h1,h2,h3,h4,h5⟩:=msF_notes q _ _ m hm
  intro k x y hx hy
  rw[h5,List.getElem?_map,Option.map_eq_some_iff] at hx hy
  obtain⟨x',hx',rfl⟩:=hx
  obtain⟨y',hy',rfl⟩:=hy
  have hpw2:(playsL s q).Pairwise fun a c=>a.bar=c.bar→ltL (wkey (wtOf q b.key a)) (wkey (wtOf q b.key c))=true:=by
   unfold playsL
   rw[List.pairwise_map,List.pairwise_filter]
   refine hs.pw.imp_of_mem fun {a c} ha hc hac h6 h7 h8=>?_
   simp at h6 h7
   have h8':a.bar=c.bar:=h8
   have w1:=write_play hs hq h1 (hs.notes.all a ha)
   have w2:=write_play hs hq h1 (hs.notes.all c hc)
   have e1:wkey (wtOf q b.key (playN q a))=[tickF a.start,a.voice,numF a.pit+(12*q.oct+(mvI q.sa q.sb b.key).2.2),a.id]:=by
    unfold wkey wtOf;simp only[w1,add_num];simp only[playN,numF];congr 3;omega
   have e2:wkey (wtOf q b.key (playN q c))=[tickF c.start,c.voice,numF c.pit+(12*q.oct+(mvI q.sa q.sb b.key).2.2),c.id]:=by
    unfold wkey wtOf;simp only[w2,add_num];simp only[playN,numF];congr 3;omega
   rw[e1,e2,ltL_shift']
   unfold keyL at hac
   rw[h8',h6,h7] at hac
   simpa only [ltL,if_true] using hac
  have h9:=List.pairwise_iff_getElem.1 (hpw2.sublist h3) k (k+1) (List.getElem?_eq_some_iff.1 hx').1 (List.getElem?_eq_some_iff.1 hy').1 (by omega)
  rw[(List.getElem?_eq_some_iff.1 hx').2,(List.getElem?_eq_some_iff.1 hy').2] at h9
  exact h9 (by rw[h4 _ (List.mem_of_getElem? hx'),h4 _ (List.mem_of_getElem? hy')])
 ·
  have h1:=hids.length_le
  rw[List.length_map,List.length_map] at h1
  have h2:(playsL s q).length≤s.notes.length:=by unfold playsL;rw[List.length_map];exact List.length_filter_le _ _
  have:=hs.notes.len
  show(allW (msF q s.bars (playsL s q))).length≤20000
  omega
theorem get_len {s:Sc} (q:Pt):(allW (getV s q).ms).length≤s.notes.length:=by
 have h1:=(msF_ids q s.bars (playsL s q)).length_le
 rw[List.length_map,List.length_map] at h1
 have h2:(playsL s q).length≤s.notes.length:=by unfold playsL;rw[List.length_map];exact List.length_filter_le _ _
 show(allW (msF q s.bars (playsL s q))).length≤_
 omega
theorem get_put {s t:Sc} (hs:ScOk s) (ht:ScOk t) (hb:t.bars=s.bars) (hpt:t.parts=s.parts) {q o:Pt} (ho:Owner s q o) (hoth:∀ n,n∈othersL t o↔n∈othersL s o) (hl:t.notes.length+s.notes.length≤20000):Puts t (getV s q) q o∧withS t s.ver (putL t (getV s q) q o)=s:=by
 have hback:∀ (b:Br) (n:Nt),b∈s.bars→n∈s.notes→n.part=srcOf q→b.id=n.bar→ownN q o b (wtOf q b.key (playN q n))=n:=fun b n h1 h2 h3 h4=>by
  unfold ownN
  rw[(write_snd hs ho.mp h1 (hs.notes.all n h2)).2.1,h4,ho.id,← h3]
  rfl
 have hputs:Puts t (getV s q) q o:=fun x hx=>by
  rw[hb] at hx
  obtain⟨m,h1,h2,h3,h4⟩:=pairs_sub q s.bars _ x hx
  obtain⟨n,h5,h6,rfl⟩:=plays_mem.1 h1
  have hn:=hs.notes.all n h5
  obtain⟨w1,w2,w3⟩:=write_snd hs ho.mp h2 hn
  obtain⟨b,w⟩:=x
  simp only at *
  subst h4
  obtain⟨p',g1,g2,g3,g4,g5⟩:=hs.own n h5
  have hpo:p'=o:=parts_inj hs.parts.nd g1 ho.mo (by rw[g2,h6,ho.id])
  subst hpo
  refine⟨⟨w1,by rw[w2];exact hn.pit,by rw[w2];exact g4,by rw[w2];exact g5⟩,fun m hm he=>?_⟩
  have h7:=others_mem.1 ((hoth m).1 hm)
  have h8:m=n:=nd_inj hs.notes.nd h7.1 h5 he
  subst h8
  exact h7.2 g2.symm
 refine⟨hputs,?_⟩
 have hv:=get_ok hs ht hb hpt ho.mp
 have ho':Owner t q o:=⟨by rw[hpt];exact ho.mp,by rw[hpt];exact ho.mo,ho.id,ho.own⟩
 have hnotes:=(put_notes hv ho' hputs (by have:=get_len (s:=s) q;omega)).1
 have:withS t s.ver (putL t (getV s q) q o)=withS s s.ver (putL t (getV s q) q o):=by unfold withS;rw[hb,hpt]
 rw[this]
 refine with_self hs hnotes.nd fun n=>?_
 unfold putL
 rw[List.mem_append,hoth,others_mem,new_mem,hb]
 constructor
 ·
  rintro (h | ⟨x,h1,rfl⟩)
  · exact h.1
  ·
   obtain⟨m,h1,h2,h3,h4⟩:=pairs_sub q s.bars _ x h1
   obtain⟨n,h5,h6,rfl⟩:=plays_mem.1 h1
   rw[h4,hback x.1 n h2 h5 h6 h3];exact h5
 ·
  intro hn
  by_cases hp:n.part=o.id
  ·
   right
   have hbars:∀ (i:Nat) b,s.bars[i]?=some b→(ixOf (s.bars.map Br.id) b.id).toNat=i+0:=fun i b hi=>by
    rw[ix_get hs.bars.nd (show(s.bars.map Br.id)[i]?=some b.id by rw[List.getElem?_map,hi];rfl)];simp
   obtain⟨x,h1,h2,h3⟩:=pairs_all q (fun x=>(ixOf (s.bars.map Br.id) x).toNat) 0 s.bars (playsL s q) hbars (fun m hm=>by
    obtain⟨n,h5,h6,rfl⟩:=plays_mem.1 hm
    obtain⟨c,c1,c2,_⟩:=(hs.notes.all n h5).bar
    exact⟨c,c1,c2⟩) (by
    unfold playsL
    rw[List.pairwise_map,List.pairwise_filter]
    refine hs.pw.imp fun {a c} hac _ _=>?_
    show(ixOf (s.bars.map Br.id) a.bar).toNat≤(ixOf (s.bars.map Br.id) c.bar).toNat
    unfold keyL at hac
    rw[ltL] at hac
    split at hac
    · rename_i he;rw[he];exact Nat.le_refl _
    · simp at hac;omega) (playN q n) (plays_mem.2 ⟨n,hn,by rw[hp,ho.id],rfl⟩)
   refine⟨x,h1,?_⟩
   obtain⟨m,_,g2,_,_⟩:=pairs_sub q s.bars _ x h1
   rw[h3,hback x.1 n g2 hn (by rw[hp,ho.id]) h2]
  · exact .inl ⟨hn,hp⟩
theorem part_inj {s:Sc} (hs:ScOk s) {a b:Pt} (ha:a∈s.parts) (hb:b∈s.parts) (he:a.id=b.id):a=b:=parts_inj hs.parts.nd ha hb he
theorem put_ok {s:Sc} {v:Vw} {p o:Pt} {ver:Int} (hv:VwOk s v) (ho:Owner s p o) (hp:Puts s v p o) (hl:s.notes.length+(allW v.ms).length≤20000) (hver:within 1 1000000 ver=true):ScOk (withS s ver (putL s v p o)):=
 with_ok hv.sc hver (put_notes hv ho hp hl).1 (put_notes hv ho hp hl).2
theorem run_ok {s t:Sc} (hs:ScOk s) (ht:ScOk t) (hb:t.bars=s.bars) (hpt:t.parts=s.parts) (hl:2*s.notes.length+t.notes.length≤20000):EdsOk s.bars s.parts s.notes (diffE s.notes t.notes)∧runE s.bars s.notes (diffE s.notes t.notes)=t.notes∧(diffE s.notes t.notes).length≤s.notes.length+t.notes.length:=by
 obtain⟨h1,h2,h3⟩:=diff_ok hs.notes hs.own (by rw[← hb];exact ht.notes) (by rw[← hpt];exact ht.own) hl (srt_self hs)
 refine⟨h1,?_,h3⟩
 rw[h2,← hb,srt_self ht]
theorem others_put {s:Sc} {v:Vw} {p o:Pt} {ver:Int} (n:Nt):n∈othersL (withS s ver (putL s v p o)) o↔n∈othersL s o:=by
 rw[others_mem,others_mem]
 show n∈srt s.bars _∧_↔_
 rw[srt_mem]
 unfold putL
 rw[List.mem_append,others_mem,new_mem]
 constructor
 ·
  rintro⟨h | ⟨x,_,rfl⟩,h2⟩
  · exact h
  · exact absurd rfl h2
 · intro h;exact⟨.inl h,h.2⟩
structure Undone (s:Sc) (v:Vw) (p o:Pt) (out t:Sc):Prop where
 okOut:ScOk out
 okT:ScOk t
 same:t.notes=out.notes
 oBars:out.bars=s.bars
 oParts:out.parts=s.parts
 tbars:t.bars=s.bars
 tparts:t.parts=s.parts
 there:EdsOk s.bars s.parts s.notes (diffE s.notes t.notes)
 many:(diffE s.notes t.notes).length≤200
 run:withS s 1 (runE s.bars s.notes (diffE s.notes t.notes))=t
 back:EdsOk out.bars out.parts out.notes (diffE t.notes s.notes)
 manyB:(diffE t.notes s.notes).length≤200
 runB:withS out s.ver (runE out.bars out.notes (diffE t.notes s.notes))=s
 again:∀ q,q∈s.parts→srcOf q=srcOf p→VwOk out (getV s q)∧Owner out q o∧Puts out (getV s q) q o∧withS out s.ver (putL out (getV s q) q o)=s∧out.notes.length+(allW (getV s q).ms).length≤20000
theorem undone {s:Sc} {v:Vw} {p o:Pt} (hv:VwOk s v) (ho:Owner s p o) (hp:Puts s v p o) (hl:s.notes.length≤60) (hl2:(allW v.ms).length≤80):Undone s v p o (withS s s.ver (putL s v p o)) (withS s 1 (putL s v p o)):=by
 have hs:=hv.sc
 have hout:=put_ok (ver:=s.ver) hv ho hp (by omega) hs.ver
 have ht:=put_ok (ver:=1) hv ho hp (by omega) (by rfl)
 have hpl:=put_len (p:=p) (o:=o) hv
 have hnl:(withS s s.ver (putL s v p o)).notes.length≤140:=by show(srt s.bars _).length≤140;rw[srt_len];omega
 have htl:(withS s 1 (putL s v p o)).notes.length≤140:=hnl
 have r1:=run_ok hs ht rfl rfl (by omega)
 have r2:=run_ok (s:=withS s s.ver (putL s v p o)) hout hs rfl rfl (by omega)
 refine⟨hout,ht,rfl,rfl,rfl,rfl,rfl,r1.1,by have:=r1.2.2;omega,?_,r2.1,?_,?_,fun q hq hsrc=>?_⟩
 ·
  rw[r1.2.1]
  unfold withS
  show Sc.mk 1 s.bars s.parts (srt s.bars (srt s.bars _))=_
  rw[srt_ext (srt_nd (put_notes hv ho hp (by omega)).1.nd) (put_notes hv ho hp (by omega)).1.nd fun n=>srt_mem]
 ·
  have:=r2.2.2
  show(diffE (withS s s.ver (putL s v p o)).notes s.notes).length≤200
  omega
 ·
  show withS _ s.ver (runE (withS s s.ver (putL s v p o)).bars (withS s s.ver (putL s v p o)).notes (diffE (withS s s.ver (putL s v p o)).notes s.notes))=s
  rw[r2.2.1]
  show Sc.mk s.ver s.bars s.parts (srt s.bars s.notes)=s
  rw[srt_self hs]
 ·
  have hoq:Owner s q o:=⟨hq,ho.mo,by rw[ho.id,hsrc],ho.own⟩
  have hgl:=get_len (s:=s) q
  obtain⟨g1,g2⟩:=get_put hs hout rfl rfl hoq others_put (by omega)
  exact⟨get_ok hs hout rfl rfl hq,⟨hq,ho.mo,hoq.id,ho.own⟩,g1,g2,by omega⟩
section
variable {P:Program} {ops:Array Oper} {Q:Exit→St→Prop} {o:Oper} {rest:List Oper} {σ:St} {ds:List (Option Nat)}
theorem WO.appendLit {x y:Operand} {t e:TypeId} {k sz by' m:Nat} {zs:List Value} {ys:SV} (news:List Value) (hds:dsOk ds ops.toList=true) (hg:gd ds σ o.guard=some true) (hd:dOk σ o.dst=true)
  (hop:o.op=.call ⟨.builtin .append,#[x,y],#[t,t]⟩) (hk:nth σ.own k=some (.cells e [])) (hx:ev σ x=some (.lsl k 0 0 0)) (hy:ev σ y=some ys) (he:elemK P t=some (e,sz,by',zs))
  (hnews:∀ ρ w,Base ρ σ w→∃ a c,den ρ ys=.slice (some a) m c∧At w a news) (hl:news.length=m*sz) (h1:∀ u,u∈news→u.oneCell'=true) (h63:m≤maxLen) (h47:m*by'≤140737488355328)
  (h:∀ p c,WO P ops Q rest ((setOwn σ k (.slice e sz (.slice p m c) m news)).put o.dst (.val (.slice p m c)))):WO P ops Q (o::rest) σ:=
 WO.one hds hg fun ρ a w hs=>by
  rw[nth_eq] at hk
  obtain⟨hu,i,z,hi,hz,hsz,hby,hzs,hpos,hzl⟩:=elemK_spec he
  obtain⟨ad,c,hden,hat⟩:=hnews ρ w hs.base
  have hown:=hs.base.own k _ hk ρ (Agree.refl _ _)
  simp only[Own.holds] at hown
  have hrow:w.ownsRow 0 e sz (.slice (some ⟨ρ k,0,none⟩) 0 0) 0 []:=⟨by simp,.inr ⟨ρ k,0,_,rfl,Nat.zero_le _,hown,Nat.le_refl _,Nat.zero_le _,by simp[denL],by simp⟩⟩
  obtain⟨p,c',w',hrun,hown',hgr,hblk⟩:=run_append (P:=P) w t o.type e i z sz hu hi hz hsz hzs _ 0 [] hrow ad m c news hl hat h1 (by omega) (by rw[hby,Nat.zero_add];exact h47)
  simp only[Nat.zero_add,List.nil_append] at hrun hown' hblk
  refine⟨ρ,_,.slice p m c',w',.inl ?_,Sat.put (hs.turn (o':=.slice e sz (.slice p m c') m news) hk (fun _ _ h=>by cases h) hgr hown' (fun b hb=>hblk b hb)) _ _ _ ?_ (fun _ _=>rfl),h p c'⟩
  ·
   unfold execOp
   rw[hop]
   simp only[Sem.run_bind,resolve,List.map_toArray,List.map_cons,List.map_nil,Sem.run_pure,Result.andThen_ok,invoke,builtin]
   rw[hs.ev hx ρ (Agree.refl _ _),hs.ev hy ρ (Agree.refl _ _),hden]
   simp only[den]
   refine Eq.trans (congrArg (fun r:Result Value=>r.andThen fun a w'=>Result.ok (Next.value a) w') hrun) rfl
  · intro j hj;exact dOk_lt (σ:=setOwn σ k _) (by rw[dOk_setOwn];exact hd) j hj
end
theorem belowD_grow {w w':World} (hd:Drw.on) (h:BelowD w.heap.size w w'):∃ q os',w'=Sort.grow (w.drewN q) os':=by
 refine⟨w'.drawn - w.drawn,w'.heap.extract w.heap.size w'.heap.size,?_⟩
 obtain⟨heap,tape,drawn,os,output⟩:=w
 obtain⟨heap',tape',drawn',os',output'⟩:=w'
 obtain⟨h1,h2,h3,h4,h5,h6⟩:=h
 have h6:=h6 hd
 simp only at h1 h2 h3 h4 h5 h6
 subst h1;subst h2;subst h3
 simp only[Sort.grow,World.drewN]
 congr 1
 ·
  apply Array.ext_getElem?
  intro i
  rw[Array.getElem?_append]
  split
  · rename_i hlt;exact h5 i hlt
  ·
   rename_i hge
   rw[Array.getElem?_extract]
   split
   · rw[show heap.size+(i - heap.size)=i by omega]
   · rw[Array.getElem?_eq_none (by omega)]
 · omega
variable {α:Type} {f:α→List Value} {k:Nat}
theorem flatK_list [Inhabited α] (hk:∀ x,(f x).length=k) (xs:List α):(Sort.flatK f k xs.toArray).toList=rowV f xs:=by
 symm
 refine(flat_eq hk xs _ ?_ fun i y hy=>?_).symm
 · rw[Array.length_toList,Sort.size_flatK];simp
 ·
  obtain⟨hi,he⟩:=List.getElem?_eq_some_iff.1 hy
  apply List.ext_getElem?
  intro c
  rw[List.getElem?_take]
  split
  ·
   rename_i hc
   rw[List.getElem?_drop]
   have hlt:i*k+c<xs.length*k:=by
    have:=Nat.mul_le_mul_right k (show i+1≤xs.length from hi);rw[Nat.add_mul,Nat.one_mul] at this;omega
   have h9:=Sort.get_flatK f k xs.toArray (i*k+c) (by simpa using hlt)
   have e1:(i*k+c) / k=i:=(Sort.blk_iff k i _ (by omega)).1 ⟨by omega,by omega⟩
   have e2:(i*k+c) % k=c:=by rw[Nat.mod_eq_sub_div_mul,e1];omega
   rw[e1,e2] at h9
   have hs:i*k+c<(Sort.flatK f k xs.toArray).size:=by rw[Sort.size_flatK];simpa using hlt
   rw[getElem!_pos (Sort.flatK f k xs.toArray) _ hs] at h9
   rw[Array.getElem?_toList,Array.getElem?_eq_getElem hs,h9]
   have hx:xs.toArray[i]! = y:=by rw[getElem!_pos xs.toArray i (by simpa using hi)];simpa using he
   rw[hx,List.getElem?_eq_getElem (by rw[hk];exact hc)]
   rw[getElem!_pos (f y) c (by rw[hk];exact hc)]
  ·
   rename_i hc
   rw[List.getElem?_eq_none (by rw[hk];omega)]
def OWR (T:Nat) (f:α→List Value) (k:Nat) (q:Option Addr) (c:Nat) (xs:List α):Go.SX.Own:=.slice T k (.slice q xs.length c) xs.length (rowV f xs)
theorem sortB [Inhabited α] {P:Program} {T ff g:Nat} {cb:Array Value} {cf:α→α→Int} (hk:∀ x,(f x).length=k) {w:World} {xs:List α} {g0 c:Nat} (hlie:Lie [OWR T f k (some ⟨g0,0,none⟩) c xs] w)
  (hlay:∀ w',@Keep ⟨True⟩ (fun b=>¬ ofOwn [OWR T f k (some ⟨g0,0,none⟩) c xs] b) w w'→∀ x y:α,@Gives ⟨True⟩ P g (#[.agg (f x).toArray,.agg (f y).toArray]++cb) w' fun r _=>r=.int .i64 (cf x y))
  (hcon:(∀ (m:Nat) (os:Array Obj) (dk:Array α),dk.size=xs.length→∀ x y:α,Calls P g (#[.agg (f x).toArray,.agg (f y).toArray]++cb) (sortWorldK f k w g0 0 m dk os) fun e w'=>e=.returned (.int .i64 (cf x y))∧∃ q os',w'=Sort.grow ((sortWorldK f k w g0 0 m dk os).drewN q) os') →
   Sort.HoldsK f k w g0 0 xs.toArray→g0<w.heap.size→Calls P ff #[.slice (some ⟨g0,0,none⟩) xs.length c,.func (.func g) #[] cb] w fun e w'=>
   e=.returned (.tuple #[])∧∃ d' n os,Sort.PermIn 0 xs.length xs.toArray d'∧Sort.SortedIn (fun a b=>decide (cf a b<0)) 0 xs.length d'∧w'=sortWorldK f k w g0 0 n d' os) :
  GivesB P ff #[.slice (some ⟨g0,0,none⟩) xs.length c,.func (.func g) #[] cb] w (ofOwn [OWR T f k (some ⟨g0,0,none⟩) c xs]) fun r w'=>∃ ys:List α,r=.tuple #[]∧ys.Perm xs∧ys.Pairwise (fun a b=>¬ cf b a<0)∧TurnL [OWR T f k (some ⟨g0,0,none⟩) c xs] [OWR T f k (some ⟨g0,0,none⟩) c ys] w w':=by
 have h0:=hlie.here 0 _ rfl
 simp only[OWR,Go.SX.Own.holds] at h0
 obtain⟨hrl,⟨hq,_⟩ | ⟨g1,cap,cur,hv,_,hg,hnc,hcm,hcs,htk⟩⟩:=h0
 · cases hq
 simp only[Value.slice.injEq,Option.some.injEq,Addr.mk.injEq] at hv
 obtain⟨⟨rfl,_⟩,_,rfl⟩:=hv
 have hlt:g0<w.heap.size:=(Array.getElem?_eq_some_iff.1 hg).1
 have hof:∀ b,ofOwn [OWR T f k (some ⟨g0,0,none⟩) c xs] b↔b=g0:=fun b=>by
  constructor
  ·
   rintro⟨i,o,h1,h2⟩
   cases i with
   | zero=>simp only[List.getElem?_cons_zero,Option.some.injEq] at h1;subst h1;simp[OWR,Go.SX.Own.num,Value.ownBlock] at h2;exact h2.symm
   | succ i=>simp at h1
  · rintro rfl;exact⟨0,_,rfl,rfl⟩
 have hworld:∀ (m:Nat) (dk:Array α) (os:Array Obj),dk.size=xs.length→(∀ inst:Drw,@Keep inst (fun b=>¬ ofOwn [OWR T f k (some ⟨g0,0,none⟩) c xs] b) w (sortWorldK f k w g0 0 m dk os)) ∧
   (sortWorldK f k w g0 0 m dk os).heap[g0]?=some (.cells (Sort.putCells id 0 (Sort.flatK f k dk) cur) T (0,0)):=fun m dk os hs=>by
  unfold sortWorldK Sort.putRowK Sort.putRow Sort.grow Sort.mapBlock Sort.ahead
  refine⟨fun inst=>⟨rfl,rfl,rfl,by simp,fun b hb hlt'=>?_,fun _=>Nat.le_add_right _ _⟩,?_⟩
  ·
   have hbg:g0≠b:=fun h=>hb ((hof b).2 h.symm)
   rw[Array.getElem?_append_left (by simpa using hlt'),Array.getElem?_modify,if_neg hbg]
  ·
   simp only
   rw[Array.getElem?_append_left (by simpa using hlt),Array.getElem?_modify,if_pos rfl,hg]
   rfl
 have hput:∀ (dk:Array α),dk.size=xs.length→(Sort.putCells id 0 (Sort.flatK f k dk) cur).size=c*k∧(Sort.putCells id 0 (Sort.flatK f k dk) cur).toList.take (xs.length*k)=rowV f dk.toList:=fun dk hs=>by
  refine⟨by simp[Sort.putCells,hcs],?_⟩
  have hfl:=flatK_list hk dk.toList
  rw[← hfl]
  have hle:xs.length*k≤cur.size:=by rw[hcs];exact Nat.mul_le_mul_right k hnc
  apply List.ext_getElem?
  intro i
  rw[List.getElem?_take]
  split
  ·
   rename_i hi
   have hi2:i<(Sort.flatK f k dk).size:=by rw[Sort.size_flatK,hs];exact hi
   simp only[Sort.putCells,Array.getElem?_toList,Array.getElem?_mapIdx,Array.getElem?_eq_getElem (show i<cur.size by omega),Option.map_some,Nat.zero_le,Nat.zero_add,true_and,hi2,if_true,Nat.sub_zero,id]
   rw[getElem!_pos (Sort.flatK f k dk) i hi2,Array.getElem?_eq_getElem (by simpa using hi2)]
  ·
   rename_i hi
   rw[List.getElem?_eq_none]
   rw[Array.length_toList,Sort.size_flatK];simp[hs];omega
 have hholds:Sort.HoldsK f k w g0 0 xs.toArray:=fun j hj=>by
  have hfl:=flatK_list hk xs
  have hj2:j<xs.length*k:=by rw[Sort.size_flatK] at hj;simpa using hj
  have hle:xs.length*k≤cur.size:=by rw[hcs];exact Nat.mul_le_mul_right k hnc
  refine⟨?_,?_⟩
  ·
   unfold World.cell?
   simp only[hg,Nat.zero_add]
   have h1:cur.toList[j]?=(rowV f xs)[j]?:=by rw[← htk,List.getElem?_take,if_pos hj2]
   rw[Array.getElem?_toList,← hfl,Array.getElem?_toList,Array.getElem?_eq_getElem hj] at h1
   rw[getElem!_pos (Sort.flatK f k xs.toArray) j hj]
   simpa using h1
  ·
   unfold World.frozen?
   simp[hg]
 refine Calls.mono (hcon (fun m os dk hs x y=>?_) hholds hlt) fun e w' ⟨he,d',n,os,hp,hsrt,hw⟩=>?_
 · refine Calls.mono (hlay _ ((hworld m dk os hs).1 ⟨True⟩) x y) fun e w' ⟨v,he,hb,hv⟩=>⟨by rw[he,hv],@belowD_grow ⟨True⟩ _ _ trivial hb⟩
 ·
  have hd:d'.size=xs.length:=by simpa using hp.1
  have hperm:d'.toList.Perm xs:=by
   have h1:=hp.2.2
   rw[← hd] at h1
   rw[Array.extract_size] at h1
   have h2:xs.toArray.extract 0 d'.size=xs.toArray:=by rw[hd];simp
   rw[h2] at h1
   simpa using h1
  have hlen:=hperm.length_eq
  subst hw
  obtain⟨h1,h2⟩:=hworld n d' os hd
  obtain⟨h3,h4⟩:=hput d' hd
  refine⟨_,he,h1 _,d'.toList,rfl,hperm,?_,⟨⟨fun i o ho=>?_,fun i j oi oj b hi hj _ _=>?_⟩,fun i o b ho hn=>?_⟩⟩
  ·
   rw[List.pairwise_iff_getElem]
   intro i j hi hj hij
   have h5:=hsrt i j (Nat.zero_le _) hij (by rw[← hlen];exact hj)
   have hi':i<d'.size:=by simpa using hi
   have hj':j<d'.size:=by simpa using hj
   rw[getElem!_pos d' i hi',getElem!_pos d' j hj'] at h5
   simpa using h5
  ·
   cases i with
   |
    zero=>
    simp only[List.getElem?_cons_zero,Option.some.injEq] at ho
    subst ho
    simp only[OWR,Go.SX.Own.holds]
    rw[hlen]
    exact⟨by rw[row_len hk,hlen],.inr ⟨g0,c,_,rfl,Nat.zero_le _,h2,hnc,hcm,h3,h4⟩⟩
   | succ i=>simp at ho
  · cases i<;>cases j<;>simp at hi hj ⊢
  ·
   cases i with
   |
    zero=>
    simp only[List.getElem?_cons_zero,Option.some.injEq] at ho
    subst ho
    simp[OWR,Go.SX.Own.num,Value.ownBlock] at hn
    exact .inl ((hof b).2 hn.symm)
   | succ i=>simp at ho
end Go.Proofs.YtolmeekbjonbcaaGreatDoor
namespace Go.Proofs.YtolmeekbjonbcaaGreatDoor
open Go Go.SX Go.RowKit
variable [Drw]
open Int renaming reduceEq → E, reduceLT → F, reduceBEq → G, reduceBNe → H, reduceNeg → Z1, reduceGT → Z2, reduceLE → Z3, reduceGE → Z4, reduceMul → Z5, reduceMod → Z6, reduceAdd → Z7, reduceTMod → Z8, reduceTDiv → Z9
open Nat renaming reduceAdd → J, reduceSub → M, reduceMul → R, reduceLT → Tz, reduceLeDiff → V, reduceEqDiff → X
open List renaming reduceReplicate → Y
theorem flat_some {α:Type} {f:α→List Value} {k:Nat} {h:∀ x,(f x).length=k} {S:Nat→Prop} {w:World} {a:Addr} {n c:Nat} {xs:List α} (hr:(Rp.slice (flatR k f h)).rd S w [.slice (some a) n c] xs):At w a (rowV f xs):=by
 rcases Nat.eq_zero_or_pos n with h0 | h0
 ·
  have hx:xs=[]:=by
   obtain⟨p9,c9,hv,_⟩:=Rp.slice_val hr
   simp only[Value.slice.injEq] at hv
   exact List.eq_nil_of_length_eq_zero (by omega)
  subst hx
  exact fun j v hj=>by simp[rowV] at hj
 ·
  obtain⟨a9,h1,_,_,_,h2⟩:=flat_cells hr h0
  obtain rfl:=Option.some.inj h1
  exact h2
theorem flat_none {α:Type} {f:α→List Value} {k:Nat} {h:∀ x,(f x).length=k} {S:Nat→Prop} {w:World} {n c:Nat} {xs:List α} (hr:(Rp.slice (flatR k f h)).rd S w [.slice none n c] xs):xs=[]:=by
 rcases Nat.eq_zero_or_pos n with h0 | h0
 ·
  obtain⟨p9,c9,hv,_⟩:=Rp.slice_val hr
  simp only[Value.slice.injEq] at hv
  exact List.eq_nil_of_length_eq_zero (by omega)
 ·
  obtain⟨a9,h1,_⟩:=flat_cells hr h0
  cases h1
theorem bclone_spec {S:Nat→Prop} {w:World} {p:Option Addr} {c:Nat} {xs:List _} (hl:rBrs.rd S w [.slice p xs.length c] xs) (hle:xs.length≤20000):Gives Tryz.prog 73 #[.slice p xs.length c] w fun r w'=>∃ x:Option Addr×Nat,r=.slice x.1 xs.length x.2∧(∀ ρ' k,(OWR 75 brV 4 x.1 x.2 xs).holds ρ' k w')∧∀ ρ' k b,(OWR 75 brV 4 x.1 x.2 xs).num ρ' k=some b→w.heap.size≤b:=by
 have hl:(Rp.slice rBr).rd (fun _=>True) w _ xs:=Rp.any hl
 refine gives_of [.val (.slice p xs.length c)] 8 [.tmp 2] Tryz.func73 rfl rfl rfl (by simp) rfl rfl ?_
 refine W.pure dn fun K1 k1=>?_
 simp only[E,F,J,M,R,Tz,V,X,Y,reduceIte,G,H,sz];refine k1 _ ?_
 refine W.seqK fun K2 k2=>?_
 refine W.seqK fun K3 k3=>W.region ?_
 refine WO.go 1 dn ?_
 simp only[E,F,J,M,R,Tz,V,X,Y,reduceIte,G,H,sz]
 refine WO.q dn rfl rfl (QR.sliceNil rfl rfl Tryz.underlying22) ?_
 simp only[Option.isNone_some]
 simp only[E,F,J,M,R,Tz,V,X,Y,reduceIte,G,H,sz]
 refine WO.nil ?_
 refine k3 _ ?_
 refine W.cond rfl rfl (fun hc=>?_) fun hc=>?_
 ·
  have hp:p=none:=by simpa using hc
  subst hp
  have hx:=flat_none hl
  subst hx
  refine W.pure dn fun K4 k4=>?_
  simp only[E,F,J,M,R,Tz,V,X,Y,reduceIte,G,H,sz];refine k4 _ ?_
  refine W.ret ⟨by simp,_,rfl,fun ρ w1 hb=>?_⟩
  exact⟨(none,0),rfl,fun ρ' k=>World.ownsRow_nil _ _ _ _,fun ρ' k b h=>by simp[OWR,Go.SX.Own.num,Value.ownBlock] at h⟩
 ·
  have hp:∃ a,p=some a:=by cases p with
                                | none=>simp at hc
                                | some a=>exact⟨a,rfl⟩
  obtain⟨a,rfl⟩:=hp
  refine W.skip (k2 _ ?_)
  refine W.seqK fun K5 k5=>W.region ?_
  refine WO.go 2 dn ?_
  simp only[E,F,J,M,R,Tz,V,X,Y,reduceIte,G,H,sz]
  refine WO.appendLit (k:=0) (m:=xs.length) (rowV brV xs) dn rfl rfl rfl rfl rfl rfl ek22 (fun ρ w1 hb=>⟨a,c,rfl,flat_some (Rp.now hl (hb.first (by simp[St.put])))⟩) (row_len (f:=brV) (k:=4) (fun _=>rfl) xs) (row_one (fun x u hu=>by simp only[brV,List.mem_cons,List.not_mem_nil,or_false] at hu;rcases hu with rfl | rfl | rfl | rfl<;>rfl) xs) (by rw[maxLen_eq];omega) (by omega) fun p6 c6=>?_
  refine WO.go 1 dn ?_
  simp only[E,F,J,M,R,Tz,V,X,Y,reduceIte,G,H,sz]
  refine WO.nil ?_
  refine k5 _ ?_
  refine W.ret ⟨by simp,_,rfl,fun ρ w1 hb=>?_⟩
  refine⟨(p6,c6),rfl,fun ρ' k=>?_,fun ρ' k b' h=>?_⟩
  · exact freeO_holds rfl (hb.own 0 _ rfl ρ (Agree.refl _ _))
  · exact own_new (k:=0) (o:=OWR 75 brV 4 p6 c6 xs) hb (by simp) rfl h
theorem pclone_spec {S:Nat→Prop} {w:World} {p:Option Addr} {c:Nat} {xs:List _} (hl:rPts.rd S w [.slice p xs.length c] xs) (hle:xs.length≤20000):Gives Tryz.prog 74 #[.slice p xs.length c] w fun r w'=>∃ x:Option Addr×Nat,r=.slice x.1 xs.length x.2∧(∀ ρ' k,(OWR 50 ptV 13 x.1 x.2 xs).holds ρ' k w')∧∀ ρ' k b,(OWR 50 ptV 13 x.1 x.2 xs).num ρ' k=some b→w.heap.size≤b:=by
 have hl:(Rp.slice rPt).rd (fun _=>True) w _ xs:=Rp.any hl
 refine gives_of [.val (.slice p xs.length c)] 8 [.tmp 2] Tryz.func74 rfl rfl rfl (by simp) rfl rfl ?_
 refine W.pure dn fun K1 k1=>?_
 simp only[E,F,J,M,R,Tz,V,X,Y,reduceIte,G,H,sz];refine k1 _ ?_
 refine W.seqK fun K2 k2=>?_
 refine W.seqK fun K3 k3=>W.region ?_
 refine WO.go 1 dn ?_
 simp only[E,F,J,M,R,Tz,V,X,Y,reduceIte,G,H,sz]
 refine WO.q dn rfl rfl (QR.sliceNil rfl rfl Tryz.underlying23) ?_
 simp only[Option.isNone_some]
 simp only[E,F,J,M,R,Tz,V,X,Y,reduceIte,G,H,sz]
 refine WO.nil ?_
 refine k3 _ ?_
 refine W.cond rfl rfl (fun hc=>?_) fun hc=>?_
 ·
  have hp:p=none:=by simpa using hc
  subst hp
  have hx:=flat_none hl
  subst hx
  refine W.pure dn fun K4 k4=>?_
  simp only[E,F,J,M,R,Tz,V,X,Y,reduceIte,G,H,sz];refine k4 _ ?_
  refine W.ret ⟨by simp,_,rfl,fun ρ w1 hb=>?_⟩
  exact⟨(none,0),rfl,fun ρ' k=>World.ownsRow_nil _ _ _ _,fun ρ' k b h=>by simp[OWR,Go.SX.Own.num,Value.ownBlock] at h⟩
 ·
  have hp:∃ a,p=some a:=by cases p with
                                | none=>simp at hc
                                | some a=>exact⟨a,rfl⟩
  obtain⟨a,rfl⟩:=hp
  refine W.skip (k2 _ ?_)
  refine W.seqK fun K5 k5=>W.region ?_
  refine WO.go 2 dn ?_
  simp only[E,F,J,M,R,Tz,V,X,Y,reduceIte,G,H,sz]
  refine WO.appendLit (k:=0) (m:=xs.length) (rowV ptV xs) dn rfl rfl rfl rfl rfl rfl ek23 (fun ρ w1 hb=>⟨a,c,rfl,flat_some (Rp.now hl (hb.first (by simp[St.put])))⟩) (row_len (f:=ptV) (k:=13) (fun _=>rfl) xs) (row_one (fun x u hu=>by simp only[ptV,List.mem_cons,List.not_mem_nil,or_false] at hu;rcases hu with rfl | rfl | rfl | rfl | rfl | rfl | rfl | rfl | rfl | rfl | rfl | rfl | rfl<;>rfl) xs) (by rw[maxLen_eq];omega) (by omega) fun p6 c6=>?_
  refine WO.go 1 dn ?_
  simp only[E,F,J,M,R,Tz,V,X,Y,reduceIte,G,H,sz]
  refine WO.nil ?_
  refine k5 _ ?_
  refine W.ret ⟨by simp,_,rfl,fun ρ w1 hb=>?_⟩
  refine⟨(p6,c6),rfl,fun ρ' k=>?_,fun ρ' k b' h=>?_⟩
  · exact freeO_holds rfl (hb.own 0 _ rfl ρ (Agree.refl _ _))
  · exact own_new (k:=0) (o:=OWR 50 ptV 13 p6 c6 xs) hb (by simp) rfl h
theorem nclone_spec {S:Nat→Prop} {w:World} {p:Option Addr} {c:Nat} {xs:List _} (hl:rNts.rd S w [.slice p xs.length c] xs) (hle:xs.length≤20000):Gives Tryz.prog 84 #[.slice p xs.length c] w fun r w'=>∃ x:Option Addr×Nat,r=.slice x.1 xs.length x.2∧(∀ ρ' k,(OWR 89 ntV 12 x.1 x.2 xs).holds ρ' k w')∧∀ ρ' k b,(OWR 89 ntV 12 x.1 x.2 xs).num ρ' k=some b→w.heap.size≤b:=by
 have hl:(Rp.slice rNt).rd (fun _=>True) w _ xs:=Rp.any hl
 refine gives_of [.val (.slice p xs.length c)] 8 [.tmp 2] Tryz.func84 rfl rfl rfl (by simp) rfl rfl ?_
 refine W.pure dn fun K1 k1=>?_
 simp only[E,F,J,M,R,Tz,V,X,Y,reduceIte,G,H,sz];refine k1 _ ?_
 refine W.seqK fun K2 k2=>?_
 refine W.seqK fun K3 k3=>W.region ?_
 refine WO.go 1 dn ?_
 simp only[E,F,J,M,R,Tz,V,X,Y,reduceIte,G,H,sz]
 refine WO.q dn rfl rfl (QR.sliceNil rfl rfl Tryz.underlying24) ?_
 simp only[Option.isNone_some]
 simp only[E,F,J,M,R,Tz,V,X,Y,reduceIte,G,H,sz]
 refine WO.nil ?_
 refine k3 _ ?_
 refine W.cond rfl rfl (fun hc=>?_) fun hc=>?_
 ·
  have hp:p=none:=by simpa using hc
  subst hp
  have hx:=flat_none hl
  subst hx
  refine W.pure dn fun K4 k4=>?_
  simp only[E,F,J,M,R,Tz,V,X,Y,reduceIte,G,H,sz];refine k4 _ ?_
  refine W.ret ⟨by simp,_,rfl,fun ρ w1 hb=>?_⟩
  exact⟨(none,0),rfl,fun ρ' k=>World.ownsRow_nil _ _ _ _,fun ρ' k b h=>by simp[OWR,Go.SX.Own.num,Value.ownBlock] at h⟩
 ·
  have hp:∃ a,p=some a:=by cases p with
                                | none=>simp at hc
                                | some a=>exact⟨a,rfl⟩
  obtain⟨a,rfl⟩:=hp
  refine W.skip (k2 _ ?_)
  refine W.seqK fun K5 k5=>W.region ?_
  refine WO.go 2 dn ?_
  simp only[E,F,J,M,R,Tz,V,X,Y,reduceIte,G,H,sz]
  refine WO.appendLit (k:=0) (m:=xs.length) (rowV ntV xs) dn rfl rfl rfl rfl rfl rfl ek24 (fun ρ w1 hb=>⟨a,c,rfl,flat_some (Rp.now hl (hb.first (by simp[St.put])))⟩) (row_len (f:=ntV) (k:=12) (fun _=>rfl) xs) (row_one (fun x u hu=>by simp only[ntV,List.mem_cons,List.not_mem_nil,or_false] at hu;rcases hu with rfl | rfl | rfl | rfl | rfl | rfl | rfl | rfl | rfl | rfl | rfl | rfl<;>rfl) xs) (by rw[maxLen_eq];omega) (by omega) fun p6 c6=>?_
  refine WO.go 1 dn ?_
  simp only[E,F,J,M,R,Tz,V,X,Y,reduceIte,G,H,sz]
  refine WO.nil ?_
  refine k5 _ ?_
  refine W.ret ⟨by simp,_,rfl,fun ρ w1 hb=>?_⟩
  refine⟨(p6,c6),rfl,fun ρ' k=>?_,fun ρ' k b' h=>?_⟩
  · exact freeO_holds rfl (hb.own 0 _ rfl ρ (Agree.refl _ _))
  · exact own_new (k:=0) (o:=OWR 89 ntV 12 p6 c6 xs) hb (by simp) rfl h
end Go.Proofs.YtolmeekbjonbcaaGreatDoor
namespace Go.Proofs.YtolmeekbjonbcaaGreatDoor
open Go.Proofs
open Go.Shelf
def Tryz.sortNt_ren:Go.Shelf.Ren:=⟨fun | 6=>175 | 15=>133 | 14=>207 | 28=>186 | 29=>187 | 20=>227 | 21=>228 | 22=>229 | 23=>230 | 24=>231 | 25=>232 | 26=>233 | 27=>234 | 46=>238 | 47=>209 | 48=>210 | 49=>239 | 50=>240 | 57=>241 | n=>n,fun | 22=>24 | 24=>89 | 25=>242 | 3=>3 | 39=>213 | 0=>0 | 53=>251 | 55=>183 | 4=>4 | 46=>245 | 45=>244 | 50=>165 | 5=>5 | 9=>9 | 66=>270 | 70=>274 | 76=>286 | 77=>276 | n=>n,fun | n=>n⟩
theorem Tryz.sortNt:Go.Proofs.SlLaysF0.n6 Tryz.prog Tryz.sortNt_ren:={
 mixed:=by kernel_rfl
 f6:=⟨Tryz.f175.name,by decide,Tryz.func175.trans (congrArg some (by kernel_rfl))⟩
 f14:=⟨Tryz.f207.name,by decide,Tryz.func207.trans (congrArg some (by kernel_rfl))⟩
 f15:=Tryz.func133.trans (congrArg some (by kernel_rfl))
 f20:=⟨Tryz.f227.name,by decide,Tryz.func227.trans (congrArg some (by kernel_rfl))⟩
 f21:=⟨Tryz.f228.name,by decide,Tryz.func228.trans (congrArg some (by kernel_rfl))⟩
 f22:=⟨Tryz.f229.name,by decide,Tryz.func229.trans (congrArg some (by kernel_rfl))⟩
 f23:=⟨Tryz.f230.name,by decide,Tryz.func230.trans (congrArg some (by kernel_rfl))⟩
 f24:=⟨Tryz.f231.name,by decide,Tryz.func231.trans (congrArg some (by kernel_rfl))⟩
 f25:=⟨Tryz.f232.name,by decide,Tryz.func232.trans (congrArg some (by kernel_rfl))⟩
 f26:=⟨Tryz.f233.name,by decide,Tryz.func233.trans (congrArg some (by kernel_rfl))⟩
 f27:=⟨Tryz.f234.name,by decide,Tryz.func234.trans (congrArg some (by kernel_rfl))⟩
 f28:=Tryz.func186.trans (congrArg some (by kernel_rfl))
 f29:=Tryz.func187.trans (congrArg some (by kernel_rfl))
 f46:=⟨Tryz.f238.name,by decide,Tryz.func238.trans (congrArg some (by kernel_rfl))⟩
 f47:=Tryz.func209.trans (congrArg some (by kernel_rfl))
 f48:=Tryz.func210.trans (congrArg some (by kernel_rfl))
 f49:=⟨Tryz.f239.name,by decide,Tryz.func239.trans (congrArg some (by kernel_rfl))⟩
 f50:=⟨Tryz.f240.name,by decide,Tryz.func240.trans (congrArg some (by kernel_rfl))⟩
 f57:=⟨Tryz.f241.name,by decide,Tryz.func241.trans (congrArg some (by kernel_rfl))⟩
 t0:=Tryz.underlying0
 a0:=Tryz.isAgg0
 z0:=Tryz.sizeOf0
 v0:=Tryz.zeroValue0
 t3:=Tryz.underlying3
 a3:=Tryz.isAgg3
 z3:=Tryz.sizeOf3
 v3:=Tryz.zeroValue3
 t4:=Tryz.underlying4
 a4:=Tryz.isAgg4
 z4:=Tryz.sizeOf4
 v4:=Tryz.zeroValue4
 t5:=Tryz.underlying5
 a5:=Tryz.isAgg5
 z5:=Tryz.sizeOf5
 v5:=Tryz.zeroValue5
 t9:=Tryz.underlying9
 a9:=Tryz.isAgg9
 z9:=Tryz.sizeOf9
 v9:=Tryz.zeroValue9
 t22:=Tryz.underlying24
 a22:=Tryz.isAgg24
 z22:=Tryz.sizeOf24
 v22:=Tryz.zeroValue24
 t25:=Tryz.underlying242
 a25:=Tryz.isAgg242
 z25:=Tryz.sizeOf242
 v25:=Tryz.zeroValue242
 t39:=Tryz.underlying213
 a39:=Tryz.isAgg213
 z39:=Tryz.sizeOf213
 v39:=Tryz.zeroValue213
 t45:=Tryz.underlying244
 a45:=Tryz.isAgg244
 z45:=Tryz.sizeOf244
 v45:=Tryz.zeroValue244
 t46:=Tryz.underlying245
 a46:=Tryz.isAgg245
 z46:=Tryz.sizeOf245
 v46:=Tryz.zeroValue245
 t50:=Tryz.underlying165
 a50:=Tryz.isAgg165
 z50:=Tryz.sizeOf165
 v50:=Tryz.zeroValue165
 t53:=Tryz.underlying251
 a53:=Tryz.isAgg251
 z53:=Tryz.sizeOf251
 v53:=Tryz.zeroValue251
 t55:=Tryz.underlying183
 a55:=Tryz.isAgg183
 z55:=Tryz.sizeOf183
 v55:=Tryz.zeroValue183
 t66:=Tryz.underlying270
 a66:=Tryz.isAgg270
 z66:=Tryz.sizeOf270
 v66:=Tryz.zeroValue270
 t70:=Tryz.underlying274
 a70:=Tryz.isAgg274
 z70:=Tryz.sizeOf274
 v70:=Tryz.zeroValue274
 t76:=Tryz.underlying286
 a76:=Tryz.isAgg286
 z76:=Tryz.sizeOf286
 v76:=Tryz.zeroValue286
 t77:=Tryz.underlying276
 a77:=Tryz.isAgg276
 z77:=Tryz.sizeOf276
 v77:=Tryz.zeroValue276 }
def Tryz.keysNt_ren:Go.Shelf.Ren:=⟨fun | 7=>33 | 10=>77 | n=>n,fun | 23=>92 | 26=>3 | 3=>89 | 28=>97 | 0=>0 | 27=>96 | 33=>155 | 4=>4 | n=>n,fun | n=>n⟩
theorem Tryz.keysNt:Go.Proofs.SlLaysZI.n7 Tryz.prog Tryz.keysNt_ren:={
 mixed:=by kernel_rfl
 f7:=⟨Tryz.f33.name,by decide,Tryz.func33.trans (congrArg some (by kernel_rfl))⟩
 f10:=⟨Tryz.f77.name,by decide,Tryz.func77.trans (congrArg some (by kernel_rfl))⟩
 t0:=Tryz.underlying0
 a0:=Tryz.isAgg0
 z0:=Tryz.sizeOf0
 v0:=Tryz.zeroValue0
 t4:=Tryz.underlying4
 a4:=Tryz.isAgg4
 z4:=Tryz.sizeOf4
 v4:=Tryz.zeroValue4
 t23:=Tryz.underlying92
 a23:=Tryz.isAgg92
 z23:=Tryz.sizeOf92
 v23:=Tryz.zeroValue92
 t26:=Tryz.underlying3
 a26:=Tryz.isAgg3
 z26:=Tryz.sizeOf3
 v26:=Tryz.zeroValue3
 t27:=Tryz.underlying96
 a27:=Tryz.isAgg96
 z27:=Tryz.sizeOf96
 v27:=Tryz.zeroValue96
 t28:=Tryz.underlying97
 a28:=Tryz.isAgg97
 z28:=Tryz.sizeOf97
 v28:=Tryz.zeroValue97
 t33:=Tryz.underlying155
 a33:=Tryz.isAgg155
 z33:=Tryz.sizeOf155
 v33:=Tryz.zeroValue155 }
def Tryz.sortedI_ren:Go.Shelf.Ren:=⟨fun | 6=>32 | 8=>75 | 9=>76 | 11=>131 | 13=>133 | 12=>132 | 23=>186 | 24=>187 | 14=>177 | 15=>178 | 16=>179 | 17=>180 | 18=>181 | 19=>182 | 20=>183 | 21=>184 | 22=>185 | 25=>208 | 26=>209 | 27=>210 | 28=>211 | 29=>212 | 30=>166 | 31=>235 | n=>n,fun | 26=>3 | 28=>97 | 24=>94 | 0=>0 | 3=>3 | 37=>213 | 48=>251 | 50=>183 | 4=>4 | 40=>245 | 39=>244 | 45=>165 | 5=>5 | 9=>9 | 51=>270 | 55=>274 | 57=>286 | 58=>276 | 33=>155 | n=>n,fun | n=>n⟩
theorem Tryz.sortedI:Go.Proofs.SlLaysZI.n6 Tryz.prog Tryz.sortedI_ren:={
 mixed:=by kernel_rfl
 f6:=⟨Tryz.f32.name,by decide,Tryz.func32.trans (congrArg some (by kernel_rfl))⟩
 f8:=⟨Tryz.f75.name,by decide,Tryz.func75.trans (congrArg some (by kernel_rfl))⟩
 f11:=⟨Tryz.f131.name,by decide,Tryz.func131.trans (congrArg some (by kernel_rfl))⟩
 t0:=Tryz.underlying0
 a0:=Tryz.isAgg0
 z0:=Tryz.sizeOf0
 v0:=Tryz.zeroValue0
 t24:=Tryz.underlying94
 a24:=Tryz.isAgg94
 z24:=Tryz.sizeOf94
 v24:=Tryz.zeroValue94
 t26:=Tryz.underlying3
 a26:=Tryz.isAgg3
 z26:=Tryz.sizeOf3
 v26:=Tryz.zeroValue3
 t28:=Tryz.underlying97
 a28:=Tryz.isAgg97
 z28:=Tryz.sizeOf97
 v28:=Tryz.zeroValue97
 i26:=by kernel_rfl }
def Tryz.sortI_ren:Go.Shelf.Ren:=⟨fun | 5=>76 | 8=>133 | 7=>132 | 19=>186 | 20=>187 | 10=>177 | 11=>178 | 12=>179 | 13=>180 | 14=>181 | 15=>182 | 16=>183 | 17=>184 | 18=>185 | 30=>208 | 31=>209 | 32=>210 | 33=>211 | 34=>212 | 35=>166 | 40=>235 | n=>n,fun | 23=>94 | 25=>3 | 3=>3 | 32=>213 | 22=>94 | 0=>0 | 44=>251 | 46=>183 | 4=>4 | 36=>245 | 35=>244 | 41=>165 | 5=>5 | 9=>9 | 53=>270 | 57=>274 | 63=>286 | 64=>276 | n=>n,fun | n=>n⟩
theorem Tryz.sortI:Go.Proofs.SlLaysM.n5 Tryz.prog Tryz.sortI_ren:={
 mixed:=by kernel_rfl
 f5:=⟨Tryz.f76.name,by decide,Tryz.func76.trans (congrArg some (by kernel_rfl))⟩
 f7:=⟨Tryz.f132.name,by decide,Tryz.func132.trans (congrArg some (by kernel_rfl))⟩
 f8:=Tryz.func133.trans (congrArg some (by kernel_rfl))
 f10:=⟨Tryz.f177.name,by decide,Tryz.func177.trans (congrArg some (by kernel_rfl))⟩
 f11:=⟨Tryz.f178.name,by decide,Tryz.func178.trans (congrArg some (by kernel_rfl))⟩
 f12:=⟨Tryz.f179.name,by decide,Tryz.func179.trans (congrArg some (by kernel_rfl))⟩
 f13:=⟨Tryz.f180.name,by decide,Tryz.func180.trans (congrArg some (by kernel_rfl))⟩
 f14:=⟨Tryz.f181.name,by decide,Tryz.func181.trans (congrArg some (by kernel_rfl))⟩
 f15:=⟨Tryz.f182.name,by decide,Tryz.func182.trans (congrArg some (by kernel_rfl))⟩
 f16:=⟨Tryz.f183.name,by decide,Tryz.func183.trans (congrArg some (by kernel_rfl))⟩
 f17:=⟨Tryz.f184.name,by decide,Tryz.func184.trans (congrArg some (by kernel_rfl))⟩
 f18:=⟨Tryz.f185.name,by decide,Tryz.func185.trans (congrArg some (by kernel_rfl))⟩
 f19:=Tryz.func186.trans (congrArg some (by kernel_rfl))
 f20:=Tryz.func187.trans (congrArg some (by kernel_rfl))
 f30:=⟨Tryz.f208.name,by decide,Tryz.func208.trans (congrArg some (by kernel_rfl))⟩
 f31:=Tryz.func209.trans (congrArg some (by kernel_rfl))
 f32:=Tryz.func210.trans (congrArg some (by kernel_rfl))
 f33:=⟨Tryz.f211.name,by decide,Tryz.func211.trans (congrArg some (by kernel_rfl))⟩
 f34:=⟨Tryz.f212.name,by decide,Tryz.func212.trans (congrArg some (by kernel_rfl))⟩
 f35:=⟨Tryz.f166.name,by decide,Tryz.func166.trans (congrArg some (by kernel_rfl))⟩
 f40:=⟨Tryz.f235.name,by decide,Tryz.func235.trans (congrArg some (by kernel_rfl))⟩
 t0:=Tryz.underlying0
 a0:=Tryz.isAgg0
 z0:=Tryz.sizeOf0
 v0:=Tryz.zeroValue0
 t3:=Tryz.underlying3
 a3:=Tryz.isAgg3
 z3:=Tryz.sizeOf3
 v3:=Tryz.zeroValue3
 t4:=Tryz.underlying4
 a4:=Tryz.isAgg4
 z4:=Tryz.sizeOf4
 v4:=Tryz.zeroValue4
 t5:=Tryz.underlying5
 a5:=Tryz.isAgg5
 z5:=Tryz.sizeOf5
 v5:=Tryz.zeroValue5
 t9:=Tryz.underlying9
 a9:=Tryz.isAgg9
 z9:=Tryz.sizeOf9
 v9:=Tryz.zeroValue9
 t22:=Tryz.underlying94
 a22:=Tryz.isAgg94
 z22:=Tryz.sizeOf94
 v22:=Tryz.zeroValue94
 t23:=Tryz.underlying94
 a23:=Tryz.isAgg94
 z23:=Tryz.sizeOf94
 v23:=Tryz.zeroValue94
 t25:=Tryz.underlying3
 a25:=Tryz.isAgg3
 z25:=Tryz.sizeOf3
 v25:=Tryz.zeroValue3
 t32:=Tryz.underlying213
 a32:=Tryz.isAgg213
 z32:=Tryz.sizeOf213
 v32:=Tryz.zeroValue213
 t35:=Tryz.underlying244
 a35:=Tryz.isAgg244
 z35:=Tryz.sizeOf244
 v35:=Tryz.zeroValue244
 t36:=Tryz.underlying245
 a36:=Tryz.isAgg245
 z36:=Tryz.sizeOf245
 v36:=Tryz.zeroValue245
 t41:=Tryz.underlying165
 a41:=Tryz.isAgg165
 z41:=Tryz.sizeOf165
 v41:=Tryz.zeroValue165
 t44:=Tryz.underlying251
 a44:=Tryz.isAgg251
 z44:=Tryz.sizeOf251
 v44:=Tryz.zeroValue251
 t46:=Tryz.underlying183
 a46:=Tryz.isAgg183
 z46:=Tryz.sizeOf183
 v46:=Tryz.zeroValue183
 t53:=Tryz.underlying270
 a53:=Tryz.isAgg270
 z53:=Tryz.sizeOf270
 v53:=Tryz.zeroValue270
 t57:=Tryz.underlying274
 a57:=Tryz.isAgg274
 z57:=Tryz.sizeOf274
 v57:=Tryz.zeroValue274
 t63:=Tryz.underlying286
 a63:=Tryz.isAgg286
 z63:=Tryz.sizeOf286
 v63:=Tryz.zeroValue286
 t64:=Tryz.underlying276
 a64:=Tryz.isAgg276
 z64:=Tryz.sizeOf276
 v64:=Tryz.zeroValue276 }
end Go.Proofs.YtolmeekbjonbcaaGreatDoor
namespace Go.Proofs.YtolmeekbjonbcaaGreatDoor
open Go Go.SX Go.RowKit
variable [Drw]
open Int renaming reduceEq → E, reduceLT → F, reduceBEq → G, reduceBNe → H, reduceNeg → Z1, reduceGT → Z2, reduceLE → Z3, reduceGE → Z4, reduceMul → Z5, reduceMod → Z6, reduceAdd → Z7, reduceTMod → Z8, reduceTDiv → Z9
open Nat renaming reduceAdd → J, reduceSub → M, reduceMul → R, reduceLT → Tz, reduceLeDiff → V, reduceEqDiff → X
open List renaming reduceReplicate → Y
abbrev NtS (bars:List Br):={n:Nt // NoteOk bars n}
theorem tick_one:tickF (1,1680)=1:=by decide
theorem note_ex {bars:List Br} (h:BarsOk bars):∃ n,NoteOk bars n:=by
 obtain⟨b,hb⟩:=List.exists_mem_of_length_pos (show 0<bars.length from h.one)
 have ht:=(h.all b hb).tick
 refine⟨⟨1,1,b.id,0,0,(0,1),(1,1680),(0,0,4)⟩,⟨show isNoteP (0,0,4)=true by decide,show within 1 1000000 1=true by decide,show within 1 1000000 1=true by decide,show within 0 9 0=true by decide,show within 0 20 0=true by decide,show okT (0,1)=true by decide,by show 0<tickF (1,1680);rw[tick_one];decide,b,hb,rfl,?_⟩⟩
 show tickF (0,1)+tickF (1,1680)≤tickF b.len
 rw[tick_one,show tickF (0,1)=0 by decide]
 omega
theorem cmp_lt (bars:List Br) (n m:Nt):decide (cmpN bars n m<0)=ltL (keyL bars n) (keyL bars m):=(lt_or (keyL bars n) (keyL bars m) rfl).symm
theorem cmp_swo (bars:List Br):Sort.SWO (ltOf fun x y:NtS bars=>cmpN bars x.1 y.1) where
 irrefl x:=by show decide _=false;rw[cmp_lt];exact ltL_irr _
 trans x y z h1 h2:=by
  change decide _=true at h1 h2
  show decide _=true
  rw[cmp_lt] at *
  exact ltL_trans _ _ _ h1 h2
 ntrans x y z h1 h2:=by
  change decide _=false at h1 h2
  show decide _=false
  rw[cmp_lt] at *
  have:=leN_trans bars z.1 y.1 x.1 (by unfold leN;rw[h2];rfl) (by unfold leN;rw[h1];rfl)
  unfold leN at this
  rwa [Bool.not_eq_true'] at this
theorem owr_map {α β:Type} {T k:Nat} {f:β→List Value} {g:α→β} {q:Option Addr} {c:Nat} (xs:List α):OWR T (fun x=>f (g x)) k q c xs=OWR T f k q c (xs.map g):=by
 unfold OWR rowV
 rw[List.length_map,List.flatMap_map]
theorem ntV_one (x:Nt):∀ u,u∈ntV x→u.oneCell'=true:=fun u hu=>by
 simp only[ntV,List.mem_cons,List.not_mem_nil,or_false] at hu
 rcases hu with rfl | rfl | rfl | rfl | rfl | rfl | rfl | rfl | rfl | rfl | rfl | rfl<;>rfl
theorem nsort_spec {w:World} (hN:GN w) {a:Addr} {r g0 c:Nat} {bars:List Br} {l:List Nt} (hbx:At w a [.map (some r)]) (hbz:a.block<w.heap.size) (hm:w.heap[r]?=some (.map (vmE (kvOf bxK bxV bars.zipIdx)) (kvOf bxK bxV bars.zipIdx).length)) (hv:BarsOk bars) (hl:∀ n,n∈l→NoteOk bars n) (hnd:(l.map Nt.id).Nodup) (hlen:l.length≤20000)
  (h1:a.block≠g0) (h2:r≠g0) (h3:0≠g0) (hlie:Lie [OWR 89 ntV 12 (some ⟨g0,0,none⟩) c l] w) :
  GivesB Tryz.prog 175 #[.slice (some ⟨g0,0,none⟩) l.length c,.func (.func 176) #[] #[.pointer (some a)]] w (ofOwn [OWR 89 ntV 12 (some ⟨g0,0,none⟩) c l]) fun v w'=>∃ x:Unit,v=.tuple #[]∧True∧TurnL [OWR 89 ntV 12 (some ⟨g0,0,none⟩) c l] [OWR 89 ntV 12 (some ⟨g0,0,none⟩) c (srt bars l)] w w':=by
 obtain⟨xs,rfl⟩:∃ xs:List (NtS bars),l=xs.map Subtype.val:=⟨l.pmap Subtype.mk hl,by simp[List.map_pmap]⟩
 haveI:Inhabited (NtS bars):=⟨⟨_,(note_ex hv).choose_spec⟩⟩
 rw[← owr_map (f:=ntV) (g:=Subtype.val)] at hlie ⊢
 rw[List.length_map] at *
 have hrz:r<w.heap.size:=(Array.getElem?_eq_some_iff.1 hm).1
 have hof:∀ b,b≠g0→¬ ofOwn [OWR 89 (fun x:NtS bars=>ntV x.1) 12 (some ⟨g0,0,none⟩) c xs] b:=fun b hb=>by
  rintro⟨i,o,h4,h5⟩
  cases i with
  | zero=>simp only[List.getElem?_cons_zero,Option.some.injEq] at h4;subst h4;simp[OWR,Go.SX.Own.num,Value.ownBlock] at h5;exact hb h5.symm
  | succ i=>simp at h4
 refine Calls.mono (sortB (P:=Tryz.prog) (ff:=175) (g:=176) (cb:=#[.pointer (some a)]) (f:=fun x:NtS bars=>ntV x.1) (cf:=fun x y:NtS bars=>cmpN bars x.1 y.1) (k:=12) (fun _=>rfl) hlie (fun w' hk x y=>?_) fun hcmp hH hblk=>?_) fun e w' ⟨v,he,hk9,ys,hy1,hy2,hy3,hy4⟩=>⟨v,he,hk9,(),hy1,trivial,?_⟩
 ·
  have hkb:=@Keep.block ⟨True⟩ _ _ _ hk
  have hks:=@Keep.size ⟨True⟩ _ _ _ hk
  refine @ncmp_spec ⟨True⟩ w' ⟨hN.1.frame (hkb _ (hof _ h3) hN.2),Nat.lt_of_lt_of_le hN.2 hks⟩ a r bars (hbx.frame (hkb _ (hof _ h1) hbz)) (Nat.lt_of_lt_of_le hbz hks) ((hkb r (hof _ h2) hrz).trans hm) hv x.1 y.1 x.2 y.2
 · exact AnyQ.slices_SortFunc Tryz.sortNt 12 (fun w=>run_aggB agg89) (fun w=>run_szOf sz89) (fun x:NtS bars=>ntV x.1) (fun _=>rfl) (fun x=>ntV_one x.1) (fun x y:NtS bars=>cmpN bars x.1 y.1) (cmp_swo bars) 176 #[.pointer (some a)] g0 0 c xs.toArray w (enters_of Tryz.func176 (by kernel_rfl) rfl) hcmp hH hblk (by show xs.length<_;omega)
 ·
  have hp:(ys.map Subtype.val).Perm (xs.map Subtype.val):=hy2.map _
  have hs:(ys.map Subtype.val).Pairwise fun a b=>leN bars a b=true:=by
   rw[List.pairwise_map]
   refine hy3.imp fun {x y} h=>?_
   unfold leN
   rw[← cmp_lt,Bool.not_eq_true',decide_eq_false_iff_not]
   exact h
  rw[owr_map (f:=ntV) (g:=Subtype.val) ys,srt_uniq hp hs hnd] at hy4
  exact hy4
theorem nsortT_spec {w:World} (hN:GN w) {a:Addr} {r c:Nat} {q:Option Addr} {bars:List Br} {l:List Nt} (hbx:At w a [.map (some r)]) (hbz:a.block<w.heap.size) (hm:w.heap[r]?=some (.map (vmE (kvOf bxK bxV bars.zipIdx)) (kvOf bxK bxV bars.zipIdx).length)) (hok:NotesOk bars l)
  (hd:∀ g,(Value.slice q l.length c).ownBlock=some g→a.block≠g∧r≠g∧0≠g) (hlie:Lie [OWR 89 ntV 12 q c l] w) :
  GivesB Tryz.prog 175 #[.slice q l.length c,.func (.func 176) #[] #[.pointer (some a)]] w (ofOwn [OWR 89 ntV 12 q c l]) fun v w'=>∃ x:Unit,v=.tuple #[]∧True∧TurnL [OWR 89 ntV 12 q c l] [OWR 89 ntV 12 q c (srt bars l)] w w':=by
 rcases Nat.eq_zero_or_pos l.length with h0 | h0
 ·
  obtain rfl:=List.eq_nil_of_length_eq_zero h0
  refine Calls.mono (AnyF.slices_SortFunc_none Tryz.sortNt q c (.func (.func 176) #[] #[.pointer (some a)]) w) fun e w' ⟨he,hw⟩=>?_
  subst hw
  have hs:srt bars []=[]:=List.eq_nil_of_length_eq_zero (by rw[srt_len];rfl)
  rw[hs]
  exact⟨_,he,Keep.refl _ _,(),rfl,trivial,⟨hlie,fun k o b h1 h2=>.inl ⟨k,o,h1,h2⟩⟩⟩
 ·
  have hown:=hlie.here 0 _ rfl
  simp only[OWR,Go.SX.Own.holds] at hown
  obtain⟨g0,rfl⟩:∃ g0,q=some ⟨g0,0,none⟩:=by
   rcases hown.2 with⟨hv,hn⟩ | ⟨g,cap,cur,hv,_⟩
   · omega
   · simp only[Value.slice.injEq] at hv;exact⟨g,hv.1⟩
  obtain⟨h1,h2,h3⟩:=hd g0 rfl
  exact nsort_spec hN hbx hbz hm hok.br hok.all hok.nd hok.len h1 h2 h3 hlie
theorem own_apart {ρ:Nat→Nat} {σ:St} {w:World} (hb:Base ρ σ w) {i j:Nat} {oi oj:Go.SX.Own} {x y:Nat} (hi:nth σ.own i=some oi) (hj:nth σ.own j=some oj) (hx:oi.num ρ i=some x) (hy:oj.num ρ j=some y) (hij:i≠j):x≠y:=fun h=>by
 subst h
 rw[nth_eq] at hi hj
 exact hij (hb.apart i j oi oj x hi hj hx hy)
theorem nsorted_spec {S:Nat→Prop} {w:World} (hN:GN w) {vb:Value} {p:Option Addr} {c:Nat} {bars:List Br} {l:List Nt} (hbr:rBrs.rd S w [vb] bars) (hl:rNts.rd S w [.slice p l.length c] l) (hok:NotesOk bars l):Gives Tryz.prog 130 #[vb,.slice p l.length c] w fun r w'=>∃ x:Option Addr×Nat,r=.slice x.1 (srt bars l).length x.2∧(∀ ρ' k,(OWR 89 ntV 12 x.1 x.2 (srt bars l)).holds ρ' k w')∧∀ ρ' k b,(OWR 89 ntV 12 x.1 x.2 (srt bars l)).num ρ' k=some b→w.heap.size≤b:=by
 have hbr:(Rp.slice rBr).rd (fun _=>True) w _ bars:=Rp.any hbr
 have hl:(Rp.slice rNt).rd (fun _=>True) w _ l:=Rp.any hl
 obtain⟨pb9,cb9,rfl,_⟩:=Rp.slice_val hbr
 refine gives_of [.val (.slice pb9 bars.length cb9),.val (.slice p l.length c)] 15 [.tmp 4] Tryz.func130 rfl rfl rfl (by simp) rfl rfl ?_
 refine W.pure dn fun K1 k1=>?_
 simp only[E,F,J,M,R,Tz,V,X,Y,reduceIte,G,H,sz];refine k1 _ ?_
 refine W.seqK fun K2 k2=>W.region ?_
 refine WO.go 1 dn ?_
 simp only[E,F,J,M,R,Tz,V,X,Y,reduceIte,G,H,sz]
 refine WO.callO (fun r:Nat=>.map (some r)) (fun r=>.map r (vmE (kvOf bxK bxV bars.zipIdx)) (kvOf bxK bxV bars.zipIdx).length) dn rfl rfl rfl co124 (fun _ _ _ h=>by cases h) (fun ρ w1 hb=>indexes_spec (Rp.now hbr (hb.first (by simp[St.put]))) hok.br) fun r0=>?_
 simp only[St.pushO]
 refine WO.go 2 dn ?_
 simp only[E,F,J,M,R,Tz,V,X,Y,reduceIte,G,H,sz]
 refine WO.nil ?_
 refine k2 _ ?_
 refine W.seqK fun K3 k3=>W.region ?_
 refine WO.go 1 dn ?_
 simp only[E,F,J,M,R,Tz,V,X,Y,reduceIte,G,H,sz]
 refine WO.callO (fun x:Option Addr×Nat=>.slice x.1 l.length x.2) (fun x=>OWR 89 ntV 12 x.1 x.2 l) dn rfl rfl rfl co84 (fun _ _ _ h=>by cases h) (fun ρ w1 hb=>nclone_spec (Rp.now hl (hb.first (by simp[St.put]))) hok.len) fun x=>?_
 obtain⟨q5,c5⟩:=x
 simp only[St.pushO]
 refine WO.go 1 dn ?_
 simp only[E,F,J,M,R,Tz,V,X,Y,reduceIte,G,H,sz]
 refine WO.nil ?_
 refine k3 _ ?_
 refine W.seqK fun K4 k4=>W.region ?_
 refine WO.go 2 dn ?_
 simp only[E,F,J,M,R,Tz,V,X,Y,reduceIte,G,H,sz]
 refine WO.callL (own:=[OWR 89 ntV 12 q5 c5 l]) [2] (fun _:Unit=>.tuple #[]) (fun _=>[OWR 89 ntV 12 q5 c5 (srt bars l)]) (fun _ _ _=>True) dn rfl rfl rfl co175 ⟨rfl,trivial⟩ (by decide) rfl (fun _=>rfl) (fun _=>rfl) (fun ρ w1 hb hlie=>nsortT_spec (a:=⟨ρ 1,0,none⟩) (r:=r0) (GN.now hN (hb.first (by simp[St.put]))) (own_cells (k:=1) hb rfl 0).1 (own_cells (k:=1) hb rfl 0).2 (own_map hb (k:=0) rfl) hok (fun g hg=>⟨own_apart hb (i:=1) (j:=2) rfl rfl rfl hg (by decide),own_apart hb (i:=0) (j:=2) rfl rfl rfl hg (by decide),fun h9=>by have h8:=own_new (k:=2) (w0:=w) hb (by simp) rfl hg;have h7:=hN.2;omega⟩) hlie) fun u lo s8 hl'=>?_
 simp only[E,F,J,M,R,Tz,V,X,Y,reduceIte,G,H,sz]
 refine WO.nil ?_
 refine k4 _ ?_
 refine W.pure dn fun K5 k5=>?_
 simp only[E,F,J,M,R,Tz,V,X,Y,reduceIte,G,H,sz];refine k5 _ ?_
 refine W.ret ⟨by simp,_,rfl,fun ρ w1 hb=>?_⟩
 refine⟨(q5,c5),by rw[srt_len];rfl,fun ρ' k=>?_,fun ρ' k b' h=>?_⟩
 · exact freeO_holds rfl (hb.own 2 _ rfl ρ (Agree.refl _ _))
 · exact own_new (k:=2) (o:=OWR 89 ntV 12 q5 c5 (srt bars l)) hb (by simp) rfl h
open Go.Proofs Go.Maps Go.Sort Go.Shelf in
theorem sorts_in (m:Nat):AnyZI.SortsIn Tryz.prog Tryz.sortedI_ren Fence.wide m:=
 ⟨fun blk off cap ss W hH hblk hsz=>callsIn_wide.2 (AnyM.slices_Sort_int Tryz.sortI blk off cap ss W hH hblk hsz),
  fun p cap W=>callsIn_wide.2 (AnyM.slices_Sort_int_none Tryz.sortI p cap W)⟩
theorem vmL_mem:∀ {kv:List (Int×Value)} {i:Nat} {x:MapEntry},x∈vmL i kv→(∃ p,p∈kv∧x.key=.int .i64 p.1)∧i≤x.born∧x.born<i+kv.length
 | [],i,x,h=>by cases h
 |
  p::kv,i,x,h=>by
  rw[vmL] at h
  rcases List.mem_cons.1 h with rfl | h
  · exact⟨⟨p,by simp,rfl⟩,Nat.le_refl _,by simp⟩
  ·
   obtain⟨⟨q,h1,h2⟩,h3,h4⟩:=vmL_mem h
   exact⟨⟨q,by simp[h1],h2⟩,by omega,by simp only[List.length_cons];omega⟩
theorem vmL_key:∀ (kv:List (Int×Value)) (i:Nat),(vmL i kv).map (·.key)=kv.map fun p=>Value.int .i64 p.1
 | [],_=>rfl
 | p::kv,i=>by rw[vmL,List.map_cons,vmL_key kv (i+1),List.map_cons]
theorem vmL_len:∀ (kv:List (Int×Value)) (i:Nat),(vmL i kv).length=kv.length
 | [],_=>rfl
 | p::kv,i=>by rw[vmL,List.length_cons,vmL_len kv (i+1),List.length_cons]
theorem vmL_born:∀ (kv:List (Int×Value)) (i:Nat),((vmL i kv).map (·.born)).Nodup
 | [],_=>by simp[vmL]
 |
  p::kv,i=>by
  rw[vmL,List.map_cons,List.nodup_cons]
  refine⟨fun h=>?_,vmL_born kv (i+1)⟩
  obtain⟨x,h1,h2⟩:=List.mem_map.1 h
  have:=(vmL_mem h1).2.1
  simp only at h2
  omega
def RN:Value→Option (DataW Unit×List MemPlace):=fun _=>some (.nil,[])
theorem keyOf_int {P:Program} {k:TypeId} {x:Int} (hk:P.underlying k=some (.int .i64)) (h:-9223372036854775808≤x∧x≤9223372036854775807):keyOf P k (.int .i64 x)=some (.int .i64 x):=by
 have hw:(Lit.int .i64 x).wf=true:=by simp[Lit.wf,IntKind.min,IntKind.max,IntKind.signed,IntKind.bits];omega
 simp[keyOf,hk,mapKey,hw]
theorem rg_int {P:Program} {k:TypeId} {x:MapEntry} {z:Int} (hk:P.underlying k=some (.int .i64)) (hz:x.key=.int .i64 z) (h:-9223372036854775808≤z∧z≤9223372036854775807):Go.WideElems.rd P k RN x=some (.int .i64 z,.nil):=by
 unfold Go.WideElems.rd RN
 rw[hz,keyOf_int hk h];rfl
theorem insert_perm {H:Type} (x:Lit×DataW H):∀ l:List (Lit×DataW H),(DataW.insert x l).Perm (x::l)
 | []=>List.Perm.refl _
 |
  y::r=>by
  unfold DataW.insert
  split
  · exact List.Perm.refl _
  · exact((insert_perm x r).cons y).trans (List.Perm.swap x y r)
theorem foldr_perm {H:Type}:∀ l:List (Lit×DataW H),(l.foldr DataW.insert []).Perm l
 | []=>List.Perm.refl _
 | x::l=>(insert_perm x _).trans ((foldr_perm l).cons x)
theorem keys_perm {P:Program} {k:TypeId} {kv:List (Int×Value)} (hk:P.underlying k=some (.int .i64)) (hb:∀ p,p∈kv→-9223372036854775808≤p.1∧p.1≤9223372036854775807):(intKeys (.map (((vmL 0 kv).map (Go.WideElems.rg P k RN)).foldr DataW.insert []))).Perm (kv.map (·.1)):=by
 refine((foldr_perm _).map _).trans ?_
 rw[List.map_map]
 have:∀ (kv:List (Int×Value)) (i:Nat),(∀ p,p∈kv→-9223372036854775808≤p.1∧p.1≤9223372036854775807)→(vmL i kv).map ((fun p=>Go.intOf p.1) ∘ Go.WideElems.rg P k RN)=kv.map (·.1):=by
  intro kv
  induction kv with
  | nil=>intro i _;rfl
  |
   cons p kv ih=>
   intro i hb
   rw[vmL,List.map_cons,ih (i+1) (fun q hq=>hb q (by simp[hq])),List.map_cons]
   congr 1
   show Go.intOf (Go.WideElems.rg P k RN _).1=p.1
   unfold Go.WideElems.rg
   rw[rg_int hk rfl (hb p (by simp))];rfl
 rw[this kv 0 hb]
theorem owns_map {P:Program} {k:TypeId} {w:World} {r:Nat} {kv:List (Int×Value)} (hk:P.underlying k=some (.int .i64)) (hm:w.heap[r]?=some (.map (vmE kv) kv.length)) (hnd:(kv.map (·.1)).Nodup) (hlen:kv.length≤20000) (hb:∀ p,p∈kv→-9223372036854775808≤p.1∧p.1≤9223372036854775807):w.ownsMap P k RN r kv.length (.map (((vmL 0 kv).map (Go.WideElems.rg P k RN)).foldr DataW.insert [])):=by
 refine⟨_,_,hm,⟨?_,⟨fun x hx=>?_,vmL_born kv 0,?_⟩,fun x hx=>?_⟩,?_,rfl⟩
 ·
  show(vmL 0 kv).toArray.size≤maxLen
  rw[List.size_toArray,vmL_len,maxLen_eq];omega
 · have:=(vmL_mem (by simpa [vmE] using hx)).2.2;omega
 ·
  show((vmL 0 kv).map (·.key)).Nodup
  rw[vmL_key]
  have h9:(kv.map fun p=>Value.int .i64 p.1)=(kv.map (·.1)).map (Value.int .i64):=by rw[List.map_map];rfl
  rw[h9]
  exact List.pairwise_map.2 (List.Pairwise.imp (fun hne he=>hne (by simpa using he)) hnd)
 ·
  obtain⟨⟨p,h1,h2⟩,_⟩:=vmL_mem (show x∈vmL 0 kv by simpa [vmE] using hx)
  exact⟨_,rg_int hk h2 (hb p h1)⟩
 ·
  show(vmL 0 kv).toArray.size≤kv.length
  rw[List.size_toArray,vmL_len];exact Nat.le_refl _
def OWI (q:Option Addr) (c:Nat) (l:List Int):Go.SX.Own:=.slice 3 1 (.slice q l.length c) l.length (l.map (.int .i64))
def srtI (l:List Int):List Int:=l.mergeSort (fun a b=>decide (a≤b))
theorem fKeys_spec {w:World} {r:Nat}:Gives Tryz.prog 33 #[.map (some r)] w fun v w'=>∃ b:Nat,v=.func (.func 77) #[] #[.pointer (some ⟨b,0,none⟩)]∧At w' ⟨b,0,none⟩ [.map (some r)]∧w.heap.size≤b∧b<w'.heap.size:=by
 refine Calls.mono ((callsIn_wide (n:=1)).1 (AnyZI.keys_in Tryz.keysNt Fence.wide 1 trivial rfl (some r) w)) fun e w' ⟨he,hw⟩=>⟨_,he,?_,w.heap.size,rfl,?_⟩
 ·
  subst hw
  exact⟨rfl,rfl,rfl,by simp,fun b hb=>heap_alloc_old _ _ hb,DLe.refl _⟩
 ·
  subst hw
  refine⟨fun j v hj=>?_,Nat.le_refl _,by simp⟩
  rcases j with _ | j
  ·
   simp only[List.getElem?_cons_zero,Option.some.injEq] at hj
   subst hj
   unfold World.cell?
   show(match (w.alloc _).heap[w.heap.size]? with | some (.cells c _ _)=>_ | _=>none)=_
   rw[heap_alloc_new];rfl
  · simp at hj
open Go.Proofs Go.Maps Go.Sort Go.Shelf in
theorem fSorted_spec (hoff:¬ Drw.on) {w:World} {bm r:Nat} {kv:List (Int×Value)} (hbx:At w ⟨bm,0,none⟩ [.map (some r)]) (hbm:bm<w.heap.size) (hm:w.heap[r]?=some (.map (vmE kv) kv.length)) (hnd:(kv.map (·.1)).Nodup) (hlen:kv.length≤20000) (hb:∀ p,p∈kv→-9223372036854775808≤p.1∧p.1≤9223372036854775807) :
  Gives Tryz.prog 32 #[.func (.func 77) #[] #[.pointer (some ⟨bm,0,none⟩)]] w fun v w'=>∃ x:Option Addr×Nat,v=.slice x.1 (srtI (kv.map (·.1))).length x.2∧(∀ ρ' k,(OWI x.1 x.2 (srtI (kv.map (·.1)))).holds ρ' k w')∧∀ ρ' k b,(OWI x.1 x.2 (srtI (kv.map (·.1)))).num ρ' k=some b→w.heap.size≤b:=by
 have hown:=owns_map (P:=Tryz.prog) (k:=3) (by kernel_rfl) hm hnd hlen hb
 have hp:=keys_perm (P:=Tryz.prog) (k:=3) (by kernel_rfl) hb
 have hsz:Maps.size (H:=Unit) (.map (((vmL 0 kv).map (Go.WideElems.rg Tryz.prog 3 RN)).foldr DataW.insert []))=kv.length:=by
  rw[size_eq,(foldr_perm _).length_eq,List.length_map,vmL_len]
 have hcell:w.cell? ⟨bm,0,none⟩=some (.map (some r)):=by have:=hbx 0 _ rfl;simpa [Addr.add] using this
 have hseq:=AnyZI.keys_gives (ρ:=Tryz.keysNt_ren) { Tryz.keysNt with } Fence.wide 2 trivial rfl (by omega) bm r _ _ w hbm hcell hown
 have cS:=AnyZI.sorted_in Tryz.sortedI Fence.wide 5 trivial trivial trivial trivial rfl (by omega) (sorts_in _) (enters_of Tryz.func76 (by kernel_rfl) rfl) 77 #[.pointer (some ⟨bm,0,none⟩)] trivial (enters_of Tryz.func77 (by kernel_rfl) rfl) _ _ (by rw[hsz,maxLen_eq];omega) (by rw[hsz];omega) _ hseq
 refine Calls.mono ((callsIn_wide (n:=5)).1 cS) fun e w' ⟨v,ss,he,hS,hrow,hnil,hbel⟩=>⟨v,he,⟨hbel.os,hbel.tape,hbel.output,hbel.size,hbel.block,fun h=>absurd h hoff⟩,?_⟩
 have hs:ss.mergeSort (fun x y=>decide (x≤y))=srtI (kv.map (·.1)):=mergeSort_of_perm_i (hS.trans hp)
 rw[hs] at hrow
 have hl:ss.length=(srtI (kv.map (·.1))).length:=by rw[← hs,List.length_mergeSort]
 rw[hl] at hrow
 change w'.ownsRow w.heap.size 3 1 v _ _ at hrow
 obtain⟨h1,⟨hv,hn⟩ | ⟨g,cap,cur,hv,h2,h3⟩⟩:=hrow
 ·
  subst hv
  refine⟨(none,0),by rw[hn],fun ρ' k=>?_,fun ρ' k b h=>by simp[OWI,Go.SX.Own.num,Value.ownBlock] at h⟩
  exact⟨h1,.inl ⟨by rw[hn],hn⟩⟩
 ·
  subst hv
  refine⟨(some ⟨g,0,none⟩,cap),rfl,fun ρ' k=>?_,fun ρ' k b h=>?_⟩
  · exact⟨h1,.inr ⟨g,cap,cur,rfl,Nat.zero_le _,h3⟩⟩
  ·
   simp[OWI,Go.SX.Own.num,Value.ownBlock] at h
   omega
def ownP (l:List Pt):List Pt:=l.filter fun p=>p.src == 0
theorem ownP_yes {l:List Pt} {i:Nat} {y:Pt} (h:l[i]?=some y) (h0:y.src=0):kvOf Pt.id ptA (ownP (l.take (i+1)))=kvOf Pt.id ptA (ownP (l.take i))++[(y.id,ptA y)]:=by
 unfold ownP
 rw[List.take_add_one,h,List.filter_append]
 simp only[Option.toList_some,List.filter_cons,h0,beq_self_eq_true,if_true,List.filter_nil]
 exact kv_snoc Pt.id ptA _ y
theorem ownP_no {l:List Pt} {i:Nat} {y:Pt} (h:l[i]?=some y) (h0:¬ y.src=0):ownP (l.take (i+1))=ownP (l.take i):=by
 unfold ownP
 rw[List.take_add_one,h,List.filter_append]
 simp[h0]
theorem ownP_new {l:List Pt} {i:Nat} {y:Pt} (hnd:(l.map Pt.id).Nodup) (h:l[i]?=some y):y.id∉(kvOf Pt.id ptA (ownP (l.take i))).map (·.1):=by
 have h9:=kv_new (g:=ptA) hnd h
 rw[kv_keys] at h9 ⊢
 intro hm
 obtain⟨z,hz,he⟩:=List.mem_map.1 hm
 exact h9 (List.mem_map.2 ⟨z,(List.mem_filter.1 hz).1,he⟩)
theorem own_get {l:List Pt} (hnd:(l.map Pt.id).Nodup) {p:Pt} (hp:p∈l) (h0:p.src=0) (z:Value):vmGet (kvOf Pt.id ptA (ownP l)) p.id z (ptA p) true:=by
 refine kv_yes ?_ (List.mem_filter.2 ⟨hp,by simpa using h0⟩)
 exact hnd.sublist (List.filter_sublist.map _)
theorem stranger_spec {w:World} {a:Addr} {r:Nat} {l:List Pt} (hbx:At w a [.map (some r)]) (hbz:a.block<w.heap.size) (hm:w.heap[r]?=some (.map (vmE (kvOf Pt.id ptA (ownP l))) (kvOf Pt.id ptA (ownP l)).length)) (hl:PartsOk l) (n:Nt) (ho:OwnOk l n):Gives Tryz.prog 126 #[(ntq n),.pointer (some a)] w fun r _=>r=.bool false:=by
 have hrz:r<w.heap.size:=(Array.getElem?_eq_some_iff.1 hm).1
 obtain⟨p,hp1,hp2,hp3,hp4,hp5⟩:=ho
 have hg:=own_get hl.nd hp1 hp3 (.agg #[iv 0,iv 0,iv 0,iv 0,iv 0,iv 0,iv 0,iv 0,iv 0,iv 0,iv 0,iv 0,iv 0])
 rw[hp2] at hg
 refine gives_of [.agg (ntw n),.val (.pointer (some a))] 15 [.tmp 3] Tryz.func126 rfl rfl rfl (by simp) rfl rfl ?_
 refine W.pure dn fun K1 k1=>?_
 simp only[E,F,J,M,R,Tz,V,X,Y,reduceIte,G,H,sz];refine k1 _ ?_
 refine W.seqK fun K2 k2=>W.region ?_
 refine WO.q dn rfl rfl (QR.load [.map (some r)] false rfl rfl agg206 sz206 (.inr rfl) (fun ρ w1 hb=>hbx.now (S:=fun _=>True) hb (by simp[St.put]) trivial hbz)) ?_
 simp only[ofCells,sr]
 refine WO.go 2 dn ?_
 simp only[E,F,J,M,R,Tz,V,X,Y,reduceIte,G,H,sz]
 refine WO.q dn rfl rfl (QR.lookup (r:=r) (ks:=(kvOf Pt.id ptA (ownP l))) (.agg #[iv 0,iv 0,iv 0,iv 0,iv 0,iv 0,iv 0,iv 0,iv 0,iv 0,iv 0,iv 0,iv 0]) (ptq p) true true rfl rfl rfl (fun ρ w1 hb=>(((hb.first (w0:=w) (by simp[St.put])).block r trivial hrz).trans hm)) (by kernel_rfl) (hg)) ?_
 simp only[Bool.false_eq_true,if_false,if_true]
 refine WO.go 6 dn ?_
 simp only[E,F,J,M,R,Tz,V,X,Y,reduceIte,G,H,sz]
 refine WO.nil ?_
 refine k2 _ ?_
 refine W.pure dn fun K3 k3=>?_
 simp only[E,F,J,M,R,Tz,V,X,Y,reduceIte,G,H,sz];refine k3 _ ?_
 refine W.ret ⟨by simp,_,rfl,fun ρ w1 hb=>?_⟩
 rfl
theorem far_spec {w:World} (hN:GN w) {a:Addr} {r:Nat} {l:List Pt} (hbx:At w a [.map (some r)]) (hbz:a.block<w.heap.size) (hm:w.heap[r]?=some (.map (vmE (kvOf Pt.id ptA (ownP l))) (kvOf Pt.id ptA (ownP l)).length)) (hl:PartsOk l) (n:Nt) (hn:isNoteP n.pit=true) (ho:OwnOk l n):Gives Tryz.prog 127 #[(ntq n),.pointer (some a)] w fun r _=>r=.bool false:=by
 have hrz:r<w.heap.size:=(Array.getElem?_eq_some_iff.1 hm).1
 obtain⟨p,hp1,hp2,hp3,hp4,hp5⟩:=ho
 have hg:=own_get hl.nd hp1 hp3 (.agg #[iv 0,iv 0,iv 0,iv 0,iv 0,iv 0,iv 0,iv 0,iv 0,iv 0,iv 0,iv 0,iv 0])
 rw[hp2] at hg
 have hpo:=hl.all p hp1
 have hwi:within (numF p.low) (numF p.high) (numF n.pit)=true:=within_iff.2 ⟨hp4,hp5⟩
 refine gives_of [.agg (ntw n),.val (.pointer (some a))] 20 [.tmp 3] Tryz.func127 rfl rfl rfl (by simp) rfl rfl ?_
 refine W.pure dn fun K1 k1=>?_
 simp only[E,F,J,M,R,Tz,V,X,Y,reduceIte,G,H,sz];refine k1 _ ?_
 refine W.seqK fun K2 k2=>W.region ?_
 refine WO.q dn rfl rfl (QR.load [.map (some r)] false rfl rfl agg206 sz206 (.inr rfl) (fun ρ w1 hb=>hbx.now (S:=fun _=>True) hb (by simp[St.put]) trivial hbz)) ?_
 simp only[ofCells,sr]
 refine WO.go 2 dn ?_
 simp only[E,F,J,M,R,Tz,V,X,Y,reduceIte,G,H,sz]
 refine WO.q dn rfl rfl (QR.lookup (r:=r) (ks:=(kvOf Pt.id ptA (ownP l))) (.agg #[iv 0,iv 0,iv 0,iv 0,iv 0,iv 0,iv 0,iv 0,iv 0,iv 0,iv 0,iv 0,iv 0]) (ptq p) true false rfl rfl rfl (fun ρ w1 hb=>(((hb.first (w0:=w) (by simp[St.put])).block r trivial hrz).trans hm)) (by kernel_rfl) (hg)) ?_
 simp only[Bool.false_eq_true,if_false,if_true]
 refine WO.go 2 dn ?_
 simp only[E,F,J,M,R,Tz,V,X,Y,reduceIte,G,H,sz]
 refine WO.nil ?_
 refine k2 _ ?_
 refine W.seqK fun K3 k3=>?_
 refine W.regionQ mixed (by kernel_rfl) ?_
 refine WQ.go 2 dn ?_
 simp only[E,F,J,M,R,Tz,V,X,Y,reduceIte,sxq,G,H,sz]
 refine WQ.call (iv (numF n.pit)) dn rfl rfl rfl co128 (fun ρ w1 hb=>by have h9:=height_spec (hN.now (hb.first (by simp[St.put]))) n.pit;rw[show numG n.pit=numF n.pit from if_pos (isNote_v hn)] at h9;exact h9) ?_
 refine WQ.go 2 dn ?_
 simp only[E,F,J,M,R,Tz,V,X,Y,reduceIte,sxq,G,H,sz]
 refine WQ.call (iv (numF p.low)) dn rfl rfl rfl co128 (fun ρ w1 hb=>by have h9:=height_spec (hN.now (hb.first (by simp[St.put]))) p.low;rw[show numG p.low=numF p.low from if_pos hpo.low] at h9;exact h9) ?_
 refine WQ.go 2 dn ?_
 simp only[E,F,J,M,R,Tz,V,X,Y,reduceIte,sxq,G,H,sz]
 refine WQ.call (iv (numF p.high)) dn rfl rfl rfl co128 (fun ρ w1 hb=>by have h9:=height_spec (hN.now (hb.first (by simp[St.put]))) p.high;rw[show numG p.high=numF p.high from if_pos hpo.high] at h9;exact h9) ?_
 simp only[E,F,J,M,R,Tz,V,X,Y,reduceIte,G,H,sz]
 refine WQ.call (.bool true) dn rfl rfl rfl co123 (fun ρ w1 hb=>by have h9:=swithin_spec w1 (numF n.pit) (numF p.low) (numF p.high);rw[hwi] at h9;exact h9) ?_
 refine WQ.go 2 dn ?_
 simp only[E,F,J,M,R,Tz,V,X,Y,reduceIte,sxq,G,H,sz]
 refine WQ.nil ?_
 refine k3 _ ?_
 refine W.ret ⟨by simp,_,rfl,fun ρ w1 hb=>?_⟩
 rfl
theorem wrong_spec {S S2:Nat→Prop} {w:World} {v u:Value} {l:List Pt} {ns:List Nt} (hN:GN w) (hl:rPts.rd S w [v] l) (hn:rNts.rd S2 w [u] ns) (hv:PartsOk l) (ho:∀ n,n∈ns→OwnOk l n) (hnp:∀ n,n∈ns→isNoteP n.pit=true):Gives Tryz.prog 71 #[v,u] w fun r _=>r=iv 0:=by
 obtain⟨p,c,rfl,hc1,hc2⟩:=Rp.slice_val hl
 obtain⟨pn,cn,rfl,_⟩:=Rp.slice_val hn
 have hl:(Rp.slice rPt).rd (fun _=>True) w _ l:=Rp.any hl
 have hn:(Rp.slice rNt).rd (fun _=>True) w _ ns:=Rp.any hn
 have hlen:=hv.len
 refine gives_of [.val (.slice p l.length c),.val (.slice pn ns.length cn)] 35 [.tmp 4] Tryz.func71 rfl rfl rfl (by simp) rfl rfl ?_
 refine W.pure dn fun K1 k1=>?_
 simp only[E,F,J,M,R,Tz,V,X,Y,reduceIte,G,H,sz];refine k1 _ ?_
 refine W.seqK fun K2 k2=>W.region ?_
 refine WO.makeV dn rfl rfl rfl fun r=>?_
 simp only[St.pushO]
 refine WO.go 2 dn ?_
 simp only[E,F,J,M,R,Tz,V,X,Y,reduceIte,G,H,sz]
 refine WO.nil ?_
 refine k2 _ ?_
 refine W.seqK fun K3 k3=>?_
 refine W.pure dn fun K4 k4=>?_
 simp only[E,F,J,M,R,Tz,V,X,Y,reduceIte,G,H,sz];refine k4 _ ?_
 refine W.block ?_
 refine W.loopO (X:=Nat) [1,5,11,12] (fun x=>[(13,wv (x:Int))]) (fun x=>[.map r (vmE (kvOf Pt.id ptA (ownP (l.take x)))) (kvOf Pt.id ptA (ownP (l.take x))).length,.cells 206 [.val (.map (some r))]]) (fun x=>[((fun _=>True),w)]) (fun x=>x≤l.length) (fun x=>l.length - x) 0 ?_ ?_ ?_
 · exact⟨rfl,by simp[getE,bnd,keepE],⟨[],by simp[kvOf,ownP]⟩,by simp[Own.bnd,bndL,bnd,boxO],by simp⟩
 ·
  exact Nat.zero_le _
 ·
  rintro i hi
  simp only[E,F,J,M,R,Tz,V,X,Y,reduceIte,sxk,G,H,sz]
  refine W.pure dn fun K5 k5=>?_
  simp only[E,F,J,M,R,Tz,V,X,Y,reduceIte,G,H,sz];refine k5 _ ?_
  refine W.seqK fun K6 k6=>?_
  refine W.cond rfl rfl (fun hc=>?_) fun hc=>?_
  ·
   have hlt:i<l.length:=by simpa using hc
   obtain⟨y,hy⟩:=len_lt (rfl:l.length=_) hlt
   have hym:=List.mem_of_getElem? hy
   have hnew:=ownP_new hv.nd hy
   refine W.skip (k6 _ ?_)
   refine W.seqK fun K7 k7=>?_
   refine W.block ?_
   refine W.seqK fun K8 k8=>W.region ?_
   refine WO.elem (y:=y) hl (by simp[St.put]) dn rfl rfl (by simp[St.put]) (fun _=>rfl) rfl rfl rfl rfl rfl el23 agg50 sz50 (.inl rfl) (by omega) (hy) fun p ces hces=>?_
   have hces:ces=ptV y:=hces
   subst hces
   simp only[ptV,ofCells,if_true,List.toList_toArray,sr]
   refine WO.go 2 dn ?_
   simp only[E,F,J,M,R,Tz,V,X,Y,reduceIte,G,H,sz]
   refine WO.nil ?_
   refine k8 _ ?_
   refine W.pure dn fun K9 k9=>?_
   simp only[E,F,J,M,R,Tz,V,X,Y,reduceIte,G,H,sz];refine k9 _ ?_
   refine W.cond rfl rfl (fun hc=>?_) fun hc=>?_
   ·
    have h0:y.src=0:=by simpa using hc
    refine W.region ?_
    refine WO.go 4 dn ?_
    simp only[E,F,J,M,R,Tz,V,X,Y,reduceIte,G,H,sz]
    refine WO.addV (k:=0) (ks:=(kvOf Pt.id ptA (ownP (l.take i)))) (ptA y) dn rfl rfl rfl rfl rfl rfl ⟨_,rfl,fun _=>rfl⟩ (by kernel_rfl) hnew ?_
    rw[← show(kvOf Pt.id ptA (ownP (l.take (i+1))))=(kvOf Pt.id ptA (ownP (l.take i)))++[(y.id,ptA y)] from ownP_yes hy h0]
    simp only[E,F,J,M,R,Tz,V,X,Y,reduceIte,G,H,sz]
    refine WO.nil ?_
    refine k7 _ ?_
    refine W.region ?_
    refine WO.go 2 dn ?_
    simp only[E,F,J,M,R,Tz,V,X,Y,reduceIte,G,H,sz]
    refine WO.nil ?_
    refine⟨i+1,hlt,by omega,rfl,by simp[getE,bnd,keepE,wrap_succ (show i+1≤9223372036854775807 by omega)],⟨_,rfl⟩,by simp[Own.bnd,bndL,bnd],by simp⟩
   ·
    have h0:¬ y.src=0:=by simpa using hc
    refine W.skip (k7 _ ?_)
    refine W.region ?_
    refine WO.go 2 dn ?_
    simp only[E,F,J,M,R,Tz,V,X,Y,reduceIte,G,H,sz]
    refine WO.nil ?_
    refine⟨i+1,hlt,by omega,rfl,by simp[getE,bnd,keepE,wrap_succ (show i+1≤9223372036854775807 by omega)],⟨_,by rw[ownP_no hy h0];rfl⟩,by simp[Own.bnd,bndL,bnd],by simp⟩
  ·
   have hge:l.length≤i:=by simpa using hc
   rw[List.take_of_length_le hge]
   refine W.exit (k3 _ ?_)
   refine W.pure dn fun K10 k10=>?_
   simp only[E,F,J,M,R,Tz,V,X,Y,reduceIte,G,H,sz];refine k10 _ ?_
   refine W.pure dn fun K11 k11=>?_
   simp only[E,F,J,M,R,Tz,V,X,Y,reduceIte,G,H,sz];refine k11 _ ?_
   refine W.seqK fun K12 k12=>?_
   refine W.block ?_
   refine W.seqK fun K13 k13=>W.region ?_
   refine WO.go 2 dn ?_
   simp only[E,F,J,M,R,Tz,V,X,Y,reduceIte,G,H,sz]
   refine WO.call (.bool false) dn rfl rfl rfl co129 (fun ρ w1 hb=>by
                              obtain⟨g1,g2⟩:=own_cells (k:=1) hb rfl 0
                              have g3:=own_map hb (k:=0) rfl
                              have h9:=containsNt_spec (Rp.now hn (hb.first (by simp[St.put]))) (fun _=>false) 126 #[.pointer (some ⟨ρ 1,0,none⟩)] co126 fun w2 hk x hx=>stranger_spec (g1.frame (hk.block _ trivial g2)) (Nat.lt_of_lt_of_le g2 hk.size) ((hk.block r trivial (Array.getElem?_eq_some_iff.1 g3).1).trans g3) hv x (ho x hx)
                              rw[show ns.any (fun _=>false)=false by simp] at h9
                              exact h9) ?_
   refine WO.go 1 dn ?_
   simp only[E,F,J,M,R,Tz,V,X,Y,reduceIte,G,H,sz]
   refine WO.nil ?_
   refine k13 _ ?_
   refine W.cond rfl rfl (fun hc=>?_) fun hc=>?_
   ·
    simp at hc
   ·
    refine W.seqK fun K14 k14=>W.region ?_
    refine WO.go 2 dn ?_
    simp only[E,F,J,M,R,Tz,V,X,Y,reduceIte,G,H,sz]
    refine WO.call (.bool false) dn rfl rfl rfl co129 (fun ρ w1 hb=>by
                              obtain⟨g1,g2⟩:=own_cells (k:=1) hb rfl 0
                              have g3:=own_map hb (k:=0) rfl
                              have h9:=containsNt_spec (Rp.now hn (hb.first (by simp[St.put]))) (fun _=>false) 127 #[.pointer (some ⟨ρ 1,0,none⟩)] co127 fun w2 hk x hx=>far_spec (GN.now (GN.now hN (hb.first (by simp[St.put]))) hk) (g1.frame (hk.block _ trivial g2)) (Nat.lt_of_lt_of_le g2 hk.size) ((hk.block r trivial (Array.getElem?_eq_some_iff.1 g3).1).trans g3) hv x (hnp x hx) (ho x hx)
                              rw[show ns.any (fun _=>false)=false by simp] at h9
                              exact h9) ?_
    refine WO.go 1 dn ?_
    simp only[E,F,J,M,R,Tz,V,X,Y,reduceIte,G,H,sz]
    refine WO.nil ?_
    refine k14 _ ?_
    refine W.cond rfl rfl (fun hc=>?_) fun hc=>?_
    ·
     simp at hc
    ·
     refine W.skip (k12 _ ?_)
     refine W.pure dn fun K15 k15=>?_
     simp only[E,F,J,M,R,Tz,V,X,Y,reduceIte,G,H,sz];refine k15 _ ?_
     refine W.ret ⟨by simp,_,rfl,fun ρ w1 hb=>?_⟩
     rfl
theorem owr_read {α:Type} {f:α→List Value} {k T:Nat} {h:∀ x,(f x).length=k} {ρ:Nat→Nat} {σ:St} {w:World} {j c:Nat} {q:Option Addr} {xs:List α} {S:Nat→Prop} (hb:Base ρ σ w) (hk:nth σ.own j=some (OWR T f k q c xs)) (hS:∀ b,(OWR T f k q c xs).num ρ j=some b→S b):(Rp.slice (flatR k f h)).rd S w [.slice q xs.length c] xs:=
 flat_own (m:=xs.length) (n:=xs.length) hb hk (List.take_of_length_le (by rw[row_len h];exact Nat.le_refl _)) rfl (Nat.le_refl _) hS
theorem ScOk.fit {s:Sc} (h:ScOk s):∀ n,n∈s.notes→isNoteP n.pit=true:=fun n hn=>(h.notes.all n hn).pit
theorem equalNt_spec {S S2:Nat→Prop} {w:World} {v u:Value} {a b:List Nt} (hl:rNts.rd S w [v] a) (hl2:rNts.rd S2 w [u] b):Gives Tryz.prog 80 #[v,u] w fun r _=>r=.bool (pb (a=b)):=by
 obtain⟨p,c,rfl,hc1,hc2⟩:=Rp.slice_val hl
 obtain⟨p2,c2,rfl,hc3,hc4⟩:=Rp.slice_val hl2
 have hl:(Rp.slice rNt).rd (fun _=>True) w _ a:=Rp.any hl
 have hl2:(Rp.slice rNt).rd (fun _=>True) w _ b:=Rp.any hl2
 refine gives_of [.val (.slice p a.length c),.val (.slice p2 b.length c2)] 26 [.tmp 4] Tryz.func80 rfl rfl rfl (by simp) rfl rfl ?_
 refine W.pure dn fun K1 k1=>?_
 simp only[E,F,J,M,R,Tz,V,X,Y,reduceIte,G,H,sz];refine k1 _ ?_
 refine W.seqK fun K2 k2=>?_
 refine W.pure dn fun K3 k3=>?_
 simp only[E,F,J,M,R,Tz,V,X,Y,reduceIte,G,H,sz];refine k3 _ ?_
 refine W.cond rfl rfl (fun hc=>?_) fun hc=>?_
 ·
  have h0:a.length≠b.length:=by simp at hc;omega
  refine W.pure dn fun K4 k4=>?_
  simp only[E,F,J,M,R,Tz,V,X,Y,reduceIte,G,H,sz];refine k4 _ ?_
  refine W.ret ⟨by simp,_,rfl,fun ρ w1 hb=>?_⟩
  rw[pb_no fun h=>h0 (by rw[h])];rfl
 ·
  have h0:a.length=b.length:=by simp at hc;omega
  refine W.skip (k2 _ ?_)
  refine W.seqK fun K5 k5=>?_
  refine W.pure dn fun K6 k6=>?_
  simp only[E,F,J,M,R,Tz,V,X,Y,reduceIte,G,H,sz];refine k6 _ ?_
  refine W.block ?_
  refine W.loopK (X:=Nat) [0,1,12] (fun x=>[(13,wv (x:Int))]) (fun x=>x≤a.length∧∀ j,j<x→a[j]?=b[j]?) (fun x=>a.length - x) 0 ?_ ?_ ?_
  · exact⟨rfl,by simp[getE,bnd,keepE],⟨[],by simp⟩,by simp[Own.bnd,bndL,bnd,boxO],by simp⟩
  ·
   exact⟨Nat.zero_le _,fun j h=>by omega⟩
  ·
   rintro i ⟨hi,hno⟩
   simp only[E,F,J,M,R,Tz,V,X,Y,reduceIte,sxk,G,H,sz]
   refine W.pure dn fun K7 k7=>?_
   simp only[E,F,J,M,R,Tz,V,X,Y,reduceIte,G,H,sz];refine k7 _ ?_
   refine W.seqK fun K8 k8=>?_
   refine W.cond rfl rfl (fun hc=>?_) fun hc=>?_
   ·
    have hlt:i<a.length:=by simpa using hc
    obtain⟨y,hy⟩:=len_lt (rfl:a.length=_) hlt
    obtain⟨z,hz⟩:=len_lt (rfl:b.length=_) (show i<b.length by omega)
    refine W.skip (k8 _ ?_)
    refine W.seqK fun K9 k9=>?_
    refine W.block ?_
    refine W.pure dn fun K10 k10=>?_
    simp only[E,F,J,M,R,Tz,V,X,Y,reduceIte,G,H,sz];refine k10 _ ?_
    refine W.seqK fun K11 k11=>?_
    refine W.regionQ mixed (by kernel_rfl) ?_
    refine WQ.go 2 dn ?_
    simp only[E,F,J,M,R,Tz,V,X,Y,reduceIte,sxq,G,H,sz]
    refine WQ.elem (y:=y) hl (by simp[St.put]) dn rfl rfl (by simp[St.put]) (fun _=>rfl) rfl rfl rfl rfl rfl el24 agg89 sz89 (.inl rfl) (by omega) (hy) fun p ces hces=>?_
    have hces:ces=ntV y:=hces
    subst hces
    simp only[ntV,ofCells,if_true,List.toList_toArray,sr]
    refine WQ.go 2 dn ?_
    simp only[E,F,J,M,R,Tz,V,X,Y,reduceIte,sxq,G,H,sz]
    refine WQ.elem (y:=z) hl2 (by simp[St.put]) dn rfl rfl (by simp[St.put]) (fun _=>rfl) rfl rfl rfl rfl rfl el24 agg89 sz89 (.inl rfl) (by omega) (hz) fun p ces hces=>?_
    have hces:ces=ntV z:=hces
    subst hces
    simp only[ntV,ofCells,if_true,List.toList_toArray,sr]
    simp only[E,F,J,M,R,Tz,V,X,Y,reduceIte,G,H,sz]
    refine WQ.aggCmpN [y.id,y.part,y.bar,y.voice,y.ossia,y.start.1,y.start.2,y.len.1,y.len.2,y.pit.1,y.pit.2.1,y.pit.2.2] [z.id,z.part,z.bar,z.voice,z.ossia,z.start.1,z.start.2,z.len.1,z.len.2,z.pit.1,z.pit.2.1,z.pit.2.2] dn rfl rfl rfl ⟨_,rfl,fun _=>rfl⟩ ⟨_,rfl,fun _=>rfl⟩ itn89 rfl rfl rfl ?_
    simp only[E,F,J,M,R,Tz,V,X,Y,reduceIte,G,H,sz]
    refine WQ.nil ?_
    refine k11 _ ?_
    refine W.cond rfl rfl (fun hc=>?_) fun hc=>?_
    ·
     have he:¬ y=z:=by rw[nt_beq] at hc;simpa using hc
     refine W.pure dn fun K12 k12=>?_
     simp only[E,F,J,M,R,Tz,V,X,Y,reduceIte,G,H,sz];refine k12 _ ?_
     refine W.ret ⟨by simp,_,rfl,fun ρ w1 hb=>?_⟩
     rw[pb_no fun h=>by rw[h,hz] at hy;exact he (Option.some.inj hy).symm];rfl
    ·
     have he:y=z:=by rw[nt_beq] at hc;simpa using hc
     refine W.skip (k9 _ ?_)
     refine W.region ?_
     refine WO.go 2 dn ?_
     simp only[E,F,J,M,R,Tz,V,X,Y,reduceIte,G,H,sz]
     refine WO.nil ?_
     refine⟨i+1,?_,by first | omega | (simp;omega),rfl,by simp[getE,bnd,keepE,wrap_succ (show i+1≤9223372036854775807 by omega)],⟨_,rfl⟩,by simp[Own.bnd,bndL,bnd,boxO],by simp⟩
     refine⟨hlt,fun j h=>?_⟩
     rcases Nat.lt_succ_iff_lt_or_eq.1 h with h | rfl
     · exact hno j h
     · rw[hy,hz,he]
   ·
    have hge:a.length≤i:=by simpa using hc
    refine W.exit (k5 _ ?_)
    refine W.pure dn fun K13 k13=>?_
    simp only[E,F,J,M,R,Tz,V,X,Y,reduceIte,G,H,sz];refine k13 _ ?_
    refine W.ret ⟨by simp,_,rfl,fun ρ w1 hb=>?_⟩
    rw[pb_yes (List.ext_getElem? fun q=>by
                                  rcases Nat.lt_or_ge q i with hq | hq
                                  · exact hno q hq
                                  · rw[List.getElem?_eq_none (by omega),List.getElem?_eq_none (by omega)])];rfl
theorem nSort_spec {S:Nat→Prop} {w:World} (hN:GN w) {vb:Value} {p:Option Addr} {c:Nat} {bars:List Br} {l:List Nt} (hbr:rBrs.rd S w [vb] bars) (hl:rNts.rd S w [.slice p l.length c] l) (hok:NotesOk bars l):Gives Tryz.prog 72 #[vb,.slice p l.length c] w fun r w'=>∃ x:Option Addr×Nat,r=.tuple #[.slice x.1 (srt bars l).length x.2,iv 0]∧(∀ ρ' k,(OWR 89 ntV 12 x.1 x.2 (srt bars l)).holds ρ' k w')∧∀ ρ' k b,(OWR 89 ntV 12 x.1 x.2 (srt bars l)).num ρ' k=some b→w.heap.size≤b:=by
 have hbr:(Rp.slice rBr).rd (fun _=>True) w _ bars:=Rp.any hbr
 have hl:(Rp.slice rNt).rd (fun _=>True) w _ l:=Rp.any hl
 obtain⟨pb9,cb9,rfl,_⟩:=Rp.slice_val hbr
 refine gives_of [.val (.slice pb9 bars.length cb9),.val (.slice p l.length c)] 13 [.tmp 4,.tmp 5] Tryz.func72 rfl rfl rfl (by simp) rfl rfl ?_
 refine W.pure dn fun K1 k1=>?_
 simp only[E,F,J,M,R,Tz,V,X,Y,reduceIte,G,H,sz];refine k1 _ ?_
 refine W.seqK fun K2 k2=>?_
 refine W.seqK fun K3 k3=>W.region ?_
 refine WO.go 2 dn ?_
 simp only[E,F,J,M,R,Tz,V,X,Y,reduceIte,G,H,sz]
 refine WO.call (.bool true) dn rfl rfl rfl co70 (fun ρ w1 hb=>by have h9:=nValid_spec (Rp.now hbr (hb.first (by simp[St.put]))) (Rp.now hl (hb.first (by simp[St.put]))) (hok).br (hok).len (fun n hn=>((hok).all n hn).a) (hok).nd;rw[pb_yes fun n hn=>((hok).all n hn).pit] at h9;exact h9) ?_
 refine WO.go 1 dn ?_
 simp only[E,F,J,M,R,Tz,V,X,Y,reduceIte,G,H,sz]
 refine WO.nil ?_
 refine k3 _ ?_
 refine W.cond rfl rfl (fun hc=>?_) fun hc=>?_
 ·
  simp at hc
 ·
  refine W.skip (k2 _ ?_)
  refine W.seqK fun K4 k4=>W.region ?_
  refine WO.go 2 dn ?_
  simp only[E,F,J,M,R,Tz,V,X,Y,reduceIte,G,H,sz]
  refine WO.callO (fun x:Option Addr×Nat=>.slice x.1 (srt bars l).length x.2) (fun x=>.slice 89 12 (.slice x.1 (srt bars l).length x.2) (srt bars l).length (rowV ntV (srt bars l))) dn rfl rfl rfl co130 (fun _ _ _ h=>by cases h) (fun ρ w1 hb=>nsorted_spec (hN.now (hb.first (by simp[St.put]))) (Rp.now hbr (hb.first (by simp[St.put]))) (Rp.now hl (hb.first (by simp[St.put]))) hok) fun x=>?_
  obtain⟨q5,c5⟩:=x
  simp only[St.pushO]
  refine WO.go 2 dn ?_
  simp only[E,F,J,M,R,Tz,V,X,Y,reduceIte,G,H,sz]
  refine WO.nil ?_
  refine k4 _ ?_
  refine W.ret ⟨by simp,_,rfl,fun ρ w1 hb=>?_⟩
  exact⟨(q5,c5),rfl,⟨fun ρ' k=>freeO_holds rfl (hb.own 0 _ rfl ρ (Agree.refl _ _)),fun ρ' k b' h=>own_new (k:=0) (o:=OWR 89 ntV 12 (q5,c5).1 (q5,c5).2 (srt bars l)) hb (by simp) rfl h⟩⟩
abbrev D56_:List (Option Nat):=[some 45,some 46,some 47,some 48,some 49,some 50,some 51,some 52,some 2]
abbrev D55_:List (Option Nat):=[some 5,some 6,some 7,some 8,some 9,some 10,some 11,some 12,some 13,some 14,some 15,some 16,some 17,some 18,some 19,some 20,some 21,some 22,some 23,some 24,some 25,some 26,some 27,some 28,some 29,some 30,some 31,some 32,some 33,some 34,some 35,some 36]
theorem sValid_spec {S:Nat→Prop} {w:World} {a:ScA} {s:Sc} (hN:GN w) (hs:ScR S w a s) (hok:ScOk s):Gives Tryz.prog 36 #[scV a s] w fun r _=>r=.bool true:=by
 have lb:(Rp.slice rBr).rd (fun _=>True) w _ s.bars:=Rp.any hs.b
 have lp:(Rp.slice rPt).rd (fun _=>True) w _ s.parts:=Rp.any hs.p
 have ln:(Rp.slice rNt).rd (fun _=>True) w _ s.notes:=Rp.any hs.n
 unfold scV
 refine gives_of [.agg (scw a s)] 53 [.tmp 2] Tryz.func36 rfl rfl rfl (by simp) rfl rfl ?_
 refine W.pure dn fun K1 k1=>?_
 simp only[E,F,J,M,R,Tz,V,X,Y,reduceIte,G,H,sz];refine k1 _ ?_
 refine W.seqK fun K2 k2=>?_
 refine W.join 36 (.val (.bool false)) [1] (W.region ?_) ?_
 ·
  refine WO.go 2 (ds:=D55_) rfl ?_
  simp only[E,F,J,M,R,Tz,V,X,Y,reduceIte,G,H,sz]
  refine WO.call (.bool true) (ds:=D55_) rfl rfl rfl rfl co69 (fun ρ w1 hb=>by have h9:=sisID_spec w1 s.ver;rw[hok.ver] at h9;exact h9) ?_
  refine WO.go 4 (ds:=D55_) rfl ?_
  simp only[E,F,J,M,R,Tz,V,X,Y,reduceIte,G,H,sz]
  refine WO.call (.bool true) (ds:=D55_) rfl rfl rfl rfl co78 (fun ρ w1 hb=>mValid_spec (Rp.now lb (hb.first (by simp[St.put]))) hok.bars) ?_
  refine WO.go 5 (ds:=D55_) rfl ?_
  simp only[E,F,J,M,R,Tz,V,X,Y,reduceIte,G,H,sz]
  refine WO.call (.bool true) (ds:=D55_) rfl rfl rfl rfl co79 (fun ρ w1 hb=>areParts_spec (hN.now (hb.first (by simp[St.put]))) (Rp.now lp (hb.first (by simp[St.put]))) hok.parts) ?_
  refine WO.go 7 (ds:=D55_) rfl ?_
  simp only[E,F,J,M,R,Tz,V,X,Y,reduceIte,G,H,sz]
  refine WO.call (.bool true) (ds:=D55_) rfl rfl rfl rfl co70 (fun ρ w1 hb=>by have h9:=nValid_spec (Rp.now lb (hb.first (by simp[St.put]))) (Rp.now ln (hb.first (by simp[St.put]))) (hok.notes).br (hok.notes).len (fun n hn=>((hok.notes).all n hn).a) (hok.notes).nd;rw[pb_yes fun n hn=>((hok.notes).all n hn).pit] at h9;exact h9) ?_
  refine WO.go 7 (ds:=D55_) rfl ?_
  simp only[E,F,J,M,R,Tz,V,X,Y,reduceIte,G,H,sz]
  refine WO.call (iv 0) (ds:=D55_) rfl rfl rfl rfl co71 (fun ρ w1 hb=>wrong_spec (hN.now (hb.first (by simp[St.put]))) (Rp.now lp (hb.first (by simp[St.put]))) (Rp.now ln (hb.first (by simp[St.put]))) hok.parts hok.own hok.fit) ?_
  refine WO.go 2 (ds:=D55_) rfl ?_
  simp only[E,F,J,M,R,Tz,V,X,Y,reduceIte,G,H,sz]
  refine WO.nil ?_
  refine⟨rfl,?_,⟨_,rfl⟩,by simp[Own.bnd,bndL,bnd,boxO],by simp⟩
  simp[getE,bnd,keepE]
 ·
  simp only[E,F,J,M,R,Tz,V,X,Y,reduceIte,sxk,G,H,sz]
  refine W.cond rfl rfl (fun hc=>?_) fun hc=>?_
  ·
   simp at hc
  ·
   refine W.skip (k2 _ ?_)
   refine W.seqK fun K4 k4=>W.region ?_
   refine WO.go 4 dn ?_
   simp only[E,F,J,M,R,Tz,V,X,Y,reduceIte,G,H,sz]
   refine WO.callO (fun x:Option Addr×Nat=>.tuple #[.slice x.1 s.notes.length x.2,iv 0]) (fun x=>.slice 89 12 (.slice x.1 (s.notes).length x.2) (s.notes).length (rowV ntV (s.notes))) dn rfl rfl rfl co72 (fun _ _ _ h=>by cases h) (fun ρ w1 hb=>by have h9:=nSort_spec (hN.now (hb.first (by simp[St.put]))) (Rp.now lb (hb.first (by simp[St.put]))) (Rp.now ln (hb.first (by simp[St.put]))) hok.notes;rw[srt_self hok] at h9;exact h9) fun x=>?_
   obtain⟨q5,c5⟩:=x
   simp only[St.pushO]
   refine WO.go 5 dn ?_
   simp only[E,F,J,M,R,Tz,V,X,Y,reduceIte,G,H,sz]
   refine WO.nil ?_
   refine k4 _ ?_
   refine W.join 2 (.val (.bool true)) [] (W.region ?_) ?_
   ·
    refine WO.go 6 (ds:=D56_) rfl ?_
    simp only[E,F,J,M,R,Tz,V,X,Y,reduceIte,G,H,sz]
    refine WO.call (.bool true) (ds:=D56_) rfl rfl rfl rfl co80 (fun ρ w1 hb=>by have h9:=equalNt_spec (owr_read (S:=fun _=>True) (k:=12) (f:=ntV) (h:=fun _=>rfl) (j:=1) (xs:=s.notes) hb rfl fun _ _=>trivial) (Rp.now ln (hb.first (by simp[St.put])));rw[pb_yes rfl] at h9;exact h9) ?_
    refine WO.go 2 (ds:=D56_) rfl ?_
    simp only[E,F,J,M,R,Tz,V,X,Y,reduceIte,G,H,sz]
    refine WO.nil ?_
    refine⟨rfl,?_,⟨_,rfl⟩,by simp[Own.bnd,bndL,bnd,boxO],by simp⟩
    simp[getE,bnd,keepE]
   ·
    simp only[E,F,J,M,R,Tz,V,X,Y,reduceIte,sxk,G,H,sz]
    refine W.ret ⟨by simp,_,rfl,fun ρ w1 hb=>?_⟩
    rfl
abbrev D57_:List (Option Nat):=[some 5,some 6,some 7,some 8,some 9,some 10,some 4]
theorem asked_spec {S:Nat→Prop} {w:World} {a:ScA} {s:Sc} (hN:GN w) (hs:ScR S w a s) (hok:ScOk s) (id:Int) (hid:within 1 1000000 id=true):Gives Tryz.prog 120 #[scV a s,iv id] w fun r _=>r=.bool true:=by
 have hs9:=hs.any
 unfold scV
 refine gives_of [.agg (scw a s),wv id] 11 [.tmp 4] Tryz.func120 rfl rfl rfl (by simp) rfl rfl ?_
 refine W.pure dn fun K1 k1=>?_
 simp only[E,F,J,M,R,Tz,V,X,Y,reduceIte,G,H,sz];refine k1 _ ?_
 refine W.join 4 (.val (.bool true)) [] (W.region ?_) ?_
 ·
  refine WO.go 1 (ds:=D57_) rfl ?_
  simp only[E,F,J,M,R,Tz,V,X,Y,reduceIte,G,H,sz]
  refine WO.call (.bool true) (ds:=D57_) rfl rfl rfl rfl co36 (fun ρ w1 hb=>sValid_spec (a:=a) (hN.now (hb.first (by simp[St.put]))) (ScR.now hs9 (hb.first (by simp[St.put]))) hok) ?_
  refine WO.go 2 (ds:=D57_) rfl ?_
  simp only[E,F,J,M,R,Tz,V,X,Y,reduceIte,G,H,sz]
  refine WO.call (.bool true) (ds:=D57_) rfl rfl rfl rfl co69 (fun ρ w1 hb=>by have h9:=sisID_spec w1 id;rw[hid] at h9;exact h9) ?_
  refine WO.go 2 (ds:=D57_) rfl ?_
  simp only[E,F,J,M,R,Tz,V,X,Y,reduceIte,G,H,sz]
  refine WO.nil ?_
  refine⟨rfl,?_,⟨_,rfl⟩,by simp[Own.bnd,bndL,bnd,boxO],by simp⟩
  simp[getE,bnd,keepE]
 ·
  simp only[E,F,J,M,R,Tz,V,X,Y,reduceIte,sxk,G,H,sz]
  refine W.ret ⟨by simp,_,rfl,fun ρ w1 hb=>?_⟩
  rfl
theorem partID_spec (w:World) (p:Pt):Gives Tryz.prog 87 #[(ptq p)] w fun r _=>r=iv p.id:=by
 refine gives_of [.agg (ptw p)] 5 [.tmp 2] Tryz.func87 rfl rfl rfl (by simp) rfl rfl ?_
 refine W.pure dn fun K1 k1=>?_
 simp only[E,F,J,M,R,Tz,V,X,Y,reduceIte,G,H,sz];refine k1 _ ?_
 refine W.pure dn fun K2 k2=>?_
 simp only[E,F,J,M,R,Tz,V,X,Y,reduceIte,G,H,sz];refine k2 _ ?_
 refine W.ret ⟨by simp,_,rfl,fun ρ w1 hb=>?_⟩
 rfl
theorem ixclo_spec {w:World} {a b:Addr} {id:Int} (ha:At w a [.func (.func 87) #[] #[]]) (hb0:At w b [iv id]) (haz:a.block<w.heap.size) (hbz:b.block<w.heap.size) (p:Pt):Gives Tryz.prog 141 #[(ptq p),.pointer (some a),.pointer (some b)] w fun r _=>r=.bool (p.id == id):=by
 refine gives_of [.agg (ptw p),.val (.pointer (some a)),.val (.pointer (some b))] 10 [.tmp 4] Tryz.func141 rfl rfl rfl (by simp) rfl rfl ?_
 refine W.pure dn fun K1 k1=>?_
 simp only[E,F,J,M,R,Tz,V,X,Y,reduceIte,G,H,sz];refine k1 _ ?_
 refine W.seqK fun K2 k2=>?_
 refine W.regionQ mixed (by kernel_rfl) ?_
 refine WQ.q dn rfl rfl (QR.load [.func (.func 87) #[] #[]] false rfl rfl agg52 sz52 (.inr rfl) (fun ρ w1 hb=>ha.now (S:=fun _=>True) hb (by simp[St.put]) trivial haz)) ?_
 simp only[ofCells,sr]
 refine WQ.go 1 dn ?_
 simp only[E,F,J,M,R,Tz,V,X,Y,reduceIte,sxq,G,H,sz]
 refine WQ.call (iv p.id) dn rfl rfl rfl co87 (fun ρ w1 hb=>partID_spec w1 p) ?_
 simp only[E,F,J,M,R,Tz,V,X,Y,reduceIte,G,H,sz]
 refine WQ.q dn rfl rfl (QR.load [iv id] false rfl rfl agg3 sz3 (.inr rfl) (fun ρ w1 hb=>hb0.now (S:=fun _=>True) hb (by simp[St.put]) trivial hbz)) ?_
 simp only[ofCells,sr]
 refine WQ.go 2 dn ?_
 simp only[E,F,J,M,R,Tz,V,X,Y,reduceIte,sxq,G,H,sz]
 refine WQ.nil ?_
 refine k2 _ ?_
 refine W.ret ⟨by simp,_,rfl,fun ρ w1 hb=>?_⟩
 rfl
theorem sindex_spec {S:Nat→Prop} {w:World} {v:Value} {l:List Pt} {id:Int} {i:Nat} (hl:rPts.rd S w [v] l) (hi:fIx (fun y:Pt=>y.id == id) l=(i:Int)):Gives Tryz.prog 86 #[v,iv id,.func (.func 87) #[] #[]] w fun r _=>r=.tuple #[iv (i:Int),.bool true]:=by
 obtain⟨p,c,rfl,hc1,hc2⟩:=Rp.slice_val hl
 have hl:(Rp.slice rPt).rd (fun _=>True) w _ l:=Rp.any hl
 refine gives_of [.val (.slice p l.length c),wv id,.val (.func (.func 87) #[] #[])] 16 [.tmp 6,.tmp 7] Tryz.func86 rfl rfl rfl (by simp) rfl rfl ?_
 refine W.pure dn fun K1 k1=>?_
 simp only[E,F,J,M,R,Tz,V,X,Y,reduceIte,G,H,sz];refine k1 _ ?_
 refine W.seqK fun K2 k2=>W.region ?_
 refine WO.go 2 dn ?_
 simp only[E,F,J,M,R,Tz,V,X,Y,reduceIte,G,H,sz]
 refine WO.call (iv (i:Int)) dn rfl rfl rfl co89 (fun ρ w1 hb=>by
                              obtain⟨g1,g2⟩:=own_cells (k:=1) hb rfl 0
                              obtain⟨g3,g4⟩:=own_cells (k:=0) hb rfl 0
                              have h9:=indexPt_spec (Rp.now hl (hb.first (by simp[St.put]))) (fun y:Pt=>y.id == id) 141 #[.pointer (some ⟨ρ 1,0,none⟩),.pointer (some ⟨ρ 0,0,none⟩)] co141 fun w2 hk x hx=>ixclo_spec (g1.frame (hk.block _ trivial g2)) (g3.frame (hk.block _ trivial g4)) (Nat.lt_of_lt_of_le g2 hk.size) (Nat.lt_of_lt_of_le g4 hk.size) x
                              rw[hi] at h9
                              exact h9) ?_
 refine WO.go 1 dn ?_
 simp only[E,F,J,M,R,Tz,V,X,Y,reduceIte,G,H,sz]
 refine WO.nil ?_
 refine k2 _ ?_
 refine W.seqK fun K3 k3=>W.region ?_
 refine WO.go 1 dn ?_
 simp only[E,F,J,M,R,Tz,V,X,Y,reduceIte,G,H,sz]
 refine WO.max2 dn rfl rfl rfl rfl rfl ?_
 rw[if_neg (show ¬ (0:Int)>(i:Int) by omega)]
 refine WO.go 4 dn ?_
 simp only[E,F,J,M,R,Tz,V,X,Y,reduceIte,G,H,sz]
 refine WO.nil ?_
 refine k3 _ ?_
 refine W.ret ⟨by simp,_,rfl,fun ρ w1 hb=>?_⟩
 simp only[den]
 simp
 rfl
theorem part_ix {l:List Pt} (hnd:(l.map Pt.id).Nodup) {i:Nat} {p:Pt} (h:l[i]?=some p):fIx (fun y:Pt=>y.id == p.id) l=(i:Int):=by
 rw[fIx_ix];exact ix_get hnd (by rw[List.getElem?_map,h];rfl)
theorem sPart_spec {S:Nat→Prop} {w:World} {a:ScA} {s:Sc} (hN:GN w) (hs:ScR S w a s) (hok:ScOk s) {i:Nat} {p:Pt} (hp:s.parts[i]?=some p):Gives Tryz.prog 66 #[scV a s,iv p.id] w fun r _=>r=.tuple #[iv (i:Int),.bool true,iv 0]:=by
 have lb:(Rp.slice rBr).rd (fun _=>True) w _ s.bars:=Rp.any hs.b
 have lp:(Rp.slice rPt).rd (fun _=>True) w _ s.parts:=Rp.any hs.p
 have ln:(Rp.slice rNt).rd (fun _=>True) w _ s.notes:=Rp.any hs.n
 have hs9:=hs.any
 unfold scV
 refine gives_of [.agg (scw a s),wv p.id] 22 [.tmp 4,.tmp 5,.tmp 6] Tryz.func66 rfl rfl rfl (by simp) rfl rfl ?_
 refine W.pure dn fun K1 k1=>?_
 simp only[E,F,J,M,R,Tz,V,X,Y,reduceIte,G,H,sz];refine k1 _ ?_
 refine W.seqK fun K2 k2=>?_
 refine W.seqK fun K3 k3=>W.region ?_
 refine WO.go 2 dn ?_
 simp only[E,F,J,M,R,Tz,V,X,Y,reduceIte,G,H,sz]
 refine WO.call (.bool true) dn rfl rfl rfl co120 (fun ρ w1 hb=>asked_spec (a:=a) (hN.now (hb.first (by simp[St.put]))) (ScR.now hs9 (hb.first (by simp[St.put]))) hok p.id (hok.parts.all p (List.mem_of_getElem? hp)).id) ?_
 refine WO.go 1 dn ?_
 simp only[E,F,J,M,R,Tz,V,X,Y,reduceIte,G,H,sz]
 refine WO.nil ?_
 refine k3 _ ?_
 refine W.cond rfl rfl (fun hc=>?_) fun hc=>?_
 ·
  simp at hc
 ·
  refine W.skip (k2 _ ?_)
  refine W.seqK fun K4 k4=>W.region ?_
  refine WO.go 3 dn ?_
  simp only[E,F,J,M,R,Tz,V,X,Y,reduceIte,G,H,sz]
  refine WO.call (.tuple #[iv (i:Int),.bool true]) dn rfl rfl rfl co86 (fun ρ w1 hb=>sindex_spec (Rp.now lp (hb.first (by simp[St.put]))) (part_ix hok.parts.nd hp)) ?_
  refine WO.go 5 dn ?_
  simp only[E,F,J,M,R,Tz,V,X,Y,reduceIte,G,H,sz]
  refine WO.nil ?_
  refine k4 _ ?_
  refine W.pure dn fun K5 k5=>?_
  simp only[E,F,J,M,R,Tz,V,X,Y,reduceIte,G,H,sz];refine k5 _ ?_
  refine W.ret ⟨by simp,_,rfl,fun ρ w1 hb=>?_⟩
  rfl
abbrev D58_:List (Option Nat):=[some 11,some 12,some 13,some 14,some 15,some 16,some 17,some 18,some 19,some 20,some 21,some 22,some 23,some 24,some 25]
theorem sWith_spec {S S2:Nat→Prop} {w:World} {a:ScA} {s:Sc} {p:Option Addr} {c:Nat} {l:List Nt} {ver:Int} (hN:GN w) (hs:ScR S w a s) (hl:rNts.rd S2 w [.slice p l.length c] l) (hok:ScOk s) (hver:within 1 1000000 ver=true) (hln:NotesOk s.bars l) (hlo:∀ n,n∈l→OwnOk s.parts n):Gives Tryz.prog 30 #[scV a s,iv ver,.slice p l.length c] w fun r w'=>∃ z:ScA,r=.tuple #[scV z (withS s ver l),iv 0]∧ScR (fun b=>w.heap.size≤b) w' z (withS s ver l):=by
 have lb:(Rp.slice rBr).rd (fun _=>True) w _ s.bars:=Rp.any hs.b
 have lp:(Rp.slice rPt).rd (fun _=>True) w _ s.parts:=Rp.any hs.p
 have ln:(Rp.slice rNt).rd (fun _=>True) w _ s.notes:=Rp.any hs.n
 have hs9:=hs.any
 unfold scV
 have hl:(Rp.slice rNt).rd (fun _=>True) w _ l:=Rp.any hl
 refine gives_of [.agg (scw a s),wv ver,.val (.slice p l.length c)] 51 [.cell 6 26,.tmp 7] Tryz.func30 rfl rfl rfl (by simp) rfl rfl ?_
 refine W.pure dn fun K1 k1=>?_
 simp only[E,F,J,M,R,Tz,V,X,Y,reduceIte,G,H,sz];refine k1 _ ?_
 refine W.seqK fun K2 k2=>?_
 refine W.join 25 (.val (.bool false)) [1,2,3,6] (W.region ?_) ?_
 ·
  refine WO.go 1 (ds:=D58_) rfl ?_
  simp only[E,F,J,M,R,Tz,V,X,Y,reduceIte,G,H,sz]
  refine WO.call (.bool true) (ds:=D58_) rfl rfl rfl rfl co36 (fun ρ w1 hb=>sValid_spec (a:=a) (hN.now (hb.first (by simp[St.put]))) (ScR.now hs9 (hb.first (by simp[St.put]))) hok) ?_
  refine WO.go 3 (ds:=D58_) rfl ?_
  simp only[E,F,J,M,R,Tz,V,X,Y,reduceIte,G,H,sz]
  refine WO.call (.bool true) (ds:=D58_) rfl rfl rfl rfl co69 (fun ρ w1 hb=>by have h9:=sisID_spec w1 ver;rw[hver] at h9;exact h9) ?_
  refine WO.go 6 (ds:=D58_) rfl ?_
  simp only[E,F,J,M,R,Tz,V,X,Y,reduceIte,G,H,sz]
  refine WO.call (.bool true) (ds:=D58_) rfl rfl rfl rfl co70 (fun ρ w1 hb=>by have h9:=nValid_spec (Rp.now lb (hb.first (by simp[St.put]))) (Rp.now hl (hb.first (by simp[St.put]))) (hln).br (hln).len (fun n hn=>((hln).all n hn).a) (hln).nd;rw[pb_yes fun n hn=>((hln).all n hn).pit] at h9;exact h9) ?_
  refine WO.go 2 (ds:=D58_) rfl ?_
  simp only[E,F,J,M,R,Tz,V,X,Y,reduceIte,G,H,sz]
  refine WO.nil ?_
  refine⟨rfl,?_,⟨_,rfl⟩,by simp[Own.bnd,bndL,bnd,boxO],by simp⟩
  simp[getE,bnd,keepE]
 ·
  simp only[E,F,J,M,R,Tz,V,X,Y,reduceIte,sxk,G,H,sz]
  refine W.cond rfl rfl (fun hc=>?_) fun hc=>?_
  ·
   simp at hc
  ·
   refine W.skip (k2 _ ?_)
   refine W.seqK fun K4 k4=>?_
   refine W.seqK fun K5 k5=>W.region ?_
   refine WO.go 3 dn ?_
   simp only[E,F,J,M,R,Tz,V,X,Y,reduceIte,G,H,sz]
   refine WO.call (iv 0) dn rfl rfl rfl co71 (fun ρ w1 hb=>wrong_spec (hN.now (hb.first (by simp[St.put]))) (Rp.now lp (hb.first (by simp[St.put]))) (Rp.now hl (hb.first (by simp[St.put]))) hok.parts hlo fun n hn=>(hln.all n hn).pit) ?_
   refine WO.go 1 dn ?_
   simp only[E,F,J,M,R,Tz,V,X,Y,reduceIte,G,H,sz]
   refine WO.nil ?_
   refine k5 _ ?_
   refine W.pure dn fun K6 k6=>?_
   simp only[E,F,J,M,R,Tz,V,X,Y,reduceIte,G,H,sz];refine k6 _ ?_
   refine W.cond rfl rfl (fun hc=>?_) fun hc=>?_
   ·
    simp at hc
   ·
    refine W.skip (k4 _ ?_)
    refine W.seqK fun K7 k7=>W.region ?_
    refine WO.go 3 dn ?_
    simp only[E,F,J,M,R,Tz,V,X,Y,reduceIte,G,H,sz]
    refine WO.callO (fun x:Option Addr×Nat=>.tuple #[.slice x.1 (srt s.bars l).length x.2,iv 0]) (fun x=>.slice 89 12 (.slice x.1 (srt s.bars l).length x.2) (srt s.bars l).length (rowV ntV (srt s.bars l))) dn rfl rfl rfl co72 (fun _ _ _ h=>by cases h) (fun ρ w1 hb=>nSort_spec (hN.now (hb.first (by simp[St.put]))) (Rp.now lb (hb.first (by simp[St.put]))) (Rp.now hl (hb.first (by simp[St.put]))) hln) fun x=>?_
    obtain⟨q5,c5⟩:=x
    simp only[St.pushO]
    refine WO.go 5 dn ?_
    simp only[E,F,J,M,R,Tz,V,X,Y,reduceIte,G,H,sz]
    refine WO.nil ?_
    refine k7 _ ?_
    refine W.pin (k:=0) (scl a s) rfl (fun _=>rfl) (by rw[maxLen_eq];simp) fun b0=>?_
    simp only[pinE,pinS,pin1,den,denL,setN,Nat.zero_add,J,X,reduceIte,Nat.succ_ne_self,Nat.one_ne_zero]
    refine W.seqK fun K8 k8=>?_
    refine W.regionF [0,1,2,4,5,7] [3,6,8,9,10]  ([boxO 26 b0 (scl a s),.dead,.dead]) mixed (by kernel_rfl) rfl (by simp[keptL,boxO]) rfl (fun _ _ h=>h) ?_
    simp only[E,F,J,M,R,Tz,V,X,Y,reduceIte,sxt,List.toList_toArray,RunP,G,H,sz]
    refine WF.go rfl rfl rfl ?_
    simp only[E,F,J,M,R,Tz,V,X,Y,reduceIte,sxt,List.toList_toArray,RunP,G,H,sz]
    refine WF.go rfl rfl rfl ?_
    simp only[E,F,J,M,R,Tz,V,X,Y,reduceIte,sxt,List.toList_toArray,RunP,G,H,sz]
    refine WF.q rfl rfl (QR.load [.slice a.b.1 s.bars.length a.b.2] false rfl rfl agg22 sz22 (.inr rfl) (fun ρ w1 hb=>(box_at (k:=0) hb rfl).part 1 1)) ?_
    simp only[ofCells,sr]
    simp only[E,F,J,M,R,Tz,V,X,Y,reduceIte,sxt,List.toList_toArray,RunP,G,H,sz]
    refine WF.go rfl rfl rfl ?_
    simp only[E,F,J,M,R,Tz,V,X,Y,reduceIte,sxt,List.toList_toArray,RunP,G,H,sz]
    refine WF.q rfl rfl (QR.load [.slice a.p.1 s.parts.length a.p.2] false rfl rfl agg23 sz23 (.inr rfl) (fun ρ w1 hb=>(box_at (k:=0) hb rfl).part 2 1)) ?_
    simp only[ofCells,sr]
    simp only[E,F,J,M,R,Tz,V,X,Y,reduceIte,sxt,List.toList_toArray,RunP,G,H,sz]
    refine WF.go rfl rfl rfl ?_
    simp only[E,F,J,M,R,Tz,V,X,Y,reduceIte,sxt,List.toList_toArray,RunP,G,H,sz]
    refine WF.nil ?_
    simp only[E,F,J,M,R,Tz,V,X,Y,reduceIte,sxt,List.toList_toArray,RunP,G,H,sz]
    refine WC.one ?_
    refine WO.callO (fun x:Option Addr×Nat=>.slice x.1 s.bars.length x.2) (fun x=>.slice 75 4 (.slice x.1 (s.bars).length x.2) (s.bars).length (rowV brV (s.bars))) dn rfl rfl rfl co73 (fun _ _ _ h=>by cases h) (fun ρ w1 hb=>bclone_spec (Rp.now lb (hb.first (by simp[St.put]))) (by have:=hok.bars.len;omega)) fun x=>?_
    obtain⟨q75,c75⟩:=x
    simp only[St.pushO]
    simp only[E,F,J,M,R,Tz,V,X,Y,reduceIte,List.append_assoc,List.cons_append,List.nil_append,G,H,sz]
    with_reducible refine WC.next (by simp[keptL,boxO]) (by simp) ?_
    refine WC.one ?_
    refine WO.callO (fun x:Option Addr×Nat=>.slice x.1 s.parts.length x.2) (fun x=>.slice 50 13 (.slice x.1 (s.parts).length x.2) (s.parts).length (rowV ptV (s.parts))) dn rfl rfl rfl co74 (fun _ _ _ h=>by cases h) (fun ρ w1 hb=>pclone_spec (Rp.now lp (hb.first (by simp[St.put]))) (by have:=hok.parts.len;omega)) fun x=>?_
    obtain⟨q50,c50⟩:=x
    simp only[St.pushO]
    simp only[E,F,J,M,R,Tz,V,X,Y,reduceIte,List.append_assoc,List.cons_append,List.nil_append,G,H,sz]
    with_reducible refine WC.next (by simp[keptL,boxO]) (by simp) ?_
    refine WC.one ?_
    refine WO.go 1 dn ?_
    simp only[E,F,J,M,R,Tz,V,X,Y,reduceIte,List.append_assoc,List.cons_append,List.nil_append,G,H,sz]
    with_reducible refine WC.next (by simp[keptL,boxO]) (by simp) ?_
    refine WC.one ?_
    refine WO.go 1 dn ?_
    simp only[E,F,J,M,R,Tz,V,X,Y,reduceIte,List.append_assoc,List.cons_append,List.nil_append,G,H,sz]
    with_reducible refine WC.next (by simp[keptL,boxO]) (by simp) ?_
    refine WC.one ?_
    refine WO.go 1 dn ?_
    simp only[E,F,J,M,R,Tz,V,X,Y,reduceIte,List.append_assoc,List.cons_append,List.nil_append,G,H,sz]
    with_reducible refine WC.next (by simp[keptL,boxO]) (by simp) ?_
    with_reducible refine WC.nil ?_
    refine k8 _ ?_
    refine W.ret ?_
    refine⟨by simp,RunR.ex ?_⟩
    simp only[E,F,J,M,R,Tz,V,X,Y,reduceIte,sxr,G,H,sz]
    intro ρ w1 hb
    exact⟨⟨(q75,c75),(q50,c50),(q5,c5)⟩,rfl,⟨owr_read (S:=fun b=>w.heap.size≤b) (f:=brV) (k:=4) (T:=75) (h:=fun _=>rfl) (xs:=s.bars) (j:=3) hb rfl (fun b9 h9=>own_new (k:=3) hb (by simp) rfl h9),owr_read (S:=fun b=>w.heap.size≤b) (f:=ptV) (k:=13) (T:=50) (h:=fun _=>rfl) (xs:=s.parts) (j:=4) hb rfl (fun b9 h9=>own_new (k:=4) hb (by simp) rfl h9),owr_read (S:=fun b=>w.heap.size≤b) (f:=ntV) (k:=12) (T:=89) (h:=fun _=>rfl) (xs:=(srt s.bars l)) (j:=2) hb rfl (fun b9 h9=>own_new (k:=2) hb (by simp) rfl h9)⟩⟩
theorem vid_spec {w:World} {a:Addr} {id:Int} (ha:At w a [iv id]) (haz:a.block<w.heap.size) (p:Pt):Gives Tryz.prog 90 #[(ptq p),.pointer (some a)] w fun r _=>r=.bool (p.id == id):=by
 refine gives_of [.agg (ptw p),.val (.pointer (some a))] 8 [.tmp 3] Tryz.func90 rfl rfl rfl (by simp) rfl rfl ?_
 refine W.pure dn fun K1 k1=>?_
 simp only[E,F,J,M,R,Tz,V,X,Y,reduceIte,G,H,sz];refine k1 _ ?_
 refine W.seqK fun K2 k2=>W.region ?_
 refine WO.go 2 dn ?_
 simp only[E,F,J,M,R,Tz,V,X,Y,reduceIte,G,H,sz]
 refine WO.q dn rfl rfl (QR.load [iv id] false rfl rfl agg3 sz3 (.inr rfl) (fun ρ w1 hb=>ha.now (S:=fun _=>True) hb (by simp[St.put]) trivial haz)) ?_
 simp only[ofCells,sr]
 refine WO.go 2 dn ?_
 simp only[E,F,J,M,R,Tz,V,X,Y,reduceIte,G,H,sz]
 refine WO.nil ?_
 refine k2 _ ?_
 refine W.ret ⟨by simp,_,rfl,fun ρ w1 hb=>?_⟩
 rfl
theorem vfind_spec {S:Nat→Prop} {w:World} {a:ScA} {s:Sc} (hs:ScR S w a s) (hnd:(s.parts.map Pt.id).Nodup) {i:Nat} {pa:Pt} (hp:s.parts[i]?=some pa):Gives Tryz.prog 43 #[scV a s,iv pa.id] w fun r _=>r=.tuple #[(ptq pa),.bool true]:=by
 have lb:(Rp.slice rBr).rd (fun _=>True) w _ s.bars:=Rp.any hs.b
 have lp:(Rp.slice rPt).rd (fun _=>True) w _ s.parts:=Rp.any hs.p
 have ln:(Rp.slice rNt).rd (fun _=>True) w _ s.notes:=Rp.any hs.n
 have hs9:=hs.any
 unfold scV
 refine gives_of [.agg (scw a s),wv pa.id] 20 [.cell 4 112,.tmp 5] Tryz.func43 rfl rfl rfl (by simp) rfl rfl ?_
 refine W.pure dn fun K1 k1=>?_
 simp only[E,F,J,M,R,Tz,V,X,Y,reduceIte,G,H,sz];refine k1 _ ?_
 refine W.seqK fun K2 k2=>W.region ?_
 refine WO.go 3 dn ?_
 simp only[E,F,J,M,R,Tz,V,X,Y,reduceIte,G,H,sz]
 refine WO.call (iv (i:Int)) dn rfl rfl rfl co89 (fun ρ w1 hb=>by
                              obtain⟨g1,g2⟩:=own_cells (k:=1) hb rfl 0
                              have h9:=indexPt_spec (Rp.now lp (hb.first (by simp[St.put]))) (fun y:Pt=>y.id == pa.id) 90 #[.pointer (some ⟨ρ 1,0,none⟩)] co90 fun w2 hk x hx=>vid_spec (g1.frame (hk.block _ trivial g2)) (Nat.lt_of_lt_of_le g2 hk.size) x
                              rw[part_ix hnd hp] at h9
                              exact h9) ?_
 refine WO.go 1 dn ?_
 simp only[E,F,J,M,R,Tz,V,X,Y,reduceIte,G,H,sz]
 refine WO.nil ?_
 refine k2 _ ?_
 refine W.seqK fun K3 k3=>?_
 refine W.pure dn fun K4 k4=>?_
 simp only[E,F,J,M,R,Tz,V,X,Y,reduceIte,G,H,sz];refine k4 _ ?_
 refine W.cond rfl rfl (fun hc=>?_) fun hc=>?_
 ·
  (simp at hc;omega)
 ·
  refine W.skip (k3 _ ?_)
  refine W.seqK fun K5 k5=>W.region ?_
  refine WO.go 3 dn ?_
  simp only[E,F,J,M,R,Tz,V,X,Y,reduceIte,G,H,sz]
  refine WO.elem (y:=pa) lp (by simp[St.put]) dn rfl rfl (by simp[St.put]) (fun _=>rfl) rfl rfl rfl rfl rfl el23 agg50 sz50 (.inl rfl) (by omega) (hp) fun p ces hces=>?_
  have hces:ces=ptV pa:=hces
  subst hces
  simp only[ptV,ofCells,if_true,List.toList_toArray,sr]
  refine WO.go 3 dn ?_
  simp only[E,F,J,M,R,Tz,V,X,Y,reduceIte,G,H,sz]
  refine WO.nil ?_
  refine k5 _ ?_
  refine W.ret ?_
  refine⟨by simp,RunR.ex ?_⟩
  simp only[E,F,J,M,R,Tz,V,X,Y,reduceIte,sxr,G,H,sz]
  intro ρ w1 hb
  rfl
theorem vmeasure_spec {w:World} (hN:GN w) (p:Pt) (b:Br) (q:Option Addr) (n c:Nat):Gives Tryz.prog 61 #[(ptq p),.agg #[iv b.id,iv b.len.1,iv b.len.2,iv b.key],.slice q n c] w fun r _=>r=.agg #[iv b.id,iv (keyF p.sa p.sb p.low p.high b.key).1,iv b.len.1,iv b.len.2,.slice q n c]:=by
 refine gives_of [.agg (ptw p),.agg [wv b.id,wv b.len.1,wv b.len.2,wv b.key],.val (.slice q n c)] 24 [.cell 6 60] Tryz.func61 rfl rfl rfl (by simp) rfl rfl ?_
 refine W.pure dn fun K1 k1=>?_
 simp only[E,F,J,M,R,Tz,V,X,Y,reduceIte,G,H,sz];refine k1 _ ?_
 refine W.seqK fun K2 k2=>W.region ?_
 refine WO.go 4 dn ?_
 simp only[E,F,J,M,R,Tz,V,X,Y,reduceIte,G,H,sz]
 refine WO.call (.tuple #[iv (keyF p.sa p.sb p.low p.high b.key).1,iv (keyF p.sa p.sb p.low p.high b.key).2]) dn rfl rfl rfl co112 (fun ρ w1 hb=>ikey_spec (hN.now (hb.first (by simp[St.put]))) (p.id,p.sec,p.src,p.oct,p.desks) p.sa p.sb p.low p.high b.key) ?_
 refine WO.go 5 dn ?_
 simp only[E,F,J,M,R,Tz,V,X,Y,reduceIte,G,H,sz]
 refine WO.nil ?_
 refine k2 _ ?_
 refine W.pure dn fun K3 k3=>?_
 simp only[E,F,J,M,R,Tz,V,X,Y,reduceIte,G,H,sz];refine k3 _ ?_
 refine W.ret ?_
 refine⟨by simp,RunR.ex ?_⟩
 simp only[E,F,J,M,R,Tz,V,X,Y,reduceIte,sxr,G,H,sz]
 intro ρ w1 hb
 rfl
theorem vwritten_spec {w:World} (hN:GN w) (p:Pt) (b:Br) (n:Nt):Gives Tryz.prog 92 #[(ptq p),.agg #[iv b.id,iv b.len.1,iv b.len.2,iv b.key],(ntq n)] w fun r _=>r=.agg #[iv (wtOf p b.key n).id,iv (wtOf p b.key n).voice,iv (wtOf p b.key n).ossia,iv (wtOf p b.key n).start.1,iv (wtOf p b.key n).start.2,iv (wtOf p b.key n).len.1,iv (wtOf p b.key n).len.2,iv (wtOf p b.key n).pit.1,iv (wtOf p b.key n).pit.2.1,iv (wtOf p b.key n).pit.2.2]:=by
 refine gives_of [.agg (ptw p),.agg [wv b.id,wv b.len.1,wv b.len.2,wv b.key],.agg (ntw n)] 31 [.cell 6 62] Tryz.func92 rfl rfl rfl (by simp) rfl rfl ?_
 refine W.pure dn fun K1 k1=>?_
 simp only[E,F,J,M,R,Tz,V,X,Y,reduceIte,G,H,sz];refine k1 _ ?_
 refine W.seqK fun K2 k2=>W.region ?_
 refine WO.go 6 dn ?_
 simp only[E,F,J,M,R,Tz,V,X,Y,reduceIte,G,H,sz]
 refine WO.call (.tuple #[.agg #[iv (writeF p.sa p.sb p.low p.high b.key n.pit).1.1,iv (writeF p.sa p.sb p.low p.high b.key n.pit).1.2.1,iv (writeF p.sa p.sb p.low p.high b.key n.pit).1.2.2],iv (writeF p.sa p.sb p.low p.high b.key n.pit).2]) dn rfl rfl rfl co143 (fun ρ w1 hb=>iwrite_spec (hN.now (hb.first (by simp[St.put]))) (p.id,p.sec,p.src,p.oct,p.desks) p.sa p.sb p.low p.high b.key n.pit) ?_
 refine WO.go 6 dn ?_
 simp only[E,F,J,M,R,Tz,V,X,Y,reduceIte,G,H,sz]
 refine WO.nil ?_
 refine k2 _ ?_
 refine W.pure dn fun K3 k3=>?_
 simp only[E,F,J,M,R,Tz,V,X,Y,reduceIte,G,H,sz];refine k3 _ ?_
 refine W.ret ?_
 refine⟨by simp,RunR.ex ?_⟩
 simp only[E,F,J,M,R,Tz,V,X,Y,reduceIte,sxr,G,H,sz]
 intro ρ w1 hb
 rfl
theorem lfind_spec {S:Nat→Prop} {w:World} {a9:Addr} {a:ScA} {s:Sc} (hN:GN w) (ha:At w a9 (scl a s)) (haz:a9.block<w.heap.size) (hs:ScR S w a s) (hok:ScOk s) {i:Nat} {pa:Pt} (hp:s.parts[i]?=some pa):Gives Tryz.prog 65 #[iv pa.id,.pointer (some a9)] w fun r _=>r=(ptq pa):=by
 have lb:(Rp.slice rBr).rd (fun _=>True) w _ s.bars:=Rp.any hs.b
 have lp:(Rp.slice rPt).rd (fun _=>True) w _ s.parts:=Rp.any hs.p
 have ln:(Rp.slice rNt).rd (fun _=>True) w _ s.notes:=Rp.any hs.n
 have hs9:=hs.any
 refine gives_of [wv pa.id,.val (.pointer (some a9))] 19 [.cell 3 50] Tryz.func65 rfl rfl rfl (by simp) rfl rfl ?_
 refine W.pure dn fun K1 k1=>?_
 simp only[E,F,J,M,R,Tz,V,X,Y,reduceIte,G,H,sz];refine k1 _ ?_
 refine W.seqK fun K2 k2=>W.region ?_
 refine WO.q dn rfl rfl (QR.load (scl a s) true rfl rfl agg26 sz26 (.inl rfl) (fun ρ w1 hb=>ha.now (S:=fun _=>True) hb (by simp[St.put]) trivial haz)) ?_
 simp only[ofCells,sr]
 refine WO.go 1 dn ?_
 simp only[E,F,J,M,R,Tz,V,X,Y,reduceIte,G,H,sz]
 refine WO.call (.tuple #[iv (i:Int),.bool true,iv 0]) dn rfl rfl rfl co66 (fun ρ w1 hb=>sPart_spec (a:=a) (hN.now (hb.first (by simp[St.put]))) (ScR.now hs9 (hb.first (by simp[St.put]))) hok hp) ?_
 refine WO.go 7 dn ?_
 simp only[E,F,J,M,R,Tz,V,X,Y,reduceIte,G,H,sz]
 refine WO.nil ?_
 refine k2 _ ?_
 refine W.seqK fun K3 k3=>W.region ?_
 refine WO.go 1 dn ?_
 simp only[E,F,J,M,R,Tz,V,X,Y,reduceIte,G,H,sz]
 refine WO.q dn rfl rfl (QR.load [.slice a.p.1 s.parts.length a.p.2] false rfl rfl agg23 sz23 (.inr rfl) (fun ρ w1 hb=>(ha.part 2 1).now (S:=fun _=>True) hb (by simp[St.put]) trivial (by unfold Addr.add;split<;>exact haz))) ?_
 simp only[ofCells,sr]
 refine WO.go 1 dn ?_
 simp only[E,F,J,M,R,Tz,V,X,Y,reduceIte,G,H,sz]
 refine WO.elem (y:=pa) lp (by simp[St.put]) dn rfl rfl (by simp[St.put]) (fun _=>rfl) rfl rfl rfl rfl rfl el23 agg50 sz50 (.inl rfl) (by omega) (hp) fun p ces hces=>?_
 have hces:ces=ptV pa:=hces
 subst hces
 simp only[ptV,ofCells,if_true,List.toList_toArray,sr]
 refine WO.go 1 dn ?_
 simp only[E,F,J,M,R,Tz,V,X,Y,reduceIte,G,H,sz]
 refine WO.nil ?_
 refine k3 _ ?_
 refine W.ret ?_
 refine⟨by simp,RunR.ex ?_⟩
 simp only[E,F,J,M,R,Tz,V,X,Y,reduceIte,sxr,G,H,sz]
 intro ρ w1 hb
 rfl
abbrev D59_:List (Option Nat):=[some 8,some 9,some 10,some 11,some 12,some 13,some 14,some 15,some 6,none]
theorem newPlayer_spec {S:Nat→Prop} {w:World} {a:ScA} {s:Sc} (hN:GN w) (hs:ScR S w a s) (hok:ScOk s) {p o:Pt} (ho:Owner s p o):Gives Tryz.prog 27 #[scV a s,iv p.id] w fun r _=>r=.agg #[iv p.id,iv p.sec,iv p.src,iv p.oct,iv p.desks,iv p.sa,iv p.sb,iv p.low.1,iv p.low.2.1,iv p.low.2.2,iv p.high.1,iv p.high.2.1,iv p.high.2.2,iv s.ver,.slice a.b.1 s.bars.length a.b.2,.slice a.p.1 s.parts.length a.p.2,.slice a.n.1 s.notes.length a.n.2,iv o.id,iv o.sec,iv o.src,iv o.oct,iv o.desks,iv o.sa,iv o.sb,iv o.low.1,iv o.low.2.1,iv o.low.2.2,iv o.high.1,iv o.high.2.1,iv o.high.2.2]:=by
 have lb:(Rp.slice rBr).rd (fun _=>True) w _ s.bars:=Rp.any hs.b
 have lp:(Rp.slice rPt).rd (fun _=>True) w _ s.parts:=Rp.any hs.p
 have ln:(Rp.slice rNt).rd (fun _=>True) w _ s.notes:=Rp.any hs.n
 have hs9:=hs.any
 unfold scV
 obtain⟨i,hp⟩:=List.mem_iff_getElem?.1 ho.mp
 obtain⟨j,hj⟩:=List.mem_iff_getElem?.1 ho.mo
 refine gives_of [.agg (scw a s),wv p.id] 27 [.cell 4 80] Tryz.func27 rfl rfl rfl (by simp) rfl rfl ?_
 refine W.pure dn fun K1 k1=>?_
 simp only[E,F,J,M,R,Tz,V,X,Y,reduceIte,G,H,sz];refine k1 _ ?_
 refine W.pure dn fun K2 k2=>?_
 simp only[E,F,J,M,R,Tz,V,X,Y,reduceIte,G,H,sz];refine k2 _ ?_
 refine W.seqK fun K3 k3=>?_
 refine W.regionS (ds:=D59_) (tg:=[none,none,none,none,none,none,none,none,some 2,some 2]) [⟨[],[],[5],[2],none,false⟩,⟨[],[],[1],[2],none,false⟩,⟨[0,1],[0,1],[],[2],none,false⟩,⟨[],[],[2],[2],none,false⟩,⟨[],[],[5],[2],none,false⟩,⟨[],[],[1],[2],none,false⟩,⟨[0,1,2,4,5],[4,5],[],[2],none,false⟩,⟨[0,1,2,3,4,5,6],[2,3,6],[],[2],none,false⟩,⟨[],[],[],[],some 2,true⟩,⟨[0,1,2,3,4,5,6,7,8],[8,7],[],[],some 2,false⟩] 1 2 27 mixed rfl rfl (by kernel_rfl) (by kernel_rfl) ?_
 simp only[E,F,J,M,R,Tz,V,X,Y,reduceIte,sxs,G,H,sa,sz]
 refine WS.go rfl rfl rfl ?_
 simp only[E,F,J,M,R,Tz,V,X,Y,reduceIte,sxs,G,H,sa,sz]
 refine WS.go rfl rfl rfl ?_
 simp only[E,F,J,M,R,Tz,V,X,Y,reduceIte,sxs,G,H,sa,sz]
 refine WS.call (ptq p) rfl rfl rfl co65 (fun ρ w1 hb=>by
                              obtain⟨g1,g2⟩:=own_cells (k:=0) hb rfl 0
                              exact lfind_spec (a:=a) (hN.now (hb.first (by simp[stAt]))) g1 g2 (ScR.now hs9 (hb.first (by simp[stAt]))) hok hp) ?_
 simp only[E,F,J,M,R,Tz,V,X,Y,reduceIte,sxs,G,H,sa,sz]
 refine WS.go rfl rfl rfl ?_
 simp only[E,F,J,M,R,Tz,V,X,Y,reduceIte,sxs,G,H,sa,sz]
 refine WS.go rfl rfl rfl ?_
 simp only[E,F,J,M,R,Tz,V,X,Y,reduceIte,sxs,G,H,sa,sz]
 refine WS.go rfl rfl rfl ?_
 simp only[E,F,J,M,R,Tz,V,X,Y,reduceIte,sxs,G,H,sa,sz]
 refine WS.call (ptq p) rfl rfl rfl co65 (fun ρ w1 hb=>by
                              obtain⟨g1,g2⟩:=own_cells (k:=0) hb rfl 0
                              exact lfind_spec (a:=a) (hN.now (hb.first (by simp[stAt]))) g1 g2 (ScR.now hs9 (hb.first (by simp[stAt]))) hok hp) ?_
 simp only[E,F,J,M,R,Tz,V,X,Y,reduceIte,sxs,G,H,sa,sz]
 refine WS.go rfl rfl rfl ?_
 simp only[E,F,J,M,R,Tz,V,X,Y,reduceIte,sxs,G,H,sa,sz]
 refine WS.alloc rfl rfl ze80 rfl rfl ?_
 simp only[E,F,J,M,R,Tz,V,X,Y,reduceIte,sxs,G,H,sa,sz]
 refine WS.store rfl rfl rfl rfl rfl rfl rfl sz80 (Nat.le_of_ble_eq_true rfl) rfl ?_
 simp only[E,F,J,M,R,Tz,V,X,Y,reduceIte,sxs,G,H,sa,sz]
 refine WS.nil [0,1,2,3,4,5,6,7,8,9] rfl rfl ?_
 simp only[E,F,J,M,R,Tz,V,X,Y,reduceIte,sxs,G,H,sa,sz]
 refine k3 _ ?_
 refine W.seqK fun K4 k4=>?_
 refine W.pure dn fun K5 k5=>?_
 simp only[E,F,J,M,R,Tz,V,X,Y,reduceIte,G,H,sz];refine k5 _ ?_
 refine W.cond rfl rfl (fun hc=>?_) fun hc=>?_
 ·
  have h0:¬ p.src=0:=by simpa using hc
  have hid:o.id=p.src:=by rw[ho.id];unfold srcOf;rw[if_neg h0]
  simp only[← hid]
  refine W.region ?_
  refine WO.go 4 dn ?_
  simp only[E,F,J,M,R,Tz,V,X,Y,reduceIte,G,H,sz]
  refine WO.call (ptq o) dn rfl rfl rfl co65 (fun ρ w1 hb
                              => by
                              obtain⟨g1,g2⟩:=own_cells (k:=0) hb rfl 0
                              exact lfind_spec (a:=a) (hN.now (hb.first (by simp[St.put]))) g1 g2 (ScR.now hs9 (hb.first (by simp[St.put]))) hok hj) ?_
  refine WO.go 2 dn ?_
  simp only[E,F,J,M,R,Tz,V,X,Y,reduceIte,G,H,sz]
  refine WO.nil ?_
  refine k4 _ ?_
  refine W.pure dn fun K6 k6=>?_
  simp only[E,F,J,M,R,Tz,V,X,Y,reduceIte,G,H,sz];refine k6 _ ?_
  refine W.ret ?_
  refine⟨by simp,RunR.ex ?_⟩
  simp only[E,F,J,M,R,Tz,V,X,Y,reduceIte,sxr,G,H,sz]
  intro ρ w1 hb
  simp only[hid]
  rfl
 ·
  have h0:p.src=0:=by simpa using hc
  have hid:o.id=p.id:=by rw[ho.id];unfold srcOf;rw[if_pos h0]
  obtain rfl:p=o:=(part_inj hok ho.mo ho.mp hid).symm
  refine W.skip (k4 _ ?_)
  refine W.pure dn fun K7 k7=>?_
  simp only[E,F,J,M,R,Tz,V,X,Y,reduceIte,G,H,sz];refine k7 _ ?_
  refine W.ret ?_
  refine⟨by simp,RunR.ex ?_⟩
  simp only[E,F,J,M,R,Tz,V,X,Y,reduceIte,sxr,G,H,sz]
  intro ρ w1 hb
  rfl
theorem allW_nd {l:List Ms} (h:((allW l).map Wt.id).Nodup) {i:Nat} {m:Ms} (hm:l[i]?=some m) {k:Nat} {y:Wt} (hy:m.notes[k]?=some y):y.id∉(kvOf Wt.id trueV (allW (l.take i)++m.notes.take k)).map (·.1):=by
 rw[kv_keys]
 have h1:allW l=allW (l.take i)++(m.notes++allW (l.drop (i+1))):=by
  rw[← List.append_assoc,← allW_step hm]
  unfold allW
  rw[← List.flatMap_append,List.take_append_drop]
 have h2:m.notes=m.notes.take k++(y::m.notes.drop (k+1)):=by
  obtain⟨hk,he⟩:=List.getElem?_eq_some_iff.1 hy
  conv=>lhs;rw[← List.take_append_drop k m.notes]
  rw[← List.getElem_cons_drop hk,he]
 have h3:allW l=(allW (l.take i)++m.notes.take k)++(y::(m.notes.drop (k+1)++allW (l.drop (i+1)))):=by
  rw[h1]
  conv=>lhs;rw[h2]
  simp
 rw[h3,List.map_append,List.nodup_append] at h
 intro hc
 exact h.2.2 _ hc y.id (by simp) rfl
theorem take_all {l:List Ms}:allW (l.take l.length)=allW l:=by rw[List.take_length]
theorem wlen_step {l:List Ms} {i:Nat} {m:Ms} (h:l[i]?=some m):(allW (l.take (i+1))).length=(allW (l.take i)).length+m.notes.length:=by rw[allW_step h,List.length_append]
theorem wlen_le (l:List Ms) (i:Nat):(allW (l.take i)).length≤(allW l).length:=by
 conv=>rhs;rw[← List.take_append_drop i l]
 unfold allW
 rw[List.flatMap_append,List.length_append];omega
abbrev D61_:List (Option Nat):=[some 51,some 52,some 53,some 54,some 55,some 56,some 57,some 58,some 59,some 60,some 61,some 62,some 63,some 64,some 65,some 66,some 67,some 68,some 69,some 70,some 71,some 72,some 73,some 74,some 75]
abbrev D60_:List (Option Nat):=[some 44,some 45,some 46,some 47,some 48,some 49,some 50,some 11,none]
abbrev D62_:List (Option Nat):=[some 98,some 99,some 100,some 101,some 102,some 103,some 104,some 105,some 4]
theorem vValid_spec {S S2:Nat→Prop} {w:World} {a:ScA} {z:Sl} {s:Sc} {v:Vw} (hN:GN w) (hs:ScR S w a s) (hl:rMss.rd S2 w [.slice z.1 v.ms.length z.2] v.ms) (hv:VwOk s v):Gives Tryz.prog 26 #[scV a s,vwV z v] w fun r _=>r=.bool true:=by
 have lb:(Rp.slice rBr).rd (fun _=>True) w _ s.bars:=Rp.any hs.b
 have lp:(Rp.slice rPt).rd (fun _=>True) w _ s.parts:=Rp.any hs.p
 have ln:(Rp.slice rNt).rd (fun _=>True) w _ s.notes:=Rp.any hs.n
 have hs9:=hs.any
 unfold scV
 unfold vwV
 obtain⟨z1,z2⟩:=z
 have hl:(Rp.slice rMs).rd (fun _=>True) w _ v.ms:=Rp.any hl
 obtain⟨_,_,hq,hc1,hc2⟩:=Rp.slice_val hl
 obtain⟨_,_,_⟩:=(Value.slice.injEq _ _ _ _ _ _).mp hq
 obtain⟨pa,hpm,hpi,hmsk⟩:=hv.ms
 obtain⟨ip,hip⟩:=List.mem_iff_getElem?.1 hpm
 have hok:=hv.sc
 have hfew:=hv.few
 have hvl:=hv.len
 have hbl:=hok.bars.len
 refine gives_of [.agg (scw a s),.agg [wv v.part,.val (.slice z1 v.ms.length z2)]] 106 [.tmp 4] Tryz.func26 rfl rfl rfl (by simp) rfl rfl ?_
 refine W.pure dn fun K1 k1=>?_
 simp only[E,F,J,M,R,Tz,V,X,Y,reduceIte,G,H,sz];refine k1 _ ?_
 refine W.seqK fun K2 k2=>?_
 refine W.join 25 (.val (.bool false)) [2,3] (W.region ?_) ?_
 ·
  refine WO.go 1 (ds:=D32_) rfl ?_
  simp only[E,F,J,M,R,Tz,V,X,Y,reduceIte,G,H,sz]
  refine WO.call (.bool true) (ds:=D32_) rfl rfl rfl rfl co36 (fun ρ w1 hb=>sValid_spec (a:=a) (hN.now (hb.first (by simp[St.put]))) (ScR.now hs9 (hb.first (by simp[St.put]))) hok) ?_
  refine WO.go 10 (ds:=D32_) rfl ?_
  simp only[E,F,J,M,R,Tz,V,X,Y,reduceIte,G,H,sz]
  refine WO.nil ?_
  refine⟨rfl,?_,⟨_,rfl⟩,by simp[Own.bnd,bndL,bnd,boxO],by simp⟩
  simp[getE,bnd,keepE,hvl]
 ·
  simp only[E,F,J,M,R,Tz,V,X,Y,reduceIte,sxk,G,H,sz]
  refine W.cond rfl rfl (fun hc=>?_) fun hc=>?_
  ·
   simp at hc
  ·
   refine W.skip (k2 _ ?_)
   refine W.seqK fun K4 k4=>W.region ?_
   refine WO.go 3 dn ?_
   simp only[E,F,J,M,R,Tz,V,X,Y,reduceIte,G,H,sz]
   refine WO.call (.tuple #[(ptq pa),.bool true]) dn rfl rfl rfl co43 (fun ρ w1 hb=>by rw[← hpi];exact vfind_spec (a:=a) (ScR.now hs9 (hb.first (by simp[St.put]))) hok.parts.nd hip) ?_
   refine WO.go 6 dn ?_
   simp only[E,F,J,M,R,Tz,V,X,Y,reduceIte,G,H,sz]
   refine WO.nil ?_
   refine k4 _ ?_
   refine W.seqK fun K5 k5=>?_
   refine W.pure dn fun K6 k6=>?_
   simp only[E,F,J,M,R,Tz,V,X,Y,reduceIte,G,H,sz];refine k6 _ ?_
   refine W.cond rfl rfl (fun hc=>?_) fun hc=>?_
   ·
    simp at hc
   ·
    refine W.skip (k5 _ ?_)
    refine W.seqK fun K7 k7=>W.region ?_
    refine WO.makeV dn rfl rfl rfl fun r=>?_
    simp only[St.pushO]
    refine WO.go 1 dn ?_
    simp only[E,F,J,M,R,Tz,V,X,Y,reduceIte,G,H,sz]
    refine WO.nil ?_
    refine k7 _ ?_
    refine W.pure dn fun K8 k8=>?_
    simp only[E,F,J,M,R,Tz,V,X,Y,reduceIte,G,H,sz];refine k8 _ ?_
    refine W.seqK fun K9 k9=>?_
    refine W.pure dn fun K10 k10=>?_
    simp only[E,F,J,M,R,Tz,V,X,Y,reduceIte,G,H,sz];refine k10 _ ?_
    refine W.block ?_
    refine W.loopO (X:=Nat) [2,5,7,37,38] (fun x=>[(8,wv ((allW (v.ms.take x)).length:Int)),(39,wv (x:Int))]) (fun x=>[.cells 26 (scw a s),.cells 29 [wv v.part,.val (.slice z1 v.ms.length z2)],.cells 112 (ptw pa),.map r (vmE (kvOf Wt.id trueV (allW (v.ms.take x)))) (kvOf Wt.id trueV (allW (v.ms.take x))).length]) (fun x=>[((fun _=>True),w)]) (fun x=>x≤v.ms.length) (fun x=>v.ms.length - x) 0 ?_ ?_ ?_
    · exact⟨rfl,by simp[getE,bnd,keepE,allW],⟨[],by simp[kvOf,allW]⟩,by simp[Own.bnd,bndL,bnd,boxO],by simp⟩
    ·
     exact Nat.zero_le _
    ·
     rintro i hi
     simp only[E,F,J,M,R,Tz,V,X,Y,reduceIte,sxk,G,H,sz]
     refine W.pure dn fun K11 k11=>?_
     simp only[E,F,J,M,R,Tz,V,X,Y,reduceIte,G,H,sz];refine k11 _ ?_
     refine W.seqK fun K12 k12=>?_
     refine W.cond rfl rfl (fun hc=>?_) fun hc=>?_
     ·
      have hlt:i<v.ms.length:=by simpa using hc
      obtain⟨y,hy⟩:=len_lt (rfl:v.ms.length=_) hlt
      obtain⟨b,hbi⟩:=len_lt (rfl:s.bars.length=_) (show i<s.bars.length by rw[← hv.len];exact hlt)
      have hform:=hv.form y (List.mem_of_getElem? hy)
      have hord:=hv.ord y (List.mem_of_getElem? hy)
      have hnd:=fun {k:Nat} {u:Wt} (h:y.notes[k]?=some u)=>allW_nd hv.nd hy h
      have hst:=wlen_step hy
      have hsteq:=allW_step hy
      have hle2:=wlen_le v.ms (i+1)
      have hmo:=hmsk i y b hy hbi
      obtain⟨yb,yk,yl,ns⟩:=y
      obtain⟨e1,e2,e3⟩:=hmo
      simp only at e1 e2 e3 hform hord hst hsteq hnd
      subst e1 e2 e3
      have hbm:=List.mem_of_getElem? hbi
      have hww:IntKind.i64.wrap (((allW (v.ms.take i)).length:Int)+(ns.length:Int))=((allW (v.ms.take (i+1))).length:Int):=by rw[wrap_id (by omega) (by omega)];omega
      refine W.skip (k12 _ ?_)
      refine W.seqK fun K13 k13=>?_
      refine W.block ?_
      refine W.seqK fun K14 k14=>W.region ?_
      refine WO.go 1 dn ?_
      simp only[E,F,J,M,R,Tz,V,X,Y,reduceIte,G,H,sz]
      refine WO.elem (y:=_) hl (by simp[St.put]) dn rfl rfl (by simp[St.put]) (fun _=>rfl) rfl rfl rfl rfl rfl el27 agg60 sz60 (.inl rfl) (by omega) (hy) fun p ces hces=>?_
      obtain⟨p9,c9,rfl,hwr⟩:=rMs_open hces
      clear hces
      simp only at hwr
      simp only[ofCells,sr]
      refine WO.go 3 dn ?_
      simp only[E,F,J,M,R,Tz,V,X,Y,reduceIte,G,H,sz]
      refine WO.nil ?_
      refine k14 _ ?_
      refine W.seqK fun K15 k15=>?_
      refine W.regionS (ds:=D60_) (tg:=[none,none,none,none,none,none,none,some 5,some 5]) [⟨[],[],[5],[5],none,false⟩,⟨[],[],[2],[5],none,false⟩,⟨[1],[1],[],[5],none,false⟩,⟨[],[],[9],[5],none,false⟩,⟨[1,2,3],[2,3],[],[5],none,false⟩,⟨[1,2,3,4],[4],[],[5],none,false⟩,⟨[0,1,2,3,4,5],[0,5],[],[5],none,false⟩,⟨[],[],[],[],some 5,true⟩,⟨[0,1,2,3,4,5,6,7],[7,6],[],[],some 5,false⟩] 1 5 106 mixed rfl rfl (by kernel_rfl) (by kernel_rfl) ?_
      simp only[E,F,J,M,R,Tz,V,X,Y,reduceIte,sxs,G,H,sa,sz]
      refine WS.go rfl rfl rfl ?_
      simp only[E,F,J,M,R,Tz,V,X,Y,reduceIte,sxs,G,H,sa,sz]
      refine WS.go rfl rfl rfl ?_
      simp only[E,F,J,M,R,Tz,V,X,Y,reduceIte,sxs,G,H,sa,sz]
      refine WS.go rfl rfl rfl ?_
      simp only[E,F,J,M,R,Tz,V,X,Y,reduceIte,sxs,G,H,sa,sz]
      refine WS.go rfl rfl rfl ?_
      simp only[E,F,J,M,R,Tz,V,X,Y,reduceIte,sxs,G,H,sa,sz]
      refine WS.elem (y:=b) lb (by simp) rfl rfl (fun _=>rfl) rfl rfl rfl (fun _=>rfl) rfl rfl el22 agg75 sz75 (.inl rfl) (by omega) (hbi) fun p ces hces=>?_
      have hces:ces=brV b:=hces
      subst hces
      simp only[brV,ofCells,if_true,List.toList_toArray,sr]
      simp only[E,F,J,M,R,Tz,V,X,Y,reduceIte,sxs,G,H,sa,sz]
      refine WS.call (.agg #[iv b.id,iv (keyF pa.sa pa.sb pa.low pa.high b.key).1,iv b.len.1,iv b.len.2,.slice none 0 0]) rfl rfl rfl co61 (fun ρ w1 hb=>vmeasure_spec (hN.now (hb.first (by simp[stAt]))) pa b none 0 0) ?_
      simp only[E,F,J,M,R,Tz,V,X,Y,reduceIte,sxs,G,H,sa,sz]
      refine WS.alloc rfl rfl ze60 rfl rfl ?_
      simp only[E,F,J,M,R,Tz,V,X,Y,reduceIte,sxs,G,H,sa,sz]
      refine WS.store rfl rfl rfl rfl rfl rfl rfl sz60 (Nat.le_of_ble_eq_true rfl) rfl ?_
      simp only[E,F,J,M,R,Tz,V,X,Y,reduceIte,sxs,G,H,sa,sz]
      refine WS.nil [0,1,2,3,4,5,6,7,8] rfl rfl ?_
      simp only[E,F,J,M,R,Tz,V,X,Y,reduceIte,sxs,G,H,sa,sz]
      refine k15 _ ?_
      refine W.seqK fun K16 k16=>?_
      refine W.join 75 (.val (.bool false)) [2,5,7,8,10,37,38,39] (W.region ?_) ?_
      ·
       refine WO.go 17 (ds:=D61_) rfl ?_
       simp only[E,F,J,M,R,Tz,V,X,Y,reduceIte,G,H,sz]
       refine WO.aggCmp [b.len.1,b.len.2] [b.len.1,b.len.2] (ds:=D61_) rfl rfl rfl rfl ⟨_,rfl,fun _=>rfl⟩ ⟨_,rfl,fun _=>rfl⟩ it57 rfl rfl rfl ?_
       refine WO.go 4 (ds:=D61_) rfl ?_
       simp only[E,F,J,M,R,Tz,V,X,Y,reduceIte,G,H,sz]
       refine WO.call (.bool true) (ds:=D61_) rfl rfl rfl rfl co62 (fun ρ w1 hb=>isSorted_spec (hN.now (hb.first (by simp[St.put]))) (Rp.now hwr (hb.first (by simp[St.put]))) hord fun n hn=>⟨(formA_of (hform n hn)).pit,(formA_of (hform n hn)).start⟩) ?_
       refine WO.go 2 (ds:=D61_) rfl ?_
       simp only[E,F,J,M,R,Tz,V,X,Y,reduceIte,G,H,sz]
       refine WO.nil ?_
       refine⟨rfl,?_,⟨_,rfl⟩,by simp[Own.bnd,bndL,bnd,boxO],by simp⟩
       simp[getE,bnd,keepE]
      ·
       simp only[E,F,J,M,R,Tz,V,X,Y,reduceIte,sxk,G,H,sz]
       refine W.cond rfl rfl (fun hc=>?_) fun hc=>?_
       ·
        simp at hc
       ·
        refine W.skip (k16 _ ?_)
        refine W.seqK fun K18 k18=>?_
        refine W.pure dn fun K19 k19=>?_
        simp only[E,F,J,M,R,Tz,V,X,Y,reduceIte,G,H,sz];refine k19 _ ?_
        refine W.block ?_
        refine W.loopO (X:=Nat) [2,5,7,8,10,37,38,39,77,78] (fun x=>[(79,wv (x:Int))]) (fun x=>[.cells 26 (scw a s),.cells 29 [wv v.part,.val (.slice z1 v.ms.length z2)],.cells 112 (ptw pa),.map r (vmE (kvOf Wt.id trueV (allW (v.ms.take i)++ns.take x))) (kvOf Wt.id trueV (allW (v.ms.take i)++ns.take x)).length,.cells 60 [wv b.id,.val (iv (keyF pa.sa pa.sb pa.low pa.high b.key).1),wv b.len.1,wv b.len.2,.val (.slice p9 ns.length c9)],.cells 60 [wv b.id,.val (iv (keyF pa.sa pa.sb pa.low pa.high b.key).1),wv b.len.1,wv b.len.2,.val (.slice none 0 0)]]) (fun x=>[((fun _=>True),w)]) (fun x=>x≤ns.length) (fun x=>ns.length - x) 0 ?_ ?_ ?_
        · exact⟨rfl,by simp[getE,bnd,keepE],⟨[],by simp[kvOf,allW]⟩,by simp[Own.bnd,bndL,bnd,boxO],by simp⟩
        ·
         exact Nat.zero_le _
        ·
         rintro k hk
         simp only[E,F,J,M,R,Tz,V,X,Y,reduceIte,sxk,G,H,sz]
         refine W.pure dn fun K20 k20=>?_
         simp only[E,F,J,M,R,Tz,V,X,Y,reduceIte,G,H,sz];refine k20 _ ?_
         refine W.seqK fun K21 k21=>?_
         refine W.cond rfl rfl (fun hc=>?_) fun hc=>?_
         ·
          have hlk:k<ns.length:=by simpa using hc
          obtain⟨u,hu⟩:=len_lt (rfl:ns.length=_) hlk
          have hum:=List.mem_of_getElem? hu
          refine W.skip (k21 _ ?_)
          refine W.seqK fun K22 k22=>?_
          refine W.block ?_
          refine W.seqK fun K23 k23=>W.region ?_
          refine WO.elem (y:=u) hwr (by simp[St.put]) dn rfl rfl (by simp[St.put]) (fun _=>rfl) rfl rfl rfl rfl rfl el58 agg62 sz62 (.inl rfl) (by omega) (hu) fun p ces hces=>?_
          have hces:ces=wtV u:=hces
          subst hces
          simp only[wtV,ofCells,if_true,List.toList_toArray,sr]
          refine WO.go 2 dn ?_
          simp only[E,F,J,M,R,Tz,V,X,Y,reduceIte,G,H,sz]
          refine WO.nil ?_
          refine k23 _ ?_
          refine W.seqK fun K24 k24=>?_
          refine W.seqK fun K25 k25=>W.region ?_
          refine WO.go 3 dn ?_
          simp only[E,F,J,M,R,Tz,V,X,Y,reduceIte,G,H,sz]
          refine WO.call (.bool true) dn rfl rfl rfl co64 (fun ρ w1 hb=>vformed_spec w1 u b.len (formA_of (hform u hum)) (hok.bars.all b hbm).t) ?_
          refine WO.go 1 dn ?_
          simp only[E,F,J,M,R,Tz,V,X,Y,reduceIte,G,H,sz]
          refine WO.nil ?_
          refine k25 _ ?_
          refine W.cond rfl rfl (fun hc=>?_) fun hc=>?_
          ·
           simp at hc
          ·
           refine W.skip (k24 _ ?_)
           refine W.region ?_
           refine WO.go 3 dn ?_
           simp only[E,F,J,M,R,Tz,V,X,Y,reduceIte,G,H,sz]
           refine WO.addV (k:=3) (ks:=(kvOf Wt.id trueV (allW (v.ms.take i)++ns.take k))) (trueV u) dn rfl rfl rfl rfl rfl rfl ⟨_,rfl,fun _=>rfl⟩ (by kernel_rfl) (hnd hu) ?_
           rw[← show(kvOf Wt.id trueV (allW (v.ms.take i)++ns.take (k+1)))=(kvOf Wt.id trueV (allW (v.ms.take i)++ns.take k))++[(u.id,trueV u)] from by rw[List.take_add_one,hu,← List.append_assoc];exact kv_snoc _ _ _ u]
           simp only[E,F,J,M,R,Tz,V,X,Y,reduceIte,G,H,sz]
           refine WO.nil ?_
           refine k22 _ ?_
           refine W.region ?_
           refine WO.go 2 dn ?_
           simp only[E,F,J,M,R,Tz,V,X,Y,reduceIte,G,H,sz]
           refine WO.nil ?_
           refine⟨k+1,hlk,by omega,rfl,by simp[getE,bnd,keepE,wrap_succ (show k+1≤9223372036854775807 by omega)],⟨_,rfl⟩,by simp[Own.bnd,bndL,bnd],by simp⟩
         ·
          have hgk:ns.length≤k:=by simpa using hc
          rw[show allW (v.ms.take i)++ns.take k=allW (v.ms.take (i+1)) from by rw[List.take_of_length_le hgk,hsteq]]
          refine W.exit (k18 _ ?_)
          refine W.region ?_
          refine WO.go 6 dn ?_
          simp only[E,F,J,M,R,Tz,V,X,Y,reduceIte,G,H,hww,sz]
          refine WO.nil ?_
          refine k13 _ ?_
          refine W.region ?_
          refine WO.go 2 dn ?_
          simp only[E,F,J,M,R,Tz,V,X,Y,reduceIte,G,H,hww,sz]
          refine WO.nil ?_
          refine⟨i+1,hlt,by omega,rfl,by simp[getE,bnd,keepE,wrap_succ (show i+1≤9223372036854775807 by omega)],⟨_,rfl⟩,by simp[Own.bnd,bndL,bnd],by simp⟩
     ·
      have hge0:v.ms.length≤i:=by simpa using hc
      obtain rfl:i=v.ms.length:=by omega
      rw[take_all]
      refine W.exit (k9 _ ?_)
      refine W.join 4 (.val (.bool true)) [] (W.region ?_) ?_
      ·
       refine WO.go 3 (ds:=D62_) rfl ?_
       simp only[E,F,J,M,R,Tz,V,X,Y,reduceIte,G,H,sz]
       refine WO.cases 100 _ rfl (fun hg100=>?_) fun hg100=>?_
       ·
        refine WO.go 1 (ds:=D62_) rfl ?_
        simp only[E,F,J,M,R,Tz,V,X,Y,reduceIte,G,H,sz]
        refine WO.q (ds:=D62_) rfl rfl rfl (QR.lenMap (r:=r) (ks:=(kvOf Wt.id trueV (allW v.ms))) rfl rfl (fun ρ w1 hb=>own_map hb (k:=3) rfl) (by kernel_rfl)) ?_
        rw[kv_len]
        refine WO.go 4 (ds:=D62_) rfl ?_
        simp only[E,F,J,M,R,Tz,V,X,Y,reduceIte,G,H,sz]
        refine WO.nil ?_
        refine⟨rfl,?_,⟨_,rfl⟩,by simp[Own.bnd,bndL,bnd,boxO],by simp⟩
        simp[getE,bnd,keepE]
       ·
        simp at hg100;omega
      ·
       simp only[E,F,J,M,R,Tz,V,X,Y,reduceIte,sxk,G,H,sz]
       refine W.ret ⟨by simp,_,rfl,fun ρ w1 hb=>?_⟩
       rfl
theorem snd_valid {a b k:Int} {lo hi c:Pit} (h:(soundF a b lo hi k c).2=0):validP (soundF a b lo hi k c).1=true:=by
 cases hq:okI a b lo hi k && validP c with
 |
  true=>
  rw[soundF_yes hq] at h ⊢
  exact(addF_ok (q:=(addF c (-(mvI a b k).2.1) (-(mvI a b k).2.2)).1) (by rw[← h])).2.2.1
 | false=>rw[soundF_no hq] at h;simp at h
theorem sndN_yes {p:Pt} {k:Int} {q:Pit} (h:(soundF p.sa p.sb p.low p.high k q).2=0):sndN p k q=((soundF p.sa p.sb p.low p.high k q).1.1,(soundF p.sa p.sb p.low p.high k q).1.2.1,(soundF p.sa p.sb p.low p.high k q).1.2.2 - p.oct):=if_pos h
theorem sndN_no {p:Pt} {k:Int} {q:Pit} (h:¬ (soundF p.sa p.sb p.low p.high k q).2=0):sndN p k q=(soundF p.sa p.sb p.low p.high k q).1:=if_neg h
noncomputable def inB (o:Pt) (q:Pit):Bool:=isNoteP q && (decide (numF o.low≤numF q) && decide (numF q≤numF o.high))
noncomputable def okB (p o:Pt) (b:Br) (w:Wt):Bool:=decide ((soundF p.sa p.sb p.low p.high b.key w.pit).2=0) && inB o (sndN p b.key w.pit)
theorem okB_iff {p o:Pt} {b:Br} {w:Wt}:okB p o b w=true↔OkN p o b w:=by
 unfold okB inB
 simp only[Bool.and_eq_true,decide_eq_true_eq]
 exact⟨fun⟨h1,h2,h3,h4⟩=>⟨h1,h2,h3,h4⟩,fun h=>⟨h.snd,h.is,h.lo,h.hi⟩⟩
theorem lit_nt {ρ:Nat→Nat} {σ:St} {w:World} {k T:Nat} {cs:List SV} {n:Nt} {S:Nat→Prop} (hb:Base ρ σ w) (hk:nth σ.own k=some (.cells T cs)) (hcs:denL ρ cs=ntV n) (hS:S (ρ k)):rNts.rd S w [.slice (some ⟨ρ k,0,none⟩) 1 1] [n]:=by
 obtain⟨h1,h2⟩:=own_cells hb hk 0
 rw[hcs] at h1
 refine Rp.slice_mk (ntV n) rfl (Nat.le_refl _) (by omega) hS h2 h1 fun i y hy=>?_
 cases i with
 | zero=>simp only[List.getElem?_cons_zero,Option.some.injEq] at hy;subst hy;rfl
 | succ i=>simp at hy
theorem pb_one {n:Nt}:pb (∀ m,m∈[n]→isNoteP m.pit=true)=isNoteP n.pit:=by
 cases h:isNoteP n.pit with
 | true=>exact pb_yes fun m hm=>by rw[List.mem_singleton.1 hm];exact h
 | false=>exact pb_no fun hc=>by have:=hc n (by simp);rw[h] at this;cases this
theorem part_written {o:Pt} (h:PartOk o):writtenF o.sa o.sb o.low o.high=true:=by
 unfold writtenF
 rw[h.low,h.high]
 have h1:=h.shift
 unfold shiftOk at h1
 rw[h1];simpa using h.range
theorem sounding_spec {w:World} (hN:GN w) {a:ScA} {s:Sc} {p o:Pt} (hp:PartOk p) (k:Int) (q:Pit):Gives Tryz.prog 121 #[.agg #[iv p.id,iv p.sec,iv p.src,iv p.oct,iv p.desks,iv p.sa,iv p.sb,iv p.low.1,iv p.low.2.1,iv p.low.2.2,iv p.high.1,iv p.high.2.1,iv p.high.2.2,iv s.ver,.slice a.b.1 s.bars.length a.b.2,.slice a.p.1 s.parts.length a.p.2,.slice a.n.1 s.notes.length a.n.2,iv o.id,iv o.sec,iv o.src,iv o.oct,iv o.desks,iv o.sa,iv o.sb,iv o.low.1,iv o.low.2.1,iv o.low.2.2,iv o.high.1,iv o.high.2.1,iv o.high.2.2],iv k,.agg #[iv q.1,iv q.2.1,iv q.2.2]] w fun r _=>r=.tuple #[.agg #[iv (sndN p k q).1,iv (sndN p k q).2.1,iv (sndN p k q).2.2],.bool (decide ((soundF p.sa p.sb p.low p.high k q).2=0))]:=by
 have hpo:=within_iff.1 hp.oct
 refine gives_of [.agg [wv p.id,wv p.sec,wv p.src,wv p.oct,wv p.desks,wv p.sa,wv p.sb,wv p.low.1,wv p.low.2.1,wv p.low.2.2,wv p.high.1,wv p.high.2.1,wv p.high.2.2,wv s.ver,.val (.slice a.b.1 s.bars.length a.b.2),.val (.slice a.p.1 s.parts.length a.p.2),.val (.slice a.n.1 s.notes.length a.n.2),wv o.id,wv o.sec,wv o.src,wv o.oct,wv o.desks,wv o.sa,wv o.sb,wv o.low.1,wv o.low.2.1,wv o.low.2.2,wv o.high.1,wv o.high.2.1,wv o.high.2.2],wv k,.agg [wv q.1,wv q.2.1,wv q.2.2]] 29 [.cell 6 48,.tmp 7] Tryz.func121 rfl rfl rfl (by simp) rfl rfl ?_
 refine W.pure dn fun K1 k1=>?_
 simp only[E,F,J,M,R,Tz,V,X,Y,reduceIte,G,H,sz];refine k1 _ ?_
 refine W.seqK fun K2 k2=>W.region ?_
 refine WO.go 4 dn ?_
 simp only[E,F,J,M,R,Tz,V,X,Y,reduceIte,G,H,sz]
 refine WO.call (.tuple #[.agg #[iv (soundF p.sa p.sb p.low p.high k q).1.1,iv (soundF p.sa p.sb p.low p.high k q).1.2.1,iv (soundF p.sa p.sb p.low p.high k q).1.2.2],iv (soundF p.sa p.sb p.low p.high k q).2]) dn rfl rfl rfl co169 (fun ρ w1 hb=>isnd_spec (hN.now (hb.first (by simp[St.put]))) (p.id,p.sec,p.src,p.oct,p.desks) p.sa p.sb p.low p.high k q) ?_
 refine WO.go 6 dn ?_
 simp only[E,F,J,M,R,Tz,V,X,Y,reduceIte,G,H,sz]
 refine WO.nil ?_
 refine k2 _ ?_
 refine W.seqK fun K3 k3=>?_
 refine W.pure dn fun K4 k4=>?_
 simp only[E,F,J,M,R,Tz,V,X,Y,reduceIte,G,H,sz];refine k4 _ ?_
 refine W.cond rfl rfl (fun hc=>?_) fun hc=>?_
 ·
  have h0:¬ (soundF p.sa p.sb p.low p.high k q).2=0:=by simpa using hc
  refine W.pure dn fun K5 k5=>?_
  simp only[E,F,J,M,R,Tz,V,X,Y,reduceIte,G,H,sz];refine k5 _ ?_
  refine W.ret ?_
  refine⟨by simp,RunR.ex ?_⟩
  simp only[E,F,J,M,R,Tz,V,X,Y,reduceIte,sxr,G,H,sz]
  intro ρ w1 hb
  rw[sndN_no h0,decide_eq_false h0];rfl
 ·
  have h0:(soundF p.sa p.sb p.low p.high k q).2=0:=by simpa using hc
  have hv9:=validP_iff.1 (snd_valid h0)
  have hwo:IntKind.i64.wrap ((soundF p.sa p.sb p.low p.high k q).1.2.2 - p.oct)=(soundF p.sa p.sb p.low p.high k q).1.2.2 - p.oct:=wrap_id (by omega) (by omega)
  refine W.skip (k3 _ ?_)
  refine W.pure dn fun K6 k6=>?_
  simp only[E,F,J,M,R,Tz,V,X,Y,reduceIte,G,H,hwo,sz];refine k6 _ ?_
  refine W.pure dn fun K7 k7=>?_
  simp only[E,F,J,M,R,Tz,V,X,Y,reduceIte,G,H,hwo,sz];refine k7 _ ?_
  refine W.ret ?_
  refine⟨by simp,RunR.ex ?_⟩
  simp only[E,F,J,M,R,Tz,V,X,Y,reduceIte,sxr,G,H,hwo,sz]
  intro ρ w1 hb
  rw[sndN_yes h0,decide_eq_true h0];rfl
abbrev D63_:List (Option Nat):=[some 22,some 23,some 24,some 25,some 26,some 4]
theorem isNoteB_spec {S:Nat→Prop} {w:World} (hN:GN w) {a:ScA} {s:Sc} (hs:ScR S w a s) {p o:Pt} (ho:PartOk o) (hbo:BarsOk s.bars) (n:Nt) (hn:NoteA s.bars n):Gives Tryz.prog 122 #[.agg #[iv p.id,iv p.sec,iv p.src,iv p.oct,iv p.desks,iv p.sa,iv p.sb,iv p.low.1,iv p.low.2.1,iv p.low.2.2,iv p.high.1,iv p.high.2.1,iv p.high.2.2,iv s.ver,.slice a.b.1 s.bars.length a.b.2,.slice a.p.1 s.parts.length a.p.2,.slice a.n.1 s.notes.length a.n.2,iv o.id,iv o.sec,iv o.src,iv o.oct,iv o.desks,iv o.sa,iv o.sb,iv o.low.1,iv o.low.2.1,iv o.low.2.2,iv o.high.1,iv o.high.2.1,iv o.high.2.2],(ntq n)] w fun r _=>r=.bool (inB o n.pit):=by
 have lb:(Rp.slice rBr).rd (fun _=>True) w _ s.bars:=Rp.any hs.b
 have lp:(Rp.slice rPt).rd (fun _=>True) w _ s.parts:=Rp.any hs.p
 have ln:(Rp.slice rNt).rd (fun _=>True) w _ s.notes:=Rp.any hs.n
 have hwr:=part_written ho
 refine gives_of [.agg [wv p.id,wv p.sec,wv p.src,wv p.oct,wv p.desks,wv p.sa,wv p.sb,wv p.low.1,wv p.low.2.1,wv p.low.2.2,wv p.high.1,wv p.high.2.1,wv p.high.2.2,wv s.ver,.val (.slice a.b.1 s.bars.length a.b.2),.val (.slice a.p.1 s.parts.length a.p.2),.val (.slice a.n.1 s.notes.length a.n.2),wv o.id,wv o.sec,wv o.src,wv o.oct,wv o.desks,wv o.sa,wv o.sb,wv o.low.1,wv o.low.2.1,wv o.low.2.2,wv o.high.1,wv o.high.2.1,wv o.high.2.2],.agg (ntw n)] 27 [.tmp 4] Tryz.func122 rfl rfl rfl (by simp) rfl rfl ?_
 refine W.pure dn fun K1 k1=>?_
 simp only[E,F,J,M,R,Tz,V,X,Y,reduceIte,G,H,sz];refine k1 _ ?_
 refine W.seqK fun K2 k2=>?_
 refine W.seqK fun K3 k3=>W.region ?_
 refine WO.go 5 dn ?_
 simp only[E,F,J,M,R,Tz,V,X,Y,reduceIte,G,H,sz]
 refine WO.call (.bool (isNoteP n.pit)) dn rfl rfl rfl co70 (fun ρ w1 hb=>by
                              have h9:=nValid_spec (l:=[n]) (Rp.now lb (hb.first (by simp[St.put]))) (lit_nt (S:=fun _=>True) (k:=2) hb rfl rfl trivial) hbo (by simp) (fun m hm=>by rw[List.mem_singleton.1 hm];exact hn) (by simp)
                              rw[pb_one] at h9
                              exact h9) ?_
 refine WO.go 1 dn ?_
 simp only[E,F,J,M,R,Tz,V,X,Y,reduceIte,G,H,sz]
 refine WO.nil ?_
 refine k3 _ ?_
 refine W.cond rfl rfl (fun hc=>?_) fun hc=>?_
 ·
  have h0:isNoteP n.pit=false:=by simpa using hc
  refine W.pure dn fun K4 k4=>?_
  simp only[E,F,J,M,R,Tz,V,X,Y,reduceIte,G,H,sz];refine k4 _ ?_
  refine W.ret ⟨by simp,_,rfl,fun ρ w1 hb=>?_⟩
  unfold inB
  rw[h0];rfl
 ·
  have h0:isNoteP n.pit=true:=by simpa using hc
  refine W.skip (k2 _ ?_)
  refine W.seqK fun K5 k5=>W.region ?_
  refine WO.go 4 dn ?_
  simp only[E,F,J,M,R,Tz,V,X,Y,reduceIte,G,H,sz]
  refine WO.call (.tuple #[.bool (decide (numF o.low≤numF n.pit) && decide (numF n.pit≤numF o.high)),iv 0]) dn rfl rfl rfl co170 (fun ρ w1 hb=>by have h9:=ifits_spec (hN.now (hb.first (by simp[St.put]))) (o.id,o.sec,o.src,o.oct,o.desks) o.sa o.sb o.low o.high n.pit;rw[fitsF_yes (by rw[hwr,isNote_v h0];rfl)] at h9;exact h9) ?_
  refine WO.go 5 dn ?_
  simp only[E,F,J,M,R,Tz,V,X,Y,reduceIte,G,H,sz]
  refine WO.nil ?_
  refine k5 _ ?_
  refine W.join 4 (.val (.bool (inB o n.pit))) [] (W.region ?_) ?_
  ·
   refine WO.go 2 (ds:=D63_) rfl ?_
   simp only[E,F,J,M,R,Tz,V,X,Y,reduceIte,G,H,sz]
   refine WO.cases 23 _ rfl (fun hg23=>?_) fun hg23=>?_
   ·
    refine WO.go 4 (ds:=D63_) rfl ?_
    simp only[E,F,J,M,R,Tz,V,X,Y,reduceIte,G,H,sz]
    refine WO.nil ?_
    refine⟨rfl,?_,⟨_,rfl⟩,by simp[Own.bnd,bndL,bnd,boxO],by simp⟩
    unfold inB
    try simp at hg23
    try simp[h0,hg23,getE,bnd,keepE]
    try simp[getE,bnd,keepE]
    try exact hg23
   ·
    refine WO.go 4 (ds:=D63_) rfl ?_
    simp only[E,F,J,M,R,Tz,V,X,Y,reduceIte,G,H,sz]
    refine WO.nil ?_
    refine⟨rfl,?_,⟨_,rfl⟩,by simp[Own.bnd,bndL,bnd,boxO],by simp⟩
    unfold inB
    try simp at hg23
    try simp[h0,hg23,getE,bnd,keepE]
    try simp[getE,bnd,keepE]
    try exact hg23
  ·
   simp only[E,F,J,M,R,Tz,V,X,Y,reduceIte,sxk,G,H,sz]
   refine W.ret ⟨by simp,_,rfl,fun ρ w1 hb=>?_⟩
   rfl
abbrev D64_:List (Option Nat):=[some 38,some 39,some 40,some 41,some 42,some 43,some 44,some 45]
theorem lput_spec {S:Nat→Prop} {w:World} (hN:GN w) {a:ScA} {s:Sc} (hs:ScR S w a s) (hok:ScOk s) {p o:Pt} (ho:Owner s p o) (b:Br) (hb9:b∈s.bars) (u:Wt) (hu:FormA u b.len):Gives Tryz.prog 68 #[.agg #[iv p.id,iv p.sec,iv p.src,iv p.oct,iv p.desks,iv p.sa,iv p.sb,iv p.low.1,iv p.low.2.1,iv p.low.2.2,iv p.high.1,iv p.high.2.1,iv p.high.2.2,iv s.ver,.slice a.b.1 s.bars.length a.b.2,.slice a.p.1 s.parts.length a.p.2,.slice a.n.1 s.notes.length a.n.2,iv o.id,iv o.sec,iv o.src,iv o.oct,iv o.desks,iv o.sa,iv o.sb,iv o.low.1,iv o.low.2.1,iv o.low.2.2,iv o.high.1,iv o.high.2.1,iv o.high.2.2],.agg #[iv b.id,iv b.len.1,iv b.len.2,iv b.key],.agg #[iv u.id,iv u.voice,iv u.ossia,iv u.start.1,iv u.start.2,iv u.len.1,iv u.len.2,iv u.pit.1,iv u.pit.2.1,iv u.pit.2.2]] w fun r _=>r=.tuple #[(ntq (ownN p o b u)),iv (if okB p o b u=true then 0 else 20)]:=by
 have hs9:=hs.any
 have hna:=own_note hok ho hb9 hu
 refine gives_of [.agg [wv p.id,wv p.sec,wv p.src,wv p.oct,wv p.desks,wv p.sa,wv p.sb,wv p.low.1,wv p.low.2.1,wv p.low.2.2,wv p.high.1,wv p.high.2.1,wv p.high.2.2,wv s.ver,.val (.slice a.b.1 s.bars.length a.b.2),.val (.slice a.p.1 s.parts.length a.p.2),.val (.slice a.n.1 s.notes.length a.n.2),wv o.id,wv o.sec,wv o.src,wv o.oct,wv o.desks,wv o.sa,wv o.sb,wv o.low.1,wv o.low.2.1,wv o.low.2.2,wv o.high.1,wv o.high.2.1,wv o.high.2.2],.agg [wv b.id,wv b.len.1,wv b.len.2,wv b.key],.agg [wv u.id,wv u.voice,wv u.ossia,wv u.start.1,wv u.start.2,wv u.len.1,wv u.len.2,wv u.pit.1,wv u.pit.2.1,wv u.pit.2.2]] 48 [.cell 6 89,.tmp 7] Tryz.func68 rfl rfl rfl (by simp) rfl rfl ?_
 refine W.pure dn fun K1 k1=>?_
 simp only[E,F,J,M,R,Tz,V,X,Y,reduceIte,G,H,sz];refine k1 _ ?_
 refine W.pure dn fun K2 k2=>?_
 simp only[E,F,J,M,R,Tz,V,X,Y,reduceIte,G,H,sz];refine k2 _ ?_
 refine W.seqK fun K3 k3=>W.region ?_
 refine WO.go 5 dn ?_
 simp only[E,F,J,M,R,Tz,V,X,Y,reduceIte,G,H,sz]
 refine WO.call (.tuple #[.agg #[iv (sndN p b.key u.pit).1,iv (sndN p b.key u.pit).2.1,iv (sndN p b.key u.pit).2.2],.bool (decide ((soundF p.sa p.sb p.low p.high b.key u.pit).2=0))]) dn rfl rfl rfl co121 (fun ρ w1 hb=>sounding_spec (s:=s) (a:=a) (hN.now (hb.first (by simp[St.put]))) (hok.parts.all p ho.mp) b.key u.pit) ?_
 refine WO.go 6 dn ?_
 simp only[E,F,J,M,R,Tz,V,X,Y,reduceIte,G,H,sz]
 refine WO.nil ?_
 refine k3 _ ?_
 refine W.pure dn fun K4 k4=>?_
 simp only[E,F,J,M,R,Tz,V,X,Y,reduceIte,G,H,sz];refine k4 _ ?_
 refine W.seqK fun K5 k5=>?_
 refine W.join 45 (.val (.bool (!okB p o b u))) [6,8] (W.region ?_) ?_
 ·
  refine WO.go 3 (ds:=D64_) rfl ?_
  simp only[E,F,J,M,R,Tz,V,X,Y,reduceIte,G,H,sz]
  refine WO.cases 40 _ rfl (fun hg40=>?_) fun hg40=>?_
  ·
   refine WO.go 5 (ds:=D64_) rfl ?_
   simp only[E,F,J,M,R,Tz,V,X,Y,reduceIte,G,H,sz]
   refine WO.nil ?_
   refine⟨rfl,?_,⟨_,rfl⟩,by simp[Own.bnd,bndL,bnd,boxO],by simp⟩
   unfold okB
   try simp at hg40
   try simp[hg40,getE,bnd,keepE]
   try simp[getE,bnd,keepE]
  ·
   refine WO.go 2 (ds:=D64_) rfl ?_
   simp only[E,F,J,M,R,Tz,V,X,Y,reduceIte,G,H,sz]
   refine WO.call (.bool (inB o (sndN p b.key u.pit))) (ds:=D64_) rfl rfl rfl rfl co122 (fun ρ w1 hb=>isNoteB_spec (a:=a) (p:=p) (hN.now (hb.first (by simp[St.put]))) (ScR.now hs9 (hb.first (by simp[St.put]))) (hok.parts.all o ho.mo) hok.bars (ownN p o b u) hna) ?_
   refine WO.go 2 (ds:=D64_) rfl ?_
   simp only[E,F,J,M,R,Tz,V,X,Y,reduceIte,G,H,sz]
   refine WO.nil ?_
   refine⟨rfl,?_,⟨_,rfl⟩,by simp[Own.bnd,bndL,bnd,boxO],by simp⟩
   unfold okB
   try simp at hg40
   try simp[hg40,getE,bnd,keepE]
   try simp[getE,bnd,keepE]
 ·
  simp only[E,F,J,M,R,Tz,V,X,Y,reduceIte,sxk,G,H,sz]
  refine W.cond rfl rfl (fun hc=>?_) fun hc=>?_
  ·
   have h0:¬ okB p o b u=true:=by simpa using hc
   refine W.pure dn fun K7 k7=>?_
   simp only[E,F,J,M,R,Tz,V,X,Y,reduceIte,G,H,sz];refine k7 _ ?_
   refine W.ret ?_
   refine⟨by simp,RunR.ex ?_⟩
   simp only[E,F,J,M,R,Tz,V,X,Y,reduceIte,sxr,G,H,sz]
   intro ρ w1 hb
   rw[if_neg h0];rfl
  ·
   have h0:okB p o b u=true:=by simpa using hc
   refine W.skip (k5 _ ?_)
   refine W.pure dn fun K8 k8=>?_
   simp only[E,F,J,M,R,Tz,V,X,Y,reduceIte,G,H,sz];refine k8 _ ?_
   refine W.ret ?_
   refine⟨by simp,RunR.ex ?_⟩
   simp only[E,F,J,M,R,Tz,V,X,Y,reduceIte,sxr,G,H,sz]
   intro ρ w1 hb
   rw[if_pos h0];rfl
end Go.Proofs.YtolmeekbjonbcaaGreatDoor
