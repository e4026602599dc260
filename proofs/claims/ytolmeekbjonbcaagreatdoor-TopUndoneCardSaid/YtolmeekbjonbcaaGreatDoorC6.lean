/-
  TopUndone, for any score and view. The law answers true, and the arguments read as they did. The package's table holds what the program's text lays in it (tied).
-/
import Derived.Test.YtolmeekbjonbcaaGreatDoorC5
import Derived.ProofKit
import Derived.Deep.Slices
import Derived.Deep.Fields
import Derived.OpenShut
import Derived.Lib.LaidTab
import Derived.MakeChecks
import Derived.Test.YtolmeekbjonbcaaGreatDoorRows
import Derived.Test.YtolmeekbjonbcaaGreatDoorTie
import Derived.Test.YtolmeekbjonbcaaGreatDoorCards
import Derived.SevenTiedAt
import Derived.LaidMore
import Derived.Stop.Joined
set_option linter.unusedVariables false
set_option linter.unusedSimpArgs false
set_option linter.unusedSectionVars false
set_option linter.defProp false
set_option linter.unnecessarySimpa false
set_option maxHeartbeats 4000000
set_option maxRecDepth 8000
namespace Go.Proofs.YtolmeekbjonbcaaGreatDoor
open Go Go.SX Go.RowKit
variable [Drw]
open Int renaming reduceEq → E, reduceLT → F, reduceBEq → G, reduceBNe → H, reduceNeg → Z1, reduceGT → Z2, reduceLE → Z3, reduceGE → Z4, reduceMul → Z5, reduceMod → Z6, reduceAdd → Z7, reduceTMod → Z8, reduceTDiv → Z9
open Nat renaming reduceAdd → J, reduceSub → M, reduceMul → R, reduceLT → Tz, reduceLeDiff → V, reduceEqDiff → X
open List renaming reduceReplicate → Y
noncomputable def tAt (s:Sc) (es:List Ed) (i:Nat):Sc:=⟨s.ver,s.bars,s.parts,runE s.bars s.notes (es.take i)⟩
theorem tAt_zero (s:Sc) (es:List Ed):tAt s es 0=s:=by unfold tAt runE;rfl
theorem tAt_step {s:Sc} {es:List Ed} {i:Nat} {x:Ed} (h:es[i]?=some x):tAt s es (i+1)=withS (tAt s es i) (tAt s es i).ver (appL (tAt s es i).notes x):=by
 unfold tAt withS
 rw[List.take_add_one,h]
 simp only[Option.toList_some,run_snoc]
theorem tAt_ed {s:Sc} {es:List Ed} (he:EdsOk s.bars s.parts s.notes es) {i:Nat} {x:Ed} (h:es[i]?=some x):EdOk (tAt s es i).bars (tAt s es i).parts (tAt s es i).notes x∧(tAt s es i).notes.length<20000:=by
 have h1:=he.take i
 have hi:=(List.getElem?_eq_some_iff.1 h).1
 have h2:=h1.len
 rw[List.length_drop] at h2
 refine⟨h1.all x (List.mem_of_getElem? (i:=0) (by rw[List.getElem?_drop];exact h)),?_⟩
 show(runE s.bars s.notes (es.take i)).length<20000
 omega
theorem tAt_ok {s:Sc} {es:List Ed} (hok:ScOk s) (he:EdsOk s.bars s.parts s.notes es):∀ i,ScOk (tAt s es i)
 | 0=>by rw[tAt_zero];exact hok
 |
  i+1=>by
  have ih:=tAt_ok hok he i
  cases h:es[i]? with
  |
   none=>
   have:tAt s es (i+1)=tAt s es i:=by unfold tAt;rw[List.take_add_one,h];simp
   rw[this];exact ih
  |
   some x=>
   rw[tAt_step h]
   obtain⟨h1,h2⟩:=tAt_ed he h
   have h3:=app_notes ih.notes (fun n hn=>ih.own n hn) h2 h1
   exact with_ok ih ih.ver h3.1 h3.2
theorem snap_placed {ρ:Nat→Nat} {σ:St} {w s:World} {S:Nat→Prop} {ks:List Nat} {own:List Go.SX.Own} (hb:Base ρ σ w) (hm:(S,s)∈σ.snaps) (hp:placed σ.own ks own) (hfr:own.all freeO=true) {b:Nat} (hS:S b) (hlt:b<s.heap.size):¬ ofOwn own b:=fun⟨i,o,h1,h2⟩=>by
 obtain⟨hkl,hget⟩:=placed_get hp
 have hil:=(List.getElem?_eq_some_iff.1 h1).1
 have h3:=hget i _ o (List.getElem?_eq_getElem (show i<ks.length by omega)) h1
 have h5:s.heap.size≤b:=(hb.keep _ hm).2 _ o b h3 (by rw[freeO_num (List.all_eq_true.1 hfr o (List.mem_of_getElem? h1)) ρ (fun _=>0) _ 0];exact h2) hS
 omega
abbrev D73_:List (Option Nat):=[some 51,some 52,none,some 7,some 8]
abbrev D72_:List (Option Nat):=[some 19,some 20,some 21,some 22,some 23,some 24,some 25,some 26]
theorem apply_spec {S S2:Nat→Prop} {w:World} {a:ScA} {s T9:Sc} {es:List Ed} {pe:Option Addr} {ce:Nat} {ver:Int} (hN:GN w) (hs:ScR S w a s) (hl:rEds.rd S2 w [.slice pe es.length ce] es) (hok:ScOk s) (he:EdsOk s.bars s.parts s.notes es) (hle:es.length≤1000) (hver:within 1 1000000 ver=true) (hT9:T9=withS s ver (runE s.bars s.notes es)) :
  Gives Tryz.prog 11 #[scV a s,iv ver,.slice pe es.length ce] w fun r w'=>∃ y:ScA×Option Addr×Nat,r=.tuple #[scV y.1 T9,.slice y.2.1 es.length y.2.2,iv 0]∧ScR (fun b=>w.heap.size≤b) w' y.1 T9∧(Rp.slice (Rp.int .i64)).rd (fun b=>w.heap.size≤b) w' [.slice y.2.1 es.length y.2.2] (List.replicate es.length 0):=by
 have lb:(Rp.slice rBr).rd (fun _=>True) w _ s.bars:=Rp.any hs.b
 have lp:(Rp.slice rPt).rd (fun _=>True) w _ s.parts:=Rp.any hs.p
 have ln:(Rp.slice rNt).rd (fun _=>True) w _ s.notes:=Rp.any hs.n
 have hs9:=hs.any
 unfold scV
 have hl:(Rp.slice rEd).rd (fun _=>True) w _ es:=Rp.any hl
 have hT:withS (tAt s es es.length) ver (tAt s es es.length).notes=T9:=by rw[hT9];unfold tAt withS;rw[List.take_of_length_le (Nat.le_refl _)]
 refine gives_of [.agg (scw a s),wv ver,.val (.slice pe es.length ce)] 53 [.cell 6 26,.tmp 7,.tmp 8] Tryz.func11 rfl rfl rfl (by simp) rfl rfl ?_
 refine W.pure dn fun K1 k1=>?_
 simp only[E,F,J,M,R,Tz,V,X,Y,reduceIte,G,H,sz];refine k1 _ ?_
 refine W.seqK fun K2 k2=>?_
 refine W.pure dn fun K3 k3=>?_
 simp only[E,F,J,M,R,Tz,V,X,Y,reduceIte,G,H,sz];refine k3 _ ?_
 refine W.cond rfl rfl (fun hc=>?_) fun hc=>?_
 ·
  (simp at hc;omega)
 ·
  refine W.skip (k2 _ ?_)
  refine W.seqK fun K4 k4=>?_
  refine W.join 26 (.val (.bool false)) [1,2,3,6] (W.region ?_) ?_
  ·
   refine WO.go 1 (ds:=D72_) rfl ?_
   simp only[E,F,J,M,R,Tz,V,X,Y,reduceIte,G,H,sz]
   refine WO.call (.bool true) (ds:=D72_) rfl rfl rfl rfl co35 (fun ρ w1 hb=>by have h9:=isIn_spec w1 ver 1000000;rw[hver] at h9;exact h9) ?_
   refine WO.go 3 (ds:=D72_) rfl ?_
   simp only[E,F,J,M,R,Tz,V,X,Y,reduceIte,G,H,sz]
   refine WO.call (.bool true) (ds:=D72_) rfl rfl rfl rfl co36 (fun ρ w1 hb=>sValid_spec (a:=a) (hN.now (hb.first (by simp[St.put]))) (ScR.now hs9 (hb.first (by simp[St.put]))) hok) ?_
   refine WO.go 2 (ds:=D72_) rfl ?_
   simp only[E,F,J,M,R,Tz,V,X,Y,reduceIte,G,H,sz]
   refine WO.nil ?_
   refine⟨rfl,?_,⟨_,rfl⟩,by simp[Own.bnd,bndL,bnd,boxO],by simp⟩
   simp[getE,bnd,keepE]
  ·
   simp only[E,F,J,M,R,Tz,V,X,Y,reduceIte,sxk,G,H,sz]
   refine W.cond rfl rfl (fun hc=>?_) fun hc=>?_
   ·
    simp at hc
   ·
    refine W.skip (k4 _ ?_)
    refine W.pure dn fun K6 k6=>?_
    simp only[E,F,J,M,R,Tz,V,X,Y,reduceIte,G,H,sz];refine k6 _ ?_
    refine W.ownNil 34 1 ?_
    simp only[Bool.false_eq_true,E,F,J,M,R,Tz,V,X,Y,reduceIte,St.pushO,List.cons_append,List.nil_append,sz]
    refine W.pin (k:=0) (scl a s) rfl (fun _=>rfl) (by rw[maxLen_eq];simp) fun b0=>?_
    simp only[pinE,pinS,pin1,den,denL,setN,Nat.zero_add,J,X,reduceIte,Nat.succ_ne_self,Nat.one_ne_zero]
    refine W.pin (k:=2) [.slice none 0 0] rfl (fun _=>rfl) (by rw[maxLen_eq];simp) fun b2=>?_
    simp only[pinE,pinS,pin1,den,denL,setN,Nat.zero_add,J,X,reduceIte,Nat.succ_ne_self,Nat.one_ne_zero]
    refine W.pure dn fun K7 k7=>?_
    simp only[E,F,J,M,R,Tz,V,X,Y,reduceIte,G,H,sz];refine k7 _ ?_
    refine W.seqK fun K8 k8=>?_
    refine W.pure dn fun K9 k9=>?_
    simp only[E,F,J,M,R,Tz,V,X,Y,reduceIte,G,H,sz];refine k9 _ ?_
    refine W.block ?_
    refine W.loopO (X:=Nat×ScA×(Option Addr×Nat)×(Nat→Prop)×World) [1,3,6,9,10,29,30] (fun x=>[(31,wv (x.1:Int))]) (fun x=>[boxO 26 b0 [iv (tAt s es (x.1)).ver,.slice x.2.1.b.1 (tAt s es (x.1)).bars.length x.2.1.b.2,.slice x.2.1.p.1 (tAt s es (x.1)).parts.length x.2.1.p.2,.slice x.2.1.n.1 (tAt s es (x.1)).notes.length x.2.1.n.2],.cells 26 [wv 0,.val (.slice none 0 0),.val (.slice none 0 0),.val (.slice none 0 0)],boxO 41 b2 [.slice x.2.2.1.1 (x.1) x.2.2.1.2],.slice 34 1 (.slice x.2.2.1.1 (x.1) x.2.2.1.2) (x.1) (List.replicate (x.1) (iv 0))]) (fun x=>[(x.2.2.2.1,x.2.2.2.2),((fun _=>True),w)]) (fun x=>x.1≤es.length∧ScR x.2.2.2.1 x.2.2.2.2 x.2.1 (tAt s es x.1)) (fun x=>es.length - x.1) (0,a,(none,0),(fun _=>True),w) ?_ ?_ ?_
    · exact⟨rfl,by simp[getE,bnd,keepE,bndL],⟨[],by simp[tAt_zero]⟩,by simp[Own.bnd,bndL,bnd,boxO],by simp⟩
    ·
     exact⟨Nat.zero_le _,by rw[tAt_zero];exact hs9⟩
    ·
     rintro⟨i,z,⟨q,c⟩,S9,sW⟩ hI9
     obtain⟨hi,hI⟩:=hI9
     simp only at hi hI
     simp only[E,F,J,M,R,Tz,V,X,Y,reduceIte,sxk,G,H,sz]
     refine W.pure dn fun K10 k10=>?_
     simp only[E,F,J,M,R,Tz,V,X,Y,reduceIte,G,H,sz];refine k10 _ ?_
     refine W.seqK fun K11 k11=>?_
     refine W.cond rfl rfl (fun hc=>?_) fun hc=>?_
     ·
      have hlt:i<es.length:=by simpa using hc
      obtain⟨y,hy⟩:=len_lt (rfl:es.length=_) hlt
      have hed:=tAt_ed he hy
      refine W.skip (k11 _ ?_)
      refine W.seqK fun K12 k12=>?_
      refine W.block ?_
      refine W.seqK fun K13 k13=>W.region ?_
      refine WO.elem (y:=y) hl (by simp[St.put]) dn rfl rfl (by simp[St.put]) (fun _=>rfl) rfl rfl rfl rfl rfl el37 agg101 sz101 (.inl rfl) (by omega) (hy) fun p ces hces=>?_
      have hces:ces=edV y:=hces
      subst hces
      simp only[edV,ntV,ofCells,if_true,sr,sa]
      refine WO.go 2 dn ?_
      simp only[E,F,J,M,R,Tz,V,X,Y,reduceIte,G,H,sz]
      refine WO.nil ?_
      refine k13 _ ?_
      refine W.region ?_
      refine WO.go 2 dn ?_
      simp only[E,F,J,M,R,Tz,V,X,Y,reduceIte,G,H,sz]
      refine WO.callL (own:=[boxO 26 b0 [iv (tAt s es i).ver,.slice z.b.1 (tAt s es i).bars.length z.b.2,.slice z.p.1 (tAt s es i).parts.length z.p.2,.slice z.n.1 (tAt s es i).notes.length z.n.2],boxO 41 b2 [.slice q (i) c],.slice 34 1 (.slice q (i) c) (i) (List.replicate (i) (iv 0))]) [0,2,3] (fun _:ScA×Option Addr×Nat=>.tuple #[]) (fun y=>[boxO 26 b0 [iv (tAt s es (i+1)).ver,.slice y.1.b.1 (tAt s es (i+1)).bars.length y.1.b.2,.slice y.1.p.1 (tAt s es (i+1)).parts.length y.1.p.2,.slice y.1.n.1 (tAt s es (i+1)).notes.length y.1.n.2],boxO 41 b2 [.slice y.2.1 (i+1) y.2.2],.slice 34 1 (.slice y.2.1 (i+1) y.2.2) (i+1) (List.replicate (i+1) (iv 0))]) (fun lo y sV=>ScR (fun b=>lo≤b∧¬ ofOwn [boxO 26 b0 [iv (tAt s es (i+1)).ver,.slice y.1.b.1 (tAt s es (i+1)).bars.length y.1.b.2,.slice y.1.p.1 (tAt s es (i+1)).parts.length y.1.p.2,.slice y.1.n.1 (tAt s es (i+1)).notes.length y.1.n.2],boxO 41 b2 [.slice y.2.1 (i+1) y.2.2],.slice 34 1 (.slice y.2.1 (i+1) y.2.2) (i+1) (List.replicate (i+1) (iv 0))] b) sV y.1 (tAt s es (i+1))) dn rfl rfl rfl co37 ⟨rfl,rfl,rfl,trivial⟩ (by decide) rfl (fun _=>rfl) (fun _=>rfl) (fun ρ w1 hb hlie1=>?_) fun y9 lo s8 hy9=>?_
      ·
       have h9:=do_spec (S:=fun b=>S9 b∧b<sW.heap.size) (a:=z) (bs:=b0) (be:=b2) (n:=i) (q:=q) (c:=c) (hN.now (hb.first (by simp[St.put]))) (ScR.keep (ScR.mono hI fun b h1 h2=>⟨h1,h2⟩) ((hb.at (S:=S9) (s:=sW) (by simp[St.put])).mono fun b h _=>h.1)) (tAt_ok hok he i) hed.1 hed.2 (by omega) (tAt_step hy) hlie1
        (fun b h=>snap_placed (ks:=[0,2,3]) (own:=[boxO 26 b0 [iv (tAt s es i).ver,.slice z.b.1 (tAt s es i).bars.length z.b.2,.slice z.p.1 (tAt s es i).parts.length z.p.2,.slice z.n.1 (tAt s es i).notes.length z.n.2],boxO 41 b2 [.slice q (i) c],.slice 34 1 (.slice q (i) c) (i) (List.replicate (i) (iv 0))]) hb (S:=S9) (s:=sW) (by simp[St.put]) ⟨rfl,rfl,rfl,trivial⟩ rfl h.1 h.2) (snap_placed (ks:=[0,2,3]) (own:=[boxO 26 b0 [iv (tAt s es i).ver,.slice z.b.1 (tAt s es i).bars.length z.b.2,.slice z.p.1 (tAt s es i).parts.length z.p.2,.slice z.n.1 (tAt s es i).notes.length z.n.2],boxO 41 b2 [.slice q (i) c],.slice 34 1 (.slice q (i) c) (i) (List.replicate (i) (iv 0))]) hb (S:=fun _=>True) (s:=w) (by simp[St.put]) ⟨rfl,rfl,rfl,trivial⟩ rfl trivial hN.2)
       exact Calls.mono h9 fun e w2 ⟨v,he,hk,y,h1,h2,h3⟩=>⟨v,he,hk,y,h1,h2,h3⟩
      obtain⟨z',q',c'⟩:=y9
      simp only[setOL,setN,M]
      simp only[E,F,J,M,R,Tz,V,X,Y,reduceIte,G,H,sz]
      refine WO.nil ?_
      refine k12 _ ?_
      refine W.region ?_
      refine WO.go 2 dn ?_
      simp only[E,F,J,M,R,Tz,V,X,Y,reduceIte,G,H,sz]
      refine WO.nil ?_
      refine⟨(i+1,z',(q',c'),(fun b=>lo≤b∧¬ ofOwn [boxO 26 b0 [iv (tAt s es (i+1)).ver,.slice (z',q',c').1.b.1 (tAt s es (i+1)).bars.length (z',q',c').1.b.2,.slice (z',q',c').1.p.1 (tAt s es (i+1)).parts.length (z',q',c').1.p.2,.slice (z',q',c').1.n.1 (tAt s es (i+1)).notes.length (z',q',c').1.n.2],boxO 41 b2 [.slice (z',q',c').2.1 (i+1) (z',q',c').2.2],.slice 34 1 (.slice (z',q',c').2.1 (i+1) (z',q',c').2.2) (i+1) (List.replicate (i+1) (iv 0))] b),s8),⟨hlt,hy9⟩,by simp only;omega,rfl,by simp[getE,bnd,bndL,keepE,wrap_succ (show i+1≤9223372036854775807 by omega)],⟨_,rfl⟩,by simp[Own.bnd,bndL,bnd,boxO],by simp⟩
     ·
      have hge:es.length≤i:=by simpa using hc
      obtain rfl:i=es.length:=by omega
      refine W.exit (k8 _ ?_)
      refine W.seqK fun K14 k14=>W.region ?_
      refine WO.q dn rfl rfl (QR.load [iv (tAt s es es.length).ver,.slice z.b.1 (tAt s es es.length).bars.length z.b.2,.slice z.p.1 (tAt s es es.length).parts.length z.p.2,.slice z.n.1 (tAt s es es.length).notes.length z.n.2] true rfl rfl agg26 sz26 (.inl rfl) (fun ρ w1 hb=>box_at (k:=0) hb rfl)) ?_
      simp only[ofCells,if_true,List.toList_toArray,sr]
      refine WO.go 2 dn ?_
      simp only[E,F,J,M,R,Tz,V,X,Y,reduceIte,G,H,sz]
      refine WO.q dn rfl rfl (QR.load [.slice z.n.1 (tAt s es es.length).notes.length z.n.2] false rfl rfl agg24 sz24 (.inr rfl) (fun ρ w1 hb=>(box_at (k:=0) hb rfl).part 3 1)) ?_
      simp only[ofCells,if_true,List.toList_toArray,sr]
      simp only[E,F,J,M,R,Tz,V,X,Y,reduceIte,G,H,sz]
      refine WO.callM (fun y:ScA=>.tuple #[scV y T9,iv 0]) (fun lo y s9=>ScR (fun b=>lo≤b) s9 y T9∧w.heap.size≤lo) dn rfl rfl rfl co30 (fun ρ w1 hb=>by
        have hzz:ScR (fun _=>True) w1 z (tAt s es es.length):=ScR.mono (ScR.keep hI (hb.at (S:=S9) (s:=sW) (by simp[St.put]))) fun _ _ _=>trivial
        have h9:=sWith_spec (a:=z) (ver:=ver) (hN.now (hb.first (by simp[St.put]))) hzz hzz.n (tAt_ok hok he es.length) hver (tAt_ok hok he es.length).notes fun n hn=>(tAt_ok hok he es.length).own n hn
        rw[hT] at h9
        exact h9.mono fun r w2 _ ⟨y,h1,h2⟩=>⟨y,h1,h2,(hb.first (by simp[St.put])).size⟩) fun z9 lo3 s4 hz=>?_
      unfold scV
      simp only
      refine WO.go 6 dn ?_
      simp only[E,F,J,M,R,Tz,V,X,Y,reduceIte,G,H,sz]
      refine WO.nil ?_
      refine k14 _ ?_
      refine W.seqK fun K15 k15=>?_
      refine W.pure dn fun K16 k16=>?_
      simp only[E,F,J,M,R,Tz,V,X,Y,reduceIte,G,H,sz];refine k16 _ ?_
      refine W.cond rfl rfl (fun hc=>?_) fun hc=>?_
      ·
       simp at hc
      ·
       refine W.skip (k15 _ ?_)
       refine W.seqK fun K17 k17=>?_
       refine W.regionS (ds:=D73_) (tg:=[none,none,some 1,none,none]) [⟨[],[],[13],[],none,false⟩,⟨[],[],[9],[1],none,false⟩,⟨[0],[0],[6],[],some 1,false⟩,⟨[0,1,2],[1],[],[],none,false⟩,⟨[0,1,2,3],[],[],[],none,false⟩] 0 5 53 mixed rfl rfl (by kernel_rfl) (by kernel_rfl) ?_
       simp only[E,F,J,M,R,Tz,V,X,Y,reduceIte,sxs,G,H,sa,sz]
       refine WS.go rfl rfl rfl ?_
       simp only[E,F,J,M,R,Tz,V,X,Y,reduceIte,sxs,G,H,sa,sz]
       refine WS.q rfl rfl (QR.load [.slice q es.length c] false rfl rfl agg41 sz41 (.inr rfl) (fun ρ w1 hb=>box_at (k:=2) hb rfl)) ?_
       simp only[ofCells,sr]
       simp only[E,F,J,M,R,Tz,V,X,Y,reduceIte,sxs,G,H,sa,sz]
       refine WS.store rfl rfl rfl rfl rfl rfl rfl sz26 (Nat.le_of_ble_eq_true rfl) rfl ?_
       simp only[E,F,J,M,R,Tz,V,X,Y,reduceIte,sxs,G,H,sa,sz]
       refine WS.go rfl rfl rfl ?_
       simp only[E,F,J,M,R,Tz,V,X,Y,reduceIte,sxs,G,H,sa,sz]
       refine WS.go rfl rfl rfl ?_
       simp only[E,F,J,M,R,Tz,V,X,Y,reduceIte,sxs,G,H,sa,sz]
       refine WS.nil [0,1,2,3,4] rfl rfl ?_
       simp only[E,F,J,M,R,Tz,V,X,Y,reduceIte,sxs,G,H,sa,sz]
       refine k17 _ ?_
       refine W.ret ?_
       refine⟨by simp,RunR.ex ?_⟩
       simp only[E,F,J,M,R,Tz,V,X,Y,reduceIte,sxr,G,H,sz]
       intro ρ w1 hb
       refine⟨(z9,q,c),rfl,ScR.mono (hz.1.keep (hb.at (S:=fun b=>lo3≤b) (s:=s4) (by simp))) fun b h _=>Nat.le_trans hz.2 h,?_⟩
       refine own_slice (A:=Rp.int .i64) (k:=3) hb rfl (by simp) (fun b h=>own_new (k:=3) hb (by simp) rfl h) fun j y hy=>?_
       show((List.replicate es.length (Value.int .i64 0)).drop (j*1)).take 1=[iv y]
       have hj:j<es.length∧(0:Int)=y:=by
        rw[List.getElem?_replicate] at hy
        split at hy
        · exact⟨by assumption,Option.some.inj hy⟩
        · cases hy
       exact take_one _ j _ (by rw[List.getElem?_replicate,if_pos hj.1,← hj.2])
theorem row_eds {l:List (Int×Nt)} {kd:Int} {n:Nt}:rowV edV (edsOf (l++[(kd,n)]))=rowV edV (edsOf l)++(.int .i64 kd::.int .i64 ((l.length+1:Int))::.int .i64 1::ntV n):=by
 rw[edsOf_snoc,row_snoc];rfl
theorem eds_len1 {l:List (Int×Nt)} {x:Int×Nt}:(edsOf (l++[x])).length=(edsOf l).length+1:=by
 rw[edsOf_len,edsOf_len,List.length_append];rfl
theorem eadd_spec {w:World} {l:List (Int×Nt)} {bo c:Nat} {q:Option Addr} {kd:Int} {n:Nt} (hlen:l.length≤40000) (hlie:Lie [boxO 37 bo [.slice q (edsOf (l)).length c],.slice 101 15 (.slice q (edsOf (l)).length c) (edsOf (l)).length (rowV edV (edsOf (l)))] w) :
  GivesB Tryz.prog 34 #[iv kd,(ntq n),.pointer (some ⟨bo,0,none⟩)] w (ofOwn [boxO 37 bo [.slice q (edsOf (l)).length c],.slice 101 15 (.slice q (edsOf (l)).length c) (edsOf (l)).length (rowV edV (edsOf (l)))]) fun r w'=>∃ y:Option Addr×Nat,r=.tuple #[]∧TurnL [boxO 37 bo [.slice q (edsOf (l)).length c],.slice 101 15 (.slice q (edsOf (l)).length c) (edsOf (l)).length (rowV edV (edsOf (l)))] [boxO 37 bo [.slice y.1 (edsOf (l++[(kd,n)])).length y.2],.slice 101 15 (.slice y.1 (edsOf (l++[(kd,n)])).length y.2) (edsOf (l++[(kd,n)])).length (rowV edV (edsOf (l++[(kd,n)])))] w w':=by
 have hel:=edsOf_len l
 have hwl:IntKind.i64.wrap (((edsOf l).length:Int)+1)=(l.length+1:Int):=by rw[wrap_id (by omega) (by omega)];omega
 refine givesL_of [boxO 37 bo [.slice q (edsOf (l)).length c],.slice 101 15 (.slice q (edsOf (l)).length c) (edsOf (l)).length (rowV edV (edsOf (l)))] [wv kd,.agg (ntw n),.val (.pointer (some ⟨bo,0,none⟩))] 14 [] Tryz.func34 rfl rfl rfl (by simp) rfl rfl rfl hlie ?_
 refine W.pure dn fun K1 k1=>?_
 simp only[E,F,J,M,R,Tz,V,X,Y,reduceIte,G,H,sz];refine k1 _ ?_
 refine W.region ?_
 refine WO.q dn rfl rfl (QR.load [.slice q (edsOf l).length c] false rfl rfl agg37 sz37 (.inr rfl) (fun ρ w1 hb=>box_at (k:=0) hb rfl)) ?_
 simp only[ofCells,sr]
 refine WO.go 1 dn ?_
 simp only[E,F,J,M,R,Tz,V,X,Y,reduceIte,G,H,hwl,sz]
 refine WO.q dn rfl rfl (QR.load [.slice q (edsOf l).length c] false rfl rfl agg37 sz37 (.inr rfl) (fun ρ w1 hb=>box_at (k:=0) hb rfl)) ?_
 simp only[ofCells,sr]
 refine WO.go 5 dn ?_
 simp only[E,F,J,M,R,Tz,V,X,Y,reduceIte,G,H,hwl,sz]
 refine WO.append (k:=1) (m:=1) [iv kd,iv (l.length+1:Int),iv 1,iv n.id,iv n.part,iv n.bar,iv n.voice,iv n.ossia,iv n.start.1,iv n.start.2,iv n.len.1,iv n.len.2,iv n.pit.1,iv n.pit.2.1,iv n.pit.2.2] dn rfl rfl rfl rfl rfl rfl ek37 (news_own (k2:=3) rfl fun _=>rfl) rfl (by simp[Value.oneCell']) (by rw[maxLen_eq];omega) (by omega) fun p6 c6=>?_
 simp only[E,F,J,M,R,Tz,V,X,Y,reduceIte,G,H,hwl,sz]
 refine WO.storeBox (k:=0) (i:=0) rfl dn rfl rfl rfl rfl (by simp[Addr.add_mid]) (by simp) rfl rfl sz37 ?_
 simp only[E,F,J,M,R,Tz,V,X,Y,reduceIte,G,H,hwl,sz]
 refine WO.nil ?_
 refine⟨by simp,?_⟩
 simp only[E,F,J,M,R,Tz,V,X,Y,reduceIte,sxr,G,H,hwl,sz]
 intro ρ w1 hb
 exact⟨(p6,c6),rfl,turnL_of (own':=[boxO 37 bo [.slice (p6,c6).1 (edsOf (l++[(kd,n)])).length (p6,c6).2],.slice 101 15 (.slice (p6,c6).1 (edsOf (l++[(kd,n)])).length (p6,c6).2) (edsOf (l++[(kd,n)])).length (rowV edV (edsOf (l++[(kd,n)])))]) hb (by simp) (by rw[row_eds,eds_len1];rfl) rfl⟩
abbrev D74_:List (Option Nat):=[some 97,some 98,some 99,some 100,some 101,some 102,some 103,some 104,some 105]
theorem undo_spec (hoff:¬ Drw.on) {S S2:Nat→Prop} {w:World} {a:ScA} {s t:Sc} {es:List Ed} {pe:Option Addr} {ce:Nat} (hN:GN w) (hs:ScR S w a s) (hl:rEds.rd S2 w [.slice pe es.length ce] es) (hok:ScOk s) (he:EdsOk s.bars s.parts s.notes es) (hle:es.length≤1000) (hT:t=withS s 1 (runE s.bars s.notes es)) (htk:ScOk t) :
  Gives Tryz.prog 10 #[scV a s,.slice pe es.length ce] w fun r w'=>∃ x:Option Addr×Nat,r=.tuple #[.slice x.1 (diffE t.notes s.notes).length x.2,iv 0]∧rEds.rd (fun b=>w.heap.size≤b) w' [.slice x.1 (diffE t.notes s.notes).length x.2] (diffE t.notes s.notes):=by
 have lb:(Rp.slice rBr).rd (fun _=>True) w _ s.bars:=Rp.any hs.b
 have lp:(Rp.slice rPt).rd (fun _=>True) w _ s.parts:=Rp.any hs.p
 have ln:(Rp.slice rNt).rd (fun _=>True) w _ s.notes:=Rp.any hs.n
 have hs9:=hs.any
 unfold scV
 have hl:(Rp.slice rEd).rd (fun _=>True) w _ es:=Rp.any hl
 have hsn:=hok.notes
 have htn:=htk.notes
 have hsl:=hsn.len
 have htl:=htn.len
 refine gives_of [.agg (scw a s),.val (.slice pe es.length ce)] 113 [.tmp 4,.tmp 5] Tryz.func10 rfl rfl rfl (by simp) rfl rfl ?_
 refine W.pure dn fun K1 k1=>?_
 simp only[E,F,J,M,R,Tz,V,X,Y,reduceIte,G,H,sz];refine k1 _ ?_
 refine W.seqK fun K2 k2=>W.region ?_
 refine WO.go 2 dn ?_
 simp only[E,F,J,M,R,Tz,V,X,Y,reduceIte,G,H,sz]
 refine WO.callM (fun y:ScA×Option Addr×Nat=>.tuple #[scV y.1 t,.slice y.2.1 es.length y.2.2,iv 0]) (fun lo y sW=>ScR (fun b=>lo≤b) sW y.1 t∧w.heap.size≤lo) dn rfl rfl rfl co11 (fun ρ w1 hb=>by
   have h9:=apply_spec (a:=a) (pe:=pe) (ce:=ce) (hN.now (hb.first (by simp[St.put]))) (ScR.now hs9 (hb.first (by simp[St.put]))) (Rp.now hl (hb.first (by simp[St.put]))) hok he hle (show within 1 1000000 1=true by decide) hT
   exact h9.mono fun r w2 _ ⟨y,h1,h2,h3⟩=>⟨y,h1,h2,(hb.first (by simp[St.put])).size⟩) fun y9 lo1 s1 hd9=>?_
 obtain⟨d,q0,c0⟩:=y9
 obtain⟨hd,hlo1⟩:=hd9
 unfold scV
 simp only at hd ⊢
 refine WO.go 8 dn ?_
 simp only[E,F,J,M,R,Tz,V,X,Y,reduceIte,G,H,sz]
 refine WO.nil ?_
 refine k2 _ ?_
 refine W.seqK fun K3 k3=>?_
 refine W.pure dn fun K4 k4=>?_
 simp only[E,F,J,M,R,Tz,V,X,Y,reduceIte,G,H,sz];refine k4 _ ?_
 refine W.cond rfl rfl (fun hc=>?_) fun hc=>?_
 ·
  simp at hc
 ·
  refine W.skip (k3 _ ?_)
  refine W.seqK fun K5 k5=>W.region ?_
  refine WO.makeV dn rfl rfl rfl fun rA=>?_
  simp only[St.pushO,List.cons_append,List.nil_append]
  simp only[E,F,J,M,R,Tz,V,X,Y,reduceIte,G,H,sz]
  refine WO.makeV dn rfl rfl rfl fun rB=>?_
  simp only[St.pushO,List.cons_append,List.nil_append]
  refine WO.go 2 dn ?_
  simp only[E,F,J,M,R,Tz,V,X,Y,reduceIte,G,H,sz]
  refine WO.nil ?_
  refine k5 _ ?_
  refine W.seqK fun K6 k6=>?_
  refine W.pure dn fun K7 k7=>?_
  simp only[E,F,J,M,R,Tz,V,X,Y,reduceIte,G,H,sz];refine k7 _ ?_
  refine W.block ?_
  refine W.loopO (X:=Nat) [6,9,10,38,39] (fun x=>[(40,wv (x:Int))]) (fun x=>[.cells 26 (scw a s),.cells 26 (scw d t),.map rA (vmE (kvOf Nt.id ntA (s.notes.take x))) (kvOf Nt.id ntA (s.notes.take x)).length,.map rB (vmE []) 0]) (fun x=>[((fun b=>lo1≤b),s1),((fun _=>True),w)]) (fun x=>x≤s.notes.length) (fun x=>s.notes.length - x) 0 ?_ ?_ ?_
  · exact⟨rfl,by simp[getE,bnd,keepE],⟨[],by simp[kvOf]⟩,by simp[Own.bnd,bndL,bnd,boxO],by simp⟩
  ·
   exact Nat.zero_le _
  ·
   rintro i hi
   simp only[E,F,J,M,R,Tz,V,X,Y,reduceIte,sxk,G,H,sz]
   refine W.pure dn fun K8 k8=>?_
   simp only[E,F,J,M,R,Tz,V,X,Y,reduceIte,G,H,sz];refine k8 _ ?_
   refine W.seqK fun K9 k9=>?_
   refine W.cond rfl rfl (fun hc=>?_) fun hc=>?_
   ·
    have hlt:i<s.notes.length:=by simpa using hc
    obtain⟨y,hy⟩:=len_lt (rfl:s.notes.length=_) hlt
    have hnew:=kv_new (g:=ntA) hsn.nd hy
    refine W.skip (k9 _ ?_)
    refine W.seqK fun K10 k10=>?_
    refine W.block ?_
    refine W.seqK fun K11 k11=>W.region ?_
    refine WO.elem (y:=y) ln (by simp[St.put]) dn rfl rfl (by simp[St.put]) (fun _=>rfl) rfl rfl rfl rfl rfl el24 agg89 sz89 (.inl rfl) (by omega) (hy) fun p ces hces=>?_
    have hces:ces=ntV y:=hces
    subst hces
    simp only[ntV,ofCells,if_true,List.toList_toArray,sr]
    refine WO.go 2 dn ?_
    simp only[E,F,J,M,R,Tz,V,X,Y,reduceIte,G,H,sz]
    refine WO.nil ?_
    refine k11 _ ?_
    refine W.region ?_
    refine WO.go 4 dn ?_
    simp only[E,F,J,M,R,Tz,V,X,Y,reduceIte,G,H,sz]
    refine WO.addV (k:=2) (ks:=(kvOf Nt.id ntA (s.notes.take i))) (ntA y) dn rfl rfl rfl rfl rfl rfl ⟨_,rfl,fun _=>rfl⟩ (by kernel_rfl) hnew ?_
    rw[← show(kvOf Nt.id ntA (s.notes.take (i+1)))=(kvOf Nt.id ntA (s.notes.take i))++[(y.id,ntA y)] from kv_take (g:=ntA) hy]
    simp only[E,F,J,M,R,Tz,V,X,Y,reduceIte,G,H,sz]
    refine WO.nil ?_
    refine k10 _ ?_
    refine W.region ?_
    refine WO.go 2 dn ?_
    simp only[E,F,J,M,R,Tz,V,X,Y,reduceIte,G,H,sz]
    refine WO.nil ?_
    refine⟨i+1,hlt,by omega,rfl,by simp[getE,bnd,keepE,wrap_succ (show i+1≤9223372036854775807 by omega)],⟨_,rfl⟩,by simp[Own.bnd,bndL,bnd],by simp⟩
   ·
    have hge:s.notes.length≤i:=by simpa using hc
    rw[List.take_of_length_le hge]
    refine W.exit (k6 _ ?_)
    refine W.seqK fun K12 k12=>?_
    refine W.pure dn fun K13 k13=>?_
    simp only[E,F,J,M,R,Tz,V,X,Y,reduceIte,G,H,sz];refine k13 _ ?_
    refine W.block ?_
    refine W.loopO (X:=Nat) [9,10,50,51] (fun x=>[(52,wv (x:Int))]) (fun x=>[.cells 26 (scw a s),.cells 26 (scw d t),.map rA (vmE (kvOf Nt.id ntA (s.notes))) (kvOf Nt.id ntA (s.notes)).length,.map rB (vmE (kvOf Nt.id ntA (t.notes.take x))) (kvOf Nt.id ntA (t.notes.take x)).length]) (fun x=>[((fun b=>lo1≤b),s1),((fun _=>True),w)]) (fun x=>x≤t.notes.length) (fun x=>t.notes.length - x) 0 ?_ ?_ ?_
    · exact⟨rfl,by simp[getE,bnd,keepE],⟨[],by simp[kvOf]⟩,by simp[Own.bnd,bndL,bnd,boxO],by simp⟩
    ·
     exact Nat.zero_le _
    ·
     rintro i hi
     simp only[E,F,J,M,R,Tz,V,X,Y,reduceIte,sxk,G,H,sz]
     refine W.pure dn fun K14 k14=>?_
     simp only[E,F,J,M,R,Tz,V,X,Y,reduceIte,G,H,sz];refine k14 _ ?_
     refine W.seqK fun K15 k15=>?_
     refine W.cond rfl rfl (fun hc=>?_) fun hc=>?_
     ·
      have hlt:i<t.notes.length:=by simpa using hc
      obtain⟨y,hy⟩:=len_lt (rfl:t.notes.length=_) hlt
      have hnew:=kv_new (g:=ntA) htn.nd hy
      refine W.skip (k15 _ ?_)
      refine W.seqK fun K16 k16=>?_
      refine W.block ?_
      refine W.seqK fun K17 k17=>W.region ?_
      refine WO.elem (y:=y) hd.n (by simp[St.put]) dn rfl rfl (by simp[St.put]) (fun _=>rfl) rfl rfl rfl rfl rfl el24 agg89 sz89 (.inl rfl) (by omega) (hy) fun p ces hces=>?_
      have hces:ces=ntV y:=hces
      subst hces
      simp only[ntV,ofCells,if_true,List.toList_toArray,sr]
      refine WO.go 2 dn ?_
      simp only[E,F,J,M,R,Tz,V,X,Y,reduceIte,G,H,sz]
      refine WO.nil ?_
      refine k17 _ ?_
      refine W.region ?_
      refine WO.go 4 dn ?_
      simp only[E,F,J,M,R,Tz,V,X,Y,reduceIte,G,H,sz]
      refine WO.addV (k:=3) (ks:=(kvOf Nt.id ntA (t.notes.take i))) (ntA y) dn rfl rfl rfl rfl rfl rfl ⟨_,rfl,fun _=>rfl⟩ (by kernel_rfl) hnew ?_
      rw[← show(kvOf Nt.id ntA (t.notes.take (i+1)))=(kvOf Nt.id ntA (t.notes.take i))++[(y.id,ntA y)] from kv_take (g:=ntA) hy]
      simp only[E,F,J,M,R,Tz,V,X,Y,reduceIte,G,H,sz]
      refine WO.nil ?_
      refine k16 _ ?_
      refine W.region ?_
      refine WO.go 2 dn ?_
      simp only[E,F,J,M,R,Tz,V,X,Y,reduceIte,G,H,sz]
      refine WO.nil ?_
      refine⟨i+1,hlt,by omega,rfl,by simp[getE,bnd,keepE,wrap_succ (show i+1≤9223372036854775807 by omega)],⟨_,rfl⟩,by simp[Own.bnd,bndL,bnd],by simp⟩
     ·
      have hge:t.notes.length≤i:=by simpa using hc
      rw[List.take_of_length_le hge]
      refine W.exit (k12 _ ?_)
      refine W.pure dn fun K18 k18=>?_
      simp only[E,F,J,M,R,Tz,V,X,Y,reduceIte,G,H,sz];refine k18 _ ?_
      refine W.ownNil 101 15 ?_
      simp only[Bool.false_eq_true,E,F,J,M,R,Tz,V,X,Y,reduceIte,St.pushO,List.cons_append,List.nil_append,sz]
      refine W.pin (k:=4) [.slice none 0 0] rfl (fun _=>rfl) (by rw[maxLen_eq];simp) fun bo=>?_
      simp only[pinE,pinS,pin1,den,denL,setN,Nat.zero_add,J,X,reduceIte,Nat.succ_ne_self,Nat.one_ne_zero]
      refine W.pure dn fun K19 k19=>?_
      simp only[E,F,J,M,R,Tz,V,X,Y,reduceIte,G,H,sz];refine k19 _ ?_
      refine W.seqK fun K20 k20=>?_
      refine W.seqK fun K21 k21=>W.region ?_
      refine WO.go 1 dn ?_
      simp only[E,F,J,M,R,Tz,V,X,Y,reduceIte,G,H,sz]
      refine WO.callM (fun b:Nat=>.func (.func 77) #[] #[.pointer (some ⟨b,0,none⟩)]) (fun lo b sW=>At sW ⟨b,0,none⟩ [.map (some rB)]∧lo≤b∧b<sW.heap.size) dn rfl rfl rfl co33 (fun ρ w1 hb=>fKeys_spec) fun bK loK sK hK=>?_
      simp only[E,F,J,M,R,Tz,V,X,Y,reduceIte,G,H,sz]
      refine WO.callM (fun x:Option Addr×Nat=>.slice x.1 (idS t.notes).length x.2) (fun lo x sW=>(Rp.slice (Rp.int .i64)).rd (fun b=>lo≤b) sW [.slice x.1 (idS t.notes).length x.2] (idS t.notes)) dn rfl rfl rfl co32 (fun ρ w1 hb=>(fSortedN_spec hoff (hK.1.frame ((hb.at (S:=fun b=>loK≤b) (s:=sK) (by simp[St.put])).block _ hK.2.1 hK.2.2)) (Nat.lt_of_lt_of_le hK.2.2 (hb.at (S:=fun b=>loK≤b) (s:=sK) (by simp[St.put])).size) (own_map hb (k:=3) rfl) htn).mono fun r w2 _ ⟨x,h1,h2,h3⟩=>⟨x,h1,owi_rd h2 h3⟩) fun x loI sI hI=>?_
      obtain⟨qK,cK⟩:=x
      simp only at hI
      refine WO.go 2 dn ?_
      simp only[E,F,J,M,R,Tz,V,X,Y,reduceIte,G,H,sz]
      refine WO.nil ?_
      refine k21 _ ?_
      refine W.block ?_
      refine W.loopO (X:=Nat×Option Addr×Nat) [9,10,15,16,64,65] (fun x=>[(66,wv (x.1:Int))]) (fun x=>[.cells 26 (scw a s),.cells 26 (scw d t),.map rA (vmE (kvOf Nt.id ntA (s.notes))) (kvOf Nt.id ntA (s.notes)).length,.map rB (vmE (kvOf Nt.id ntA (t.notes))) (kvOf Nt.id ntA (t.notes)).length,boxO 37 bo [.slice x.2.1 (edsOf (kE1 t.notes s.notes x.1)).length x.2.2],.slice 101 15 (.slice x.2.1 (edsOf (kE1 t.notes s.notes x.1)).length x.2.2) (edsOf (kE1 t.notes s.notes x.1)).length (rowV edV (edsOf (kE1 t.notes s.notes x.1)))]) (fun x=>[((fun b=>loI≤b),sI),((fun b=>loK≤b),sK),((fun b=>lo1≤b),s1),((fun _=>True),w)]) (fun x=>x.1≤(idS t.notes).length) (fun x=>(idS t.notes).length - x.1) (0,none,0) ?_ ?_ ?_
      · exact⟨rfl,by simp[getE,bnd,keepE,bndL],⟨[],by simp[kE1,edsOf,rowV]⟩,by simp[Own.bnd,bndL,bnd,boxO],by simp⟩
      ·
       exact Nat.zero_le _
      ·
       rintro⟨i,q5,c5⟩ hi
       simp only at hi
       simp only[E,F,J,M,R,Tz,V,X,Y,reduceIte,sxk,G,H,sz]
       refine W.pure dn fun K22 k22=>?_
       simp only[E,F,J,M,R,Tz,V,X,Y,reduceIte,G,H,sz];refine k22 _ ?_
       refine W.seqK fun K23 k23=>?_
       refine W.cond rfl rfl (fun hc=>?_) fun hc=>?_
       ·
        have hlt:i<(idS t.notes).length:=by simpa using hc
        obtain⟨y,hy⟩:=len_lt (rfl:(idS t.notes).length=_) hlt
        have hi1:=idS_len t.notes
        have hi2:=idS_len s.notes
        have hkl:=kE1_len t.notes s.notes i
        refine W.skip (k23 _ ?_)
        refine W.seqK fun K24 k24=>?_
        refine W.block ?_
        refine W.seqK fun K25 k25=>W.region ?_
        refine WO.elem (y:=y) hI (by simp[St.put]) dn rfl rfl (by simp[St.put]) (fun _=>rfl) rfl rfl rfl rfl rfl el94 agg3 sz3 (.inr rfl) (by omega) (hy) fun p ces hces=>?_
        have hces:ces=[iv y]:=hces
        subst hces
        simp only[ofCells,sr]
        refine WO.go 1 dn ?_
        simp only[E,F,J,M,R,Tz,V,X,Y,reduceIte,G,H,sz]
        refine WO.nil ?_
        refine k25 _ ?_
        refine W.seqK fun K26 k26=>W.region ?_
        refine WO.go 2 dn ?_
        simp only[E,F,J,M,R,Tz,V,X,Y,reduceIte,G,H,sz]
        refine WO.q dn rfl rfl (QR.lookup (r:=rA) (ks:=(kvOf Nt.id ntA (s.notes))) (ntA (zeroN 0)) (ntq ((noteAt s.notes y).getD (zeroN 0))) (noteAt s.notes y).isSome true rfl rfl rfl (fun ρ w1 hb=>own_map hb (k:=2) rfl) (by kernel_rfl) (note_get hsn.nd y)) ?_
        simp only[Bool.false_eq_true,if_false,if_true]
        refine WO.go 6 dn ?_
        simp only[E,F,J,M,R,Tz,V,X,Y,reduceIte,G,H,sz]
        refine WO.nil ?_
        refine k26 _ ?_
        refine W.pure dn fun K27 k27=>?_
        simp only[E,F,J,M,R,Tz,V,X,Y,reduceIte,G,H,sz];refine k27 _ ?_
        refine W.cond rfl rfl (fun hc=>?_) fun hc=>?_
        ·
         have hno:noteAt s.notes y=none:=by simpa using hc
         have hks:=kE1_yes hy hno
         refine W.region ?_
         refine WO.go 3 dn ?_
         simp only[E,F,J,M,R,Tz,V,X,Y,reduceIte,G,H,sz]
         refine WO.callL (own:=[boxO 37 bo [.slice q5 (edsOf (kE1 t.notes s.notes i)).length c5],.slice 101 15 (.slice q5 (edsOf (kE1 t.notes s.notes i)).length c5) (edsOf (kE1 t.notes s.notes i)).length (rowV edV (edsOf (kE1 t.notes s.notes i)))]) [4,5] (fun _:Option Addr×Nat=>.tuple #[]) (fun u9=>[boxO 37 bo [.slice u9.1 (edsOf (kE1 t.notes s.notes i++[(2,(zeroN y))])).length u9.2],.slice 101 15 (.slice u9.1 (edsOf (kE1 t.notes s.notes i++[(2,(zeroN y))])).length u9.2) (edsOf (kE1 t.notes s.notes i++[(2,(zeroN y))])).length (rowV edV (edsOf (kE1 t.notes s.notes i++[(2,(zeroN y))])))]) (fun _ _ _=>True) dn rfl rfl rfl co34 ⟨rfl,rfl,trivial⟩ (by decide) rfl (fun _=>rfl) (fun _=>rfl) (fun ρ w1 hb hlie1=>?_) fun y9 lo9 s9 _=>?_
         ·
          have h9:=eadd_spec (bo:=bo) (l:=kE1 t.notes s.notes i) (q:=q5) (c:=c5) (kd:=2) (n:=(zeroN y)) (by omega) hlie1
          exact Calls.mono h9 fun e w2 ⟨v9,he9,hk9,u9,h1,h3⟩=>⟨v9,he9,hk9,u9,h1,trivial,h3⟩
         obtain⟨q',c'⟩:=y9
         simp only[setOL,setN,M]
         rw[← hks]
         simp only[E,F,J,M,R,Tz,V,X,Y,reduceIte,G,H,sz]
         refine WO.nil ?_
         refine k24 _ ?_
         refine W.region ?_
         refine WO.go 2 dn ?_
         simp only[E,F,J,M,R,Tz,V,X,Y,reduceIte,G,H,sz]
         refine WO.nil ?_
         refine⟨(i+1,q',c'),hlt,by simp only;omega,rfl,by simp[getE,bnd,bndL,keepE,wrap_succ (show i+1≤9223372036854775807 by omega)],⟨_,by simp only[];rfl⟩,by simp[Own.bnd,bndL,bnd,boxO],by simp⟩
        ·
         have hno:¬ noteAt s.notes y=none:=by intro h9;rw[h9] at hc;simp at hc
         have hks:=kE1_no hy hno
         refine W.skip (k24 _ ?_)
         refine W.region ?_
         refine WO.go 2 dn ?_
         simp only[E,F,J,M,R,Tz,V,X,Y,reduceIte,G,H,sz]
         refine WO.nil ?_
         refine⟨(i+1,q5,c5),hlt,by simp only;omega,rfl,by simp[getE,bnd,bndL,keepE,wrap_succ (show i+1≤9223372036854775807 by omega)],⟨_,by simp only[hks];rfl⟩,by simp[Own.bnd,bndL,bnd,boxO],by simp⟩
       ·
        have hge:(idS t.notes).length≤i:=by simpa using hc
        rw[kE1_all hge]
        refine W.exit (k20 _ ?_)
        refine W.seqK fun K28 k28=>?_
        refine W.seqK fun K29 k29=>W.region ?_
        refine WO.go 1 dn ?_
        simp only[E,F,J,M,R,Tz,V,X,Y,reduceIte,G,H,sz]
        refine WO.callM (fun b:Nat=>.func (.func 77) #[] #[.pointer (some ⟨b,0,none⟩)]) (fun lo b sW=>At sW ⟨b,0,none⟩ [.map (some rA)]∧lo≤b∧b<sW.heap.size) dn rfl rfl rfl co33 (fun ρ w1 hb=>fKeys_spec) fun bK loK sK hK=>?_
        simp only[E,F,J,M,R,Tz,V,X,Y,reduceIte,G,H,sz]
        refine WO.callM (fun x:Option Addr×Nat=>.slice x.1 (idS s.notes).length x.2) (fun lo x sW=>(Rp.slice (Rp.int .i64)).rd (fun b=>lo≤b) sW [.slice x.1 (idS s.notes).length x.2] (idS s.notes)) dn rfl rfl rfl co32 (fun ρ w1 hb=>(fSortedN_spec hoff (hK.1.frame ((hb.at (S:=fun b=>loK≤b) (s:=sK) (by simp[St.put])).block _ hK.2.1 hK.2.2)) (Nat.lt_of_lt_of_le hK.2.2 (hb.at (S:=fun b=>loK≤b) (s:=sK) (by simp[St.put])).size) (own_map hb (k:=2) rfl) hsn).mono fun r w2 _ ⟨x,h1,h2,h3⟩=>⟨x,h1,owi_rd h2 h3⟩) fun x loI sI hI=>?_
        obtain⟨qK,cK⟩:=x
        simp only at hI
        refine WO.go 2 dn ?_
        simp only[E,F,J,M,R,Tz,V,X,Y,reduceIte,G,H,sz]
        refine WO.nil ?_
        refine k29 _ ?_
        refine W.block ?_
        refine W.loopO (X:=Nat×Option Addr×Nat) [9,10,15,16,85,86] (fun x=>[(87,wv (x.1:Int))]) (fun x=>[.cells 26 (scw a s),.cells 26 (scw d t),.map rA (vmE (kvOf Nt.id ntA (s.notes))) (kvOf Nt.id ntA (s.notes)).length,.map rB (vmE (kvOf Nt.id ntA (t.notes))) (kvOf Nt.id ntA (t.notes)).length,boxO 37 bo [.slice x.2.1 (edsOf (kE2 t.notes s.notes x.1)).length x.2.2],.slice 101 15 (.slice x.2.1 (edsOf (kE2 t.notes s.notes x.1)).length x.2.2) (edsOf (kE2 t.notes s.notes x.1)).length (rowV edV (edsOf (kE2 t.notes s.notes x.1)))]) (fun x=>[((fun b=>loI≤b),sI),((fun b=>loK≤b),sK),((fun b=>lo1≤b),s1),((fun _=>True),w)]) (fun x=>x.1≤(idS s.notes).length) (fun x=>(idS s.notes).length - x.1) (0,q5,c5) ?_ ?_ ?_
        · exact⟨rfl,by simp[getE,bnd,keepE,bndL],⟨[],by simp⟩,by simp[Own.bnd,bndL,bnd,boxO],by simp⟩
        ·
         exact Nat.zero_le _
        ·
         rintro⟨i,q5,c5⟩ hi
         simp only at hi
         simp only[E,F,J,M,R,Tz,V,X,Y,reduceIte,sxk,G,H,sz]
         refine W.pure dn fun K30 k30=>?_
         simp only[E,F,J,M,R,Tz,V,X,Y,reduceIte,G,H,sz];refine k30 _ ?_
         refine W.seqK fun K31 k31=>?_
         refine W.cond rfl rfl (fun hc=>?_) fun hc=>?_
         ·
          have hlt:i<(idS s.notes).length:=by simpa using hc
          obtain⟨y,hy⟩:=len_lt (rfl:(idS s.notes).length=_) hlt
          obtain⟨nb,hnb⟩:=idS_at hsn.nd hy
          have hi1:=idS_len t.notes
          have hi2:=idS_len s.notes
          have hkl:=kE2_len t.notes s.notes i
          refine W.skip (k31 _ ?_)
          refine W.seqK fun K32 k32=>?_
          refine W.block ?_
          refine W.seqK fun K33 k33=>W.region ?_
          refine WO.elem (y:=y) hI (by simp[St.put]) dn rfl rfl (by simp[St.put]) (fun _=>rfl) rfl rfl rfl rfl rfl el94 agg3 sz3 (.inr rfl) (by omega) (hy) fun p ces hces=>?_
          have hces:ces=[iv y]:=hces
          subst hces
          simp only[ofCells,sr]
          refine WO.go 1 dn ?_
          simp only[E,F,J,M,R,Tz,V,X,Y,reduceIte,G,H,sz]
          refine WO.nil ?_
          refine k33 _ ?_
          refine W.seqK fun K34 k34=>W.region ?_
          refine WO.go 2 dn ?_
          simp only[E,F,J,M,R,Tz,V,X,Y,reduceIte,G,H,sz]
          refine WO.q dn rfl rfl (QR.lookup (r:=rB) (ks:=(kvOf Nt.id ntA (t.notes))) (ntA (zeroN 0)) (ntq ((noteAt t.notes y).getD (zeroN 0))) (noteAt t.notes y).isSome true rfl rfl rfl (fun ρ w1 hb=>own_map hb (k:=3) rfl) (by kernel_rfl) (note_get htn.nd y)) ?_
          simp only[Bool.false_eq_true,if_false,if_true]
          refine WO.go 6 dn ?_
          simp only[E,F,J,M,R,Tz,V,X,Y,reduceIte,G,H,sz]
          refine WO.nil ?_
          refine k34 _ ?_
          refine W.join 105 (.val (.bool (decide (¬ noteAt t.notes y=some nb)))) [9,10,15,16,22,85,86,87] (W.region ?_) ?_
          ·
           refine WO.go 3 (ds:=D74_) rfl ?_
           simp only[E,F,J,M,R,Tz,V,X,Y,reduceIte,G,H,sz]
           refine WO.cases 99 _ rfl (fun hg99=>?_) fun hg99=>?_
           ·
            have hna:noteAt t.notes y=none:=by simpa using hg99
            have hnt:decide (¬ noteAt t.notes y=some nb)=true:=by rw[hna];simp
            refine WO.go 6 (ds:=D74_) rfl ?_
            simp only[E,F,J,M,R,Tz,V,X,Y,reduceIte,G,H,sz]
            refine WO.nil ?_
            refine⟨rfl,?_,⟨_,rfl⟩,by simp[Own.bnd,bndL,bnd,boxO],by simp⟩
            rw[hnt]
            first
            | (simp[getE,bnd,bndL,keepE];done)
            | (rw[← nt_beq];simp[getE,bnd,bndL,keepE,hna,hnb])
           ·
            obtain⟨na,hna⟩:∃ na,noteAt t.notes y=some na:=by
                                          cases hq:noteAt t.notes y with
                                          | none=>rw[hq] at hg99;simp at hg99
                                          | some na=>exact⟨na,rfl⟩
            have hnt:decide (¬ noteAt t.notes y=some nb)=!decide (na=nb):=by rw[hna];simp
            refine WO.go 3 (ds:=D74_) rfl ?_
            simp only[E,F,J,M,R,Tz,V,X,Y,reduceIte,G,H,sz]
            refine WO.q (ds:=D74_) rfl rfl rfl (QR.lookup (r:=rA) (ks:=(kvOf Nt.id ntA (s.notes))) (ntA (zeroN 0)) (ntq ((noteAt s.notes y).getD (zeroN 0))) (noteAt s.notes y).isSome false rfl rfl rfl (fun ρ w1 hb=>own_map hb (k:=2) rfl) (by kernel_rfl) (note_get hsn.nd y)) ?_
            simp only[Bool.false_eq_true,if_false,if_true]
            simp only[E,F,J,M,R,Tz,V,X,Y,reduceIte,G,H,sz]
            refine WO.aggCmpN [((noteAt t.notes y).getD (zeroN 0)).id,((noteAt t.notes y).getD (zeroN 0)).part,((noteAt t.notes y).getD (zeroN 0)).bar,((noteAt t.notes y).getD (zeroN 0)).voice,((noteAt t.notes y).getD (zeroN 0)).ossia,((noteAt t.notes y).getD (zeroN 0)).start.1,((noteAt t.notes y).getD (zeroN 0)).start.2,((noteAt t.notes y).getD (zeroN 0)).len.1,((noteAt t.notes y).getD (zeroN 0)).len.2,((noteAt t.notes y).getD (zeroN 0)).pit.1,((noteAt t.notes y).getD (zeroN 0)).pit.2.1,((noteAt t.notes y).getD (zeroN 0)).pit.2.2] [((noteAt s.notes y).getD (zeroN 0)).id,((noteAt s.notes y).getD (zeroN 0)).part,((noteAt s.notes y).getD (zeroN 0)).bar,((noteAt s.notes y).getD (zeroN 0)).voice,((noteAt s.notes y).getD (zeroN 0)).ossia,((noteAt s.notes y).getD (zeroN 0)).start.1,((noteAt s.notes y).getD (zeroN 0)).start.2,((noteAt s.notes y).getD (zeroN 0)).len.1,((noteAt s.notes y).getD (zeroN 0)).len.2,((noteAt s.notes y).getD (zeroN 0)).pit.1,((noteAt s.notes y).getD (zeroN 0)).pit.2.1,((noteAt s.notes y).getD (zeroN 0)).pit.2.2] (ds:=D74_) rfl rfl rfl rfl ⟨_,rfl,fun _=>rfl⟩ ⟨_,rfl,fun _=>rfl⟩ itn89 rfl rfl rfl ?_
            refine WO.go 1 (ds:=D74_) rfl ?_
            simp only[E,F,J,M,R,Tz,V,X,Y,reduceIte,G,H,sz]
            refine WO.nil ?_
            refine⟨rfl,?_,⟨_,rfl⟩,by simp[Own.bnd,bndL,bnd,boxO],by simp⟩
            rw[hnt]
            first
            | (simp[getE,bnd,bndL,keepE];done)
            | (rw[← nt_beq];simp[getE,bnd,bndL,keepE,hna,hnb])
          ·
           simp only[E,F,J,M,R,Tz,V,X,Y,reduceIte,sxk,G,H,sz]
           refine W.cond rfl rfl (fun hc=>?_) fun hc=>?_
           ·
            have hdf:¬ noteAt t.notes y=some nb:=by simpa using hc
            have hks:=kE2_yes hy hnb hdf
            refine W.region ?_
            refine WO.go 3 dn ?_
            simp only[E,F,J,M,R,Tz,V,X,Y,reduceIte,G,H,sz]
            refine WO.q dn rfl rfl (QR.lookup (r:=rA) (ks:=(kvOf Nt.id ntA (s.notes))) (ntA (zeroN 0)) (ntq ((noteAt s.notes y).getD (zeroN 0))) (noteAt s.notes y).isSome false rfl rfl rfl (fun ρ w1 hb=>own_map hb (k:=2) rfl) (by kernel_rfl) (note_get hsn.nd y)) ?_
            simp only[Bool.false_eq_true,if_false,if_true]
            simp only[hnb,Option.getD_some]
            simp only[E,F,J,M,R,Tz,V,X,Y,reduceIte,G,H,sz]
            refine WO.callL (own:=[boxO 37 bo [.slice q5 (edsOf (kE2 t.notes s.notes i)).length c5],.slice 101 15 (.slice q5 (edsOf (kE2 t.notes s.notes i)).length c5) (edsOf (kE2 t.notes s.notes i)).length (rowV edV (edsOf (kE2 t.notes s.notes i)))]) [4,5] (fun _:Option Addr×Nat=>.tuple #[]) (fun u9=>[boxO 37 bo [.slice u9.1 (edsOf (kE2 t.notes s.notes i++[(1,nb)])).length u9.2],.slice 101 15 (.slice u9.1 (edsOf (kE2 t.notes s.notes i++[(1,nb)])).length u9.2) (edsOf (kE2 t.notes s.notes i++[(1,nb)])).length (rowV edV (edsOf (kE2 t.notes s.notes i++[(1,nb)])))]) (fun _ _ _=>True) dn rfl rfl rfl co34 ⟨rfl,rfl,trivial⟩ (by decide) rfl (fun _=>rfl) (fun _=>rfl) (fun ρ w1 hb hlie1=>?_) fun y9 lo9 s9 _=>?_
            ·
             have h9:=eadd_spec (bo:=bo) (l:=kE2 t.notes s.notes i) (q:=q5) (c:=c5) (kd:=1) (n:=nb) (by omega) hlie1
             exact Calls.mono h9 fun e w2 ⟨v9,he9,hk9,u9,h1,h3⟩=>⟨v9,he9,hk9,u9,h1,trivial,h3⟩
            obtain⟨q',c'⟩:=y9
            simp only[setOL,setN,M]
            rw[← hks]
            simp only[E,F,J,M,R,Tz,V,X,Y,reduceIte,G,H,sz]
            refine WO.nil ?_
            refine k32 _ ?_
            refine W.region ?_
            refine WO.go 2 dn ?_
            simp only[E,F,J,M,R,Tz,V,X,Y,reduceIte,G,H,sz]
            refine WO.nil ?_
            refine⟨(i+1,q',c'),hlt,by simp only;omega,rfl,by simp[getE,bnd,bndL,keepE,wrap_succ (show i+1≤9223372036854775807 by omega)],⟨_,by simp only[];rfl⟩,by simp[Own.bnd,bndL,bnd,boxO],by simp⟩
           ·
            have hdf:noteAt t.notes y=some nb:=by simpa using hc
            have hks:=kE2_no hy hnb hdf
            refine W.skip (k32 _ ?_)
            refine W.region ?_
            refine WO.go 2 dn ?_
            simp only[E,F,J,M,R,Tz,V,X,Y,reduceIte,G,H,sz]
            refine WO.nil ?_
            refine⟨(i+1,q5,c5),hlt,by simp only;omega,rfl,by simp[getE,bnd,bndL,keepE,wrap_succ (show i+1≤9223372036854775807 by omega)],⟨_,by simp only[hks];rfl⟩,by simp[Own.bnd,bndL,bnd,boxO],by simp⟩
         ·
          have hge:(idS s.notes).length≤i:=by simpa using hc
          rw[kE2_all hge]
          refine W.exit (k28 _ ?_)
          refine W.seqK fun K36 k36=>W.region ?_
          refine WO.q dn rfl rfl (QR.load [.slice q5 (diffE t.notes s.notes).length c5] false rfl rfl agg37 sz37 (.inr rfl) (fun ρ w1 hb=>box_at (k:=4) hb rfl)) ?_
          simp only[ofCells,sr]
          refine WO.go 2 dn ?_
          simp only[E,F,J,M,R,Tz,V,X,Y,reduceIte,G,H,sz]
          refine WO.nil ?_
          refine k36 _ ?_
          refine W.ret ⟨by simp,_,rfl,fun ρ w1 hb=>?_⟩
          exact⟨(q5,c5),rfl,owr_read (j:=5) (T:=101) (k:=15) (f:=edV) (h:=fun _=>rfl) hb rfl (fun b9 h9=>own_new (k:=5) hb (by simp) rfl h9)⟩
theorem w0_:IntKind.i64.wrap 0=0:=rfl
theorem w1_:IntKind.i64.wrap 1=1:=rfl
theorem w10_:IntKind.i64.wrap 10=10:=rfl
theorem w60_:IntKind.i64.wrap 60=60:=rfl
theorem starts_spec (w:World) (b:Int):Gives Tryz.prog 217 #[.agg #[iv 1,.slice none 0 0,.slice none 0 0,iv 0,iv 0,iv 0,.slice none 0 0],iv b] w fun r _=>r=iv (-1):=by
 refine gives_of [.agg [wv 1,.val (.slice none 0 0),.val (.slice none 0 0),wv 0,wv 0,wv 0,.val (.slice none 0 0)],wv b] 22 [.tmp 4] Tryz.func217 rfl rfl rfl (by simp) rfl rfl ?_
 refine W.pure dn fun K1 k1=>?_
 simp only[E,F,J,M,R,Tz,V,X,Y,reduceIte,G,H,Z1,Z2,Z3,Z4,Z5,Z6,Z7,w1_,w0_,w10_,w60_,Z8,Z9,sd,sz];refine k1 _ ?_
 refine W.seqK fun K2 k2=>?_
 refine W.pure dn fun K3 k3=>?_
 simp only[E,F,J,M,R,Tz,V,X,Y,reduceIte,G,H,Z1,Z2,Z3,Z4,Z5,Z6,Z7,w1_,w0_,w10_,w60_,Z8,Z9,sd,sz];refine k3 _ ?_
 refine W.block ?_
 refine W.loopK (X:=Unit) [1,2] (fun x=>[(5,wv 0)]) (fun x=>True) (fun x=>0) () ?_ ?_ ?_
 · exact⟨rfl,by simp[getE,bnd,keepE],⟨[],by simp⟩,by simp[Own.bnd,bndL,bnd,boxO],by simp⟩
 ·
  trivial
 ·
  rintro _ _
  simp only[E,F,J,M,R,Tz,V,X,Y,reduceIte,sxk,G,H,Z1,Z2,Z3,Z4,Z5,Z6,Z7,w1_,w0_,w10_,w60_,Z8,Z9,sd,sz]
  refine W.seqK fun K4 k4=>?_
  refine W.pure dn fun K5 k5=>?_
  simp only[E,F,J,M,R,Tz,V,X,Y,reduceIte,G,H,Z1,Z2,Z3,Z4,Z5,Z6,Z7,w1_,w0_,w10_,w60_,Z8,Z9,sd,sz];refine k5 _ ?_
  refine W.cond rfl rfl (fun hc=>?_) fun hc=>?_
  ·
   simp at hc
  ·
   refine W.exit (k2 _ ?_)
   refine W.pure dn fun K6 k6=>?_
   simp only[E,F,J,M,R,Tz,V,X,Y,reduceIte,G,H,Z1,Z2,Z3,Z4,Z5,Z6,Z7,w1_,w0_,w10_,w60_,Z8,Z9,sd,sz];refine k6 _ ?_
   refine W.ret ⟨by simp,_,rfl,fun ρ w1 hb=>?_⟩
   rfl
theorem part1_spec (w:World):Gives Tryz.prog 194 #[.agg #[iv 1,.slice none 0 0,.slice none 0 0,iv 0,iv 0,iv 0,.slice none 0 0],iv 0,iv 1,.bool false] w fun r _=>∃ x:Option Addr×Nat,r=.slice x.1 1 x.2:=by
 refine gives_of [.agg [wv 1,.val (.slice none 0 0),.val (.slice none 0 0),wv 0,wv 0,wv 0,.val (.slice none 0 0)],wv 0,wv 1,.val (.bool false)] 65 [.tmp 8] Tryz.func194 rfl rfl rfl (by simp) rfl rfl ?_
 refine W.pure dn fun K1 k1=>?_
 simp only[E,F,J,M,R,Tz,V,X,Y,reduceIte,G,H,Z1,Z2,Z3,Z4,Z5,Z6,Z7,w1_,w0_,w10_,w60_,Z8,Z9,sd,sz];refine k1 _ ?_
 refine W.pure dn fun K2 k2=>?_
 simp only[E,F,J,M,R,Tz,V,X,Y,reduceIte,G,H,Z1,Z2,Z3,Z4,Z5,Z6,Z7,w1_,w0_,w10_,w60_,Z8,Z9,sd,sz];refine k2 _ ?_
 refine W.seqK fun K3 k3=>?_
 refine W.ownNil 3 1 ?_
 simp only[Bool.false_eq_true,E,F,J,M,R,Tz,V,X,Y,reduceIte,St.pushO,List.cons_append,List.nil_append,sz]
 refine W.pure dn fun K4 k4=>?_
 simp only[E,F,J,M,R,Tz,V,X,Y,reduceIte,G,H,Z1,Z2,Z3,Z4,Z5,Z6,Z7,w1_,w0_,w10_,w60_,Z8,Z9,sd,sz];refine k4 _ ?_
 refine W.block ?_
 refine W.loopO (X:=Nat×Option Addr×Nat) [2,3,4] (fun x=>[(9,.val (.slice x.2.1 x.1 x.2.2)),(10,wv (x.1:Int))]) (fun x=>[.cells 126 [wv 1,.val (.slice none 0 0),.val (.slice none 0 0),wv 0,wv 0,wv 0,.val (.slice none 0 0)],.slice 3 1 (.slice x.2.1 x.1 x.2.2) x.1 (List.replicate x.1 (iv 0))]) (fun x=>[((fun _=>True),w)]) (fun x=>x.1≤1) (fun x=>1 - x.1) (0,none,0) ?_ ?_ ?_
 · exact⟨rfl,by simp[getE,bnd,keepE],⟨[],by simp⟩,by simp[Own.bnd,bndL,bnd,boxO],by simp⟩
 ·
  exact Nat.zero_le _
 ·
  rintro⟨i,q5,c5⟩ hi
  simp only at hi
  simp only[E,F,J,M,R,Tz,V,X,Y,reduceIte,sxk,G,H,Z1,Z2,Z3,Z4,Z5,Z6,Z7,w1_,w0_,w10_,w60_,Z8,Z9,sd,sz]
  refine W.seqK fun K5 k5=>?_
  refine W.pure dn fun K6 k6=>?_
  simp only[E,F,J,M,R,Tz,V,X,Y,reduceIte,G,H,Z1,Z2,Z3,Z4,Z5,Z6,Z7,w1_,w0_,w10_,w60_,Z8,Z9,sd,sz];refine k6 _ ?_
  refine W.cond rfl rfl (fun hc=>?_) fun hc=>?_
  ·
   have hlt:i<1:=by simp at hc;omega
   obtain rfl:i=0:=by omega
   refine W.skip (k5 _ ?_)
   refine W.block ?_
   refine W.seqK fun K7 k7=>W.region ?_
   refine WO.go 2 dn ?_
   simp only[E,F,J,M,R,Tz,V,X,Y,reduceIte,G,H,Z1,Z2,Z3,Z4,Z5,Z6,Z7,w1_,w0_,w10_,w60_,Z8,Z9,sd,sz]
   refine WO.call (iv (-1)) dn rfl rfl rfl co217 (fun ρ w1 hb=>starts_spec w1 _) ?_
   refine WO.go 1 dn ?_
   simp only[E,F,J,M,R,Tz,V,X,Y,reduceIte,G,H,Z1,Z2,Z3,Z4,Z5,Z6,Z7,w1_,w0_,w10_,w60_,Z8,Z9,sd,sz]
   refine WO.nil ?_
   refine k7 _ ?_
   refine W.seqK fun K8 k8=>?_
   refine W.pure dn fun K9 k9=>?_
   simp only[E,F,J,M,R,Tz,V,X,Y,reduceIte,G,H,Z1,Z2,Z3,Z4,Z5,Z6,Z7,w1_,w0_,w10_,w60_,Z8,Z9,sd,sz];refine k9 _ ?_
   refine W.cond rfl rfl (fun hc=>?_) fun hc=>?_
   rotate_left
   ·
    simp at hc
   ·
    refine W.seqK fun K10 k10=>W.region ?_
    refine WO.go 3 dn ?_
    simp only[E,F,J,M,R,Tz,V,X,Y,reduceIte,G,H,Z1,Z2,Z3,Z4,Z5,Z6,Z7,w1_,w0_,w10_,w60_,Z8,Z9,sd,sz]
    refine WO.append (k:=1) (m:=1) [iv 0] dn rfl rfl rfl rfl rfl rfl ek94 (news_own (k2:=2) rfl fun _=>rfl) rfl (by simp[Value.oneCell']) (by rw[maxLen_eq];omega) (by omega) fun p6 c6=>?_
    refine WO.go 1 dn ?_
    simp only[E,F,J,M,R,Tz,V,X,Y,reduceIte,G,H,Z1,Z2,Z3,Z4,Z5,Z6,Z7,w1_,w0_,w10_,w60_,Z8,Z9,sd,sz]
    refine WO.nil ?_
    refine k10 _ ?_
    refine W.pure dn fun K11 k11=>?_
    simp only[E,F,J,M,R,Tz,V,X,Y,reduceIte,G,H,Z1,Z2,Z3,Z4,Z5,Z6,Z7,w1_,w0_,w10_,w60_,Z8,Z9,sd,sz];refine k11 _ ?_
    refine W.exit ?_
    refine⟨(1,p6,c6),Nat.le_refl _,by simp,rfl,by simp[getE,bnd,keepE,show IntKind.i64.wrap 1=1 from rfl],⟨_,rfl⟩,by simp[Own.bnd,bndL,bnd],by simp⟩
  ·
   have hge:¬ i<1:=by simp at hc;omega
   obtain rfl:i=1:=by omega
   refine W.exit (k3 _ ?_)
   refine W.pure dn fun K12 k12=>?_
   simp only[E,F,J,M,R,Tz,V,X,Y,reduceIte,G,H,Z1,Z2,Z3,Z4,Z5,Z6,Z7,w1_,w0_,w10_,w60_,Z8,Z9,sd,sz];refine k12 _ ?_
   refine W.ret ⟨by simp,_,rfl,fun ρ w1 hb=>?_⟩
   exact⟨(q5,c5),rfl⟩
theorem whole_spec (w:World):Gives Tryz.prog 149 #[.agg #[iv 1,.slice none 0 0,.slice none 0 0,iv 0,iv 0,iv 0,.slice none 0 0]] w fun r _=>∃ x:Option Addr×Nat,r=.slice x.1 1 x.2:=by
 refine gives_of [.agg [wv 1,.val (.slice none 0 0),.val (.slice none 0 0),wv 0,wv 0,wv 0,.val (.slice none 0 0)]] 27 [.tmp 2] Tryz.func149 rfl rfl rfl (by simp) rfl rfl ?_
 refine W.pure dn fun K1 k1=>?_
 simp only[E,F,J,M,R,Tz,V,X,Y,reduceIte,G,H,Z1,Z2,Z3,Z4,Z5,Z6,Z7,w1_,w0_,w10_,w60_,Z8,Z9,sd,sz];refine k1 _ ?_
 refine W.seqK fun K2 k2=>?_
 refine W.pure dn fun K3 k3=>?_
 simp only[E,F,J,M,R,Tz,V,X,Y,reduceIte,G,H,Z1,Z2,Z3,Z4,Z5,Z6,Z7,w1_,w0_,w10_,w60_,Z8,Z9,sd,sz];refine k3 _ ?_
 refine W.cond rfl rfl (fun hc=>?_) fun hc=>?_
 rotate_left
 ·
  simp at hc
 ·
  refine W.seqK fun K4 k4=>W.region ?_
  refine WO.go 3 dn ?_
  simp only[E,F,J,M,R,Tz,V,X,Y,reduceIte,G,H,Z1,Z2,Z3,Z4,Z5,Z6,Z7,w1_,w0_,w10_,w60_,Z8,Z9,sd,sz]
  refine WO.callX (fun x:Option Addr×Nat=>.slice x.1 1 x.2) (fun _=>True) dn rfl rfl rfl co194 (fun ρ w1 hb=>(part1_spec w1).mono fun v _ _ ⟨m,hm⟩=>⟨m,hm,trivial⟩) fun x _=>?_
  refine WO.go 1 dn ?_
  simp only[E,F,J,M,R,Tz,V,X,Y,reduceIte,G,H,Z1,Z2,Z3,Z4,Z5,Z6,Z7,w1_,w0_,w10_,w60_,Z8,Z9,sd,sz]
  refine WO.nil ?_
  refine k4 _ ?_
  refine W.ret ⟨by simp,_,rfl,fun ρ w1 hb=>?_⟩
  exact⟨x,rfl⟩
theorem repeats_spec (w:World):Gives Tryz.prog 144 #[.slice none 0 0,iv 1] w fun r _=>r=.bool true:=by
 refine gives_of [.val (.slice none 0 0),wv 1] 66 [.tmp 4] Tryz.func144 rfl rfl rfl (by simp) rfl rfl ?_
 refine W.pure dn fun K1 k1=>?_
 simp only[E,F,J,M,R,Tz,V,X,Y,reduceIte,G,H,Z1,Z2,Z3,Z4,Z5,Z6,Z7,w1_,w0_,w10_,w60_,Z8,Z9,sd,sz];refine k1 _ ?_
 refine W.seqK fun K2 k2=>?_
 refine W.pure dn fun K3 k3=>?_
 simp only[E,F,J,M,R,Tz,V,X,Y,reduceIte,G,H,Z1,Z2,Z3,Z4,Z5,Z6,Z7,w1_,w0_,w10_,w60_,Z8,Z9,sd,sz];refine k3 _ ?_
 refine W.cond rfl rfl (fun hc=>?_) fun hc=>?_
 ·
  simp at hc
 ·
  refine W.skip (k2 _ ?_)
  refine W.pure dn fun K4 k4=>?_
  simp only[E,F,J,M,R,Tz,V,X,Y,reduceIte,G,H,Z1,Z2,Z3,Z4,Z5,Z6,Z7,w1_,w0_,w10_,w60_,Z8,Z9,sd,sz];refine k4 _ ?_
  refine W.seqK fun K5 k5=>?_
  refine W.pure dn fun K6 k6=>?_
  simp only[E,F,J,M,R,Tz,V,X,Y,reduceIte,G,H,Z1,Z2,Z3,Z4,Z5,Z6,Z7,w1_,w0_,w10_,w60_,Z8,Z9,sd,sz];refine k6 _ ?_
  refine W.block ?_
  refine W.loopK (X:=Unit) [0,1] (fun x=>[(5,wv 0),(6,wv 0)]) (fun x=>True) (fun x=>0) () ?_ ?_ ?_
  · exact⟨rfl,by simp[getE,bnd,keepE],⟨[],by simp⟩,by simp[Own.bnd,bndL,bnd,boxO],by simp⟩
  ·
   trivial
  ·
   rintro _ _
   simp only[E,F,J,M,R,Tz,V,X,Y,reduceIte,sxk,G,H,Z1,Z2,Z3,Z4,Z5,Z6,Z7,w1_,w0_,w10_,w60_,Z8,Z9,sd,sz]
   refine W.seqK fun K7 k7=>?_
   refine W.pure dn fun K8 k8=>?_
   simp only[E,F,J,M,R,Tz,V,X,Y,reduceIte,G,H,Z1,Z2,Z3,Z4,Z5,Z6,Z7,w1_,w0_,w10_,w60_,Z8,Z9,sd,sz];refine k8 _ ?_
   refine W.cond rfl rfl (fun hc=>?_) fun hc=>?_
   ·
    simp at hc
   ·
    refine W.exit (k5 _ ?_)
    refine W.pure dn fun K9 k9=>?_
    simp only[E,F,J,M,R,Tz,V,X,Y,reduceIte,G,H,Z1,Z2,Z3,Z4,Z5,Z6,Z7,w1_,w0_,w10_,w60_,Z8,Z9,sd,sz];refine k9 _ ?_
    refine W.ret ⟨by simp,_,rfl,fun ρ w1 hb=>?_⟩
    rfl
theorem endings_spec (w:World):Gives Tryz.prog 145 #[.agg #[iv 1,.slice none 0 0,.slice none 0 0,iv 0,iv 0,iv 0,.slice none 0 0]] w fun r _=>r=.bool true:=by
 refine gives_of [.agg [wv 1,.val (.slice none 0 0),.val (.slice none 0 0),wv 0,wv 0,wv 0,.val (.slice none 0 0)]] 55 [.tmp 2] Tryz.func145 rfl rfl rfl (by simp) rfl rfl ?_
 refine W.pure dn fun K1 k1=>?_
 simp only[E,F,J,M,R,Tz,V,X,Y,reduceIte,G,H,Z1,Z2,Z3,Z4,Z5,Z6,Z7,w1_,w0_,w10_,w60_,Z8,Z9,sd,sz];refine k1 _ ?_
 refine W.seqK fun K2 k2=>?_
 refine W.pure dn fun K3 k3=>?_
 simp only[E,F,J,M,R,Tz,V,X,Y,reduceIte,G,H,Z1,Z2,Z3,Z4,Z5,Z6,Z7,w1_,w0_,w10_,w60_,Z8,Z9,sd,sz];refine k3 _ ?_
 refine W.cond rfl rfl (fun hc=>?_) fun hc=>?_
 ·
  simp at hc
 ·
  refine W.skip (k2 _ ?_)
  refine W.pure dn fun K4 k4=>?_
  simp only[E,F,J,M,R,Tz,V,X,Y,reduceIte,G,H,Z1,Z2,Z3,Z4,Z5,Z6,Z7,w1_,w0_,w10_,w60_,Z8,Z9,sd,sz];refine k4 _ ?_
  refine W.seqK fun K5 k5=>?_
  refine W.pure dn fun K6 k6=>?_
  simp only[E,F,J,M,R,Tz,V,X,Y,reduceIte,G,H,Z1,Z2,Z3,Z4,Z5,Z6,Z7,w1_,w0_,w10_,w60_,Z8,Z9,sd,sz];refine k6 _ ?_
  refine W.block ?_
  refine W.loopK (X:=Unit) [1] (fun x=>[(3,wv 0),(4,wv 0)]) (fun x=>True) (fun x=>0) () ?_ ?_ ?_
  · exact⟨rfl,by simp[getE,bnd,keepE],⟨[],by simp⟩,by simp[Own.bnd,bndL,bnd,boxO],by simp⟩
  ·
   trivial
  ·
   rintro _ _
   simp only[E,F,J,M,R,Tz,V,X,Y,reduceIte,sxk,G,H,Z1,Z2,Z3,Z4,Z5,Z6,Z7,w1_,w0_,w10_,w60_,Z8,Z9,sd,sz]
   refine W.seqK fun K7 k7=>?_
   refine W.pure dn fun K8 k8=>?_
   simp only[E,F,J,M,R,Tz,V,X,Y,reduceIte,G,H,Z1,Z2,Z3,Z4,Z5,Z6,Z7,w1_,w0_,w10_,w60_,Z8,Z9,sd,sz];refine k8 _ ?_
   refine W.cond rfl rfl (fun hc=>?_) fun hc=>?_
   ·
    simp at hc
   ·
    refine W.exit (k5 _ ?_)
    refine W.pure dn fun K9 k9=>?_
    simp only[E,F,J,M,R,Tz,V,X,Y,reduceIte,G,H,Z1,Z2,Z3,Z4,Z5,Z6,Z7,w1_,w0_,w10_,w60_,Z8,Z9,sd,sz];refine k9 _ ?_
    refine W.ret ⟨by simp,_,rfl,fun ρ w1 hb=>?_⟩
    rfl
theorem jump_spec (w:World):Gives Tryz.prog 146 #[.agg #[iv 1,.slice none 0 0,.slice none 0 0,iv 0,iv 0,iv 0,.slice none 0 0]] w fun r _=>r=.bool true:=by
 refine gives_of [.agg [wv 1,.val (.slice none 0 0),.val (.slice none 0 0),wv 0,wv 0,wv 0,.val (.slice none 0 0)]] 67 [.tmp 2] Tryz.func146 rfl rfl rfl (by simp) rfl rfl ?_
 refine W.pure dn fun K1 k1=>?_
 simp only[E,F,J,M,R,Tz,V,X,Y,reduceIte,G,H,Z1,Z2,Z3,Z4,Z5,Z6,Z7,w1_,w0_,w10_,w60_,Z8,Z9,sd,sz];refine k1 _ ?_
 refine W.pure dn fun K2 k2=>?_
 simp only[E,F,J,M,R,Tz,V,X,Y,reduceIte,G,H,Z1,Z2,Z3,Z4,Z5,Z6,Z7,w1_,w0_,w10_,w60_,Z8,Z9,sd,sz];refine k2 _ ?_
 refine W.seqK fun K3 k3=>?_
 refine W.seqK fun K4 k4=>W.region ?_
 refine WO.go 2 dn ?_
 simp only[E,F,J,M,R,Tz,V,X,Y,reduceIte,G,H,Z1,Z2,Z3,Z4,Z5,Z6,Z7,w1_,w0_,w10_,w60_,Z8,Z9,sd,sz]
 refine WO.aggCmp [0,0,0] [0,0,0] dn rfl rfl rfl ⟨_,rfl,fun _=>rfl⟩ ⟨_,rfl,fun _=>rfl⟩ it123 rfl rfl rfl ?_
 simp only[E,F,J,M,R,Tz,V,X,Y,reduceIte,G,H,Z1,Z2,Z3,Z4,Z5,Z6,Z7,w1_,w0_,w10_,w60_,Z8,Z9,sd,sz]
 refine WO.nil ?_
 refine k4 _ ?_
 refine W.cond rfl rfl (fun hc=>?_) fun hc=>?_
 rotate_left
 ·
  simp at hc
 ·
  refine W.pure dn fun K5 k5=>?_
  simp only[E,F,J,M,R,Tz,V,X,Y,reduceIte,G,H,Z1,Z2,Z3,Z4,Z5,Z6,Z7,w1_,w0_,w10_,w60_,Z8,Z9,sd,sz];refine k5 _ ?_
  refine W.ret ⟨by simp,_,rfl,fun ρ w1 hb=>?_⟩
  rfl
abbrev D75_:List (Option Nat):=[some 4,some 5,some 6,some 7,some 8,some 9,some 10,some 11,some 12,some 13,some 14,some 15,some 16,some 17,some 18,some 19,some 20,some 21,some 22,some 23,some 24,some 25,some 26,some 27,some 28,some 29,some 30,some 31,some 32,some 33,some 34,some 35]
theorem r9Valid_spec (w:World):Gives Tryz.prog 93 #[.agg #[iv 1,.slice none 0 0,.slice none 0 0,iv 0,iv 0,iv 0,.slice none 0 0]] w fun r _=>r=.bool true:=by
 refine gives_of [.agg [wv 1,.val (.slice none 0 0),.val (.slice none 0 0),wv 0,wv 0,wv 0,.val (.slice none 0 0)]] 68 [.tmp 2] Tryz.func93 rfl rfl rfl (by simp) rfl rfl ?_
 refine W.pure dn fun K1 k1=>?_
 simp only[E,F,J,M,R,Tz,V,X,Y,reduceIte,G,H,Z1,Z2,Z3,Z4,Z5,Z6,Z7,w1_,w0_,w10_,w60_,Z8,Z9,sd,sz];refine k1 _ ?_
 refine W.seqK fun K2 k2=>?_
 refine W.join 35 (.val (.bool false)) [1] (W.region ?_) ?_
 ·
  refine WO.go 13 (ds:=D75_) rfl ?_
  simp only[E,F,J,M,R,Tz,V,X,Y,reduceIte,G,H,Z1,Z2,Z3,Z4,Z5,Z6,Z7,w1_,w0_,w10_,w60_,Z8,Z9,sd,sz]
  refine WO.call (.bool true) (ds:=D75_) rfl rfl rfl rfl co144 (fun ρ w1 hb=>repeats_spec w1) ?_
  refine WO.go 4 (ds:=D75_) rfl ?_
  simp only[E,F,J,M,R,Tz,V,X,Y,reduceIte,G,H,Z1,Z2,Z3,Z4,Z5,Z6,Z7,w1_,w0_,w10_,w60_,Z8,Z9,sd,sz]
  refine WO.call (.bool true) (ds:=D75_) rfl rfl rfl rfl co145 (fun ρ w1 hb=>endings_spec w1) ?_
  refine WO.go 4 (ds:=D75_) rfl ?_
  simp only[E,F,J,M,R,Tz,V,X,Y,reduceIte,G,H,Z1,Z2,Z3,Z4,Z5,Z6,Z7,w1_,w0_,w10_,w60_,Z8,Z9,sd,sz]
  refine WO.call (.bool true) (ds:=D75_) rfl rfl rfl rfl co146 (fun ρ w1 hb=>jump_spec w1) ?_
  refine WO.go 8 (ds:=D75_) rfl ?_
  simp only[E,F,J,M,R,Tz,V,X,Y,reduceIte,G,H,Z1,Z2,Z3,Z4,Z5,Z6,Z7,w1_,w0_,w10_,w60_,Z8,Z9,sd,sz]
  refine WO.nil ?_
  refine⟨rfl,?_,⟨_,rfl⟩,by simp[Own.bnd,bndL,bnd,boxO],by simp⟩
  simp[getE,bnd,keepE]
 ·
  simp only[E,F,J,M,R,Tz,V,X,Y,reduceIte,sxk,G,H,Z1,Z2,Z3,Z4,Z5,Z6,Z7,w1_,w0_,w10_,w60_,Z8,Z9,sd,sz]
  refine W.cond rfl rfl (fun hc=>?_) fun hc=>?_
  ·
   simp at hc
  ·
   refine W.skip (k2 _ ?_)
   refine W.seqK fun K4 k4=>?_
   refine W.pure dn fun K5 k5=>?_
   simp only[E,F,J,M,R,Tz,V,X,Y,reduceIte,G,H,Z1,Z2,Z3,Z4,Z5,Z6,Z7,w1_,w0_,w10_,w60_,Z8,Z9,sd,sz];refine k5 _ ?_
   refine W.block ?_
   refine W.loopK (X:=Unit) [1] (fun x=>[(3,wv 0)]) (fun x=>True) (fun x=>0) () ?_ ?_ ?_
   · exact⟨rfl,by simp[getE,bnd,keepE],⟨[],by simp⟩,by simp[Own.bnd,bndL,bnd,boxO],by simp⟩
   ·
    trivial
   ·
    rintro _ _
    simp only[E,F,J,M,R,Tz,V,X,Y,reduceIte,sxk,G,H,Z1,Z2,Z3,Z4,Z5,Z6,Z7,w1_,w0_,w10_,w60_,Z8,Z9,sd,sz]
    refine W.seqK fun K6 k6=>?_
    refine W.pure dn fun K7 k7=>?_
    simp only[E,F,J,M,R,Tz,V,X,Y,reduceIte,G,H,Z1,Z2,Z3,Z4,Z5,Z6,Z7,w1_,w0_,w10_,w60_,Z8,Z9,sd,sz];refine k7 _ ?_
    refine W.cond rfl rfl (fun hc=>?_) fun hc=>?_
    ·
     simp at hc
    ·
     refine W.exit (k4 _ ?_)
     refine W.seqK fun K8 k8=>W.region ?_
     refine WO.go 1 dn ?_
     simp only[E,F,J,M,R,Tz,V,X,Y,reduceIte,G,H,Z1,Z2,Z3,Z4,Z5,Z6,Z7,w1_,w0_,w10_,w60_,Z8,Z9,sd,sz]
     refine WO.callX (fun x:Option Addr×Nat=>.slice x.1 1 x.2) (fun _=>True) dn rfl rfl rfl co149 (fun ρ w1 hb=>(whole_spec w1).mono fun v _ _ ⟨m,hm⟩=>⟨m,hm,trivial⟩) fun x _=>?_
     refine WO.go 3 dn ?_
     simp only[E,F,J,M,R,Tz,V,X,Y,reduceIte,G,H,Z1,Z2,Z3,Z4,Z5,Z6,Z7,w1_,w0_,w10_,w60_,Z8,Z9,sd,sz]
     refine WO.nil ?_
     refine k8 _ ?_
     refine W.ret ⟨by simp,_,rfl,fun ρ w1 hb=>?_⟩
     rfl
theorem gcd1_spec (w:World):Gives Tryz.prog 219 #[iv 1,iv 1] w fun r _=>r=iv 1:=by
 refine gives_of [wv 1,wv 1] 14 [.tmp 4] Tryz.func219 rfl rfl rfl (by simp) rfl rfl ?_
 refine W.pure dn fun K1 k1=>?_
 simp only[E,F,J,M,R,Tz,V,X,Y,reduceIte,G,H,Z1,Z2,Z3,Z4,Z5,Z6,Z7,w1_,w0_,w10_,w60_,Z8,Z9,sd,sz];refine k1 _ ?_
 refine W.seqK fun K2 k2=>?_
 refine W.block ?_
 refine W.loopK (X:=Bool) [] (fun x=>[(0,wv 1),(1,wv (if x then 0 else 1))]) (fun x=>True) (fun x=>if x then 0 else 1) false ?_ ?_ ?_
 · exact⟨rfl,by simp[getE,bnd,keepE],⟨[],by simp⟩,by simp[Own.bnd,bndL,bnd,boxO],by simp⟩
 ·
  trivial
 ·
  rintro x _
  simp only[E,F,J,M,R,Tz,V,X,Y,reduceIte,sxk,G,H,Z1,Z2,Z3,Z4,Z5,Z6,Z7,w1_,w0_,w10_,w60_,Z8,Z9,sd,sz]
  refine W.seqK fun K3 k3=>?_
  refine W.pure dn fun K4 k4=>?_
  simp only[E,F,J,M,R,Tz,V,X,Y,reduceIte,G,H,Z1,Z2,Z3,Z4,Z5,Z6,Z7,w1_,w0_,w10_,w60_,Z8,Z9,sd,sz];refine k4 _ ?_
  refine W.cond rfl rfl (fun hc=>?_) fun hc=>?_
  ·
   obtain rfl:x=false:=by cases x<;>simp_all
   refine W.skip (k3 _ ?_)
   refine W.block ?_
   refine W.seqK fun K5 k5=>W.region ?_
   refine WO.go 2 dn ?_
   simp only[E,F,J,M,R,Tz,V,X,Y,reduceIte,G,H,Z1,Z2,Z3,Z4,Z5,Z6,Z7,w1_,w0_,w10_,w60_,Z8,Z9,sd,sz]
   refine WO.go 1 dn ?_
   simp only[E,F,J,M,R,Tz,V,X,Y,reduceIte,G,H,Z1,Z2,Z3,Z4,Z5,Z6,Z7,w1_,w0_,w10_,w60_,Z8,Z9,wrap_id,sd,sz]
   refine WO.go 1 dn ?_
   simp only[E,F,J,M,R,Tz,V,X,Y,reduceIte,G,H,Z1,Z2,Z3,Z4,Z5,Z6,Z7,w1_,w0_,w10_,w60_,Z8,Z9,sd,sz]
   refine WO.nil ?_
   refine k5 _ ?_
   refine W.pure dn fun K6 k6=>?_
   simp only[E,F,J,M,R,Tz,V,X,Y,reduceIte,G,H,Z1,Z2,Z3,Z4,Z5,Z6,Z7,w1_,w0_,w10_,w60_,Z8,Z9,sd,sz];refine k6 _ ?_
   refine W.region ?_
   refine WO.go 2 dn ?_
   simp only[E,F,J,M,R,Tz,V,X,Y,reduceIte,G,H,Z1,Z2,Z3,Z4,Z5,Z6,Z7,w1_,w0_,w10_,w60_,Z8,Z9,sd,sz]
   refine WO.nil ?_
   refine⟨true,trivial,by simp,rfl,by simp[getE,bnd,keepE],⟨[],by simp⟩,by simp,by simp⟩
  ·
   obtain rfl:x=true:=by cases x<;>simp_all
   refine W.exit (k2 _ ?_)
   refine W.pure dn fun K7 k7=>?_
   simp only[E,F,J,M,R,Tz,V,X,Y,reduceIte,G,H,Z1,Z2,Z3,Z4,Z5,Z6,Z7,w1_,w0_,w10_,w60_,Z8,Z9,sd,sz];refine k7 _ ?_
   refine W.ret ⟨by simp,_,rfl,fun ρ w1 hb=>?_⟩
   rfl
theorem abs1_spec (w:World):Gives Tryz.prog 220 #[iv 1] w fun r _=>r=iv 1:=by
 refine gives_of [wv 1] 8 [.tmp 2] Tryz.func220 rfl rfl rfl (by simp) rfl rfl ?_
 refine W.pure dn fun K1 k1=>?_
 simp only[E,F,J,M,R,Tz,V,X,Y,reduceIte,G,H,Z1,Z2,Z3,Z4,Z5,Z6,Z7,w1_,w0_,w10_,w60_,Z8,Z9,sd,sz];refine k1 _ ?_
 refine W.seqK fun K2 k2=>?_
 refine W.pure dn fun K3 k3=>?_
 simp only[E,F,J,M,R,Tz,V,X,Y,reduceIte,G,H,Z1,Z2,Z3,Z4,Z5,Z6,Z7,w1_,w0_,w10_,w60_,Z8,Z9,sd,sz];refine k3 _ ?_
 refine W.cond rfl rfl (fun hc=>?_) fun hc=>?_
 ·
  simp at hc
 ·
  refine W.skip (k2 _ ?_)
  refine W.pure dn fun K4 k4=>?_
  simp only[E,F,J,M,R,Tz,V,X,Y,reduceIte,G,H,Z1,Z2,Z3,Z4,Z5,Z6,Z7,w1_,w0_,w10_,w60_,Z8,Z9,sd,sz];refine k4 _ ?_
  refine W.ret ⟨by simp,_,rfl,fun ρ w1 hb=>?_⟩
  rfl
theorem r1Valid_spec (w:World):Gives Tryz.prog 195 #[.agg #[iv 1,iv 1]] w fun r _=>r=.bool true:=by
 refine gives_of [.agg [wv 1,wv 1]] 28 [.tmp 2] Tryz.func195 rfl rfl rfl (by simp) rfl rfl ?_
 refine W.pure dn fun K1 k1=>?_
 simp only[E,F,J,M,R,Tz,V,X,Y,reduceIte,G,H,Z1,Z2,Z3,Z4,Z5,Z6,Z7,w1_,w0_,w10_,w60_,Z8,Z9,sd,sz];refine k1 _ ?_
 refine W.seqK fun K2 k2=>?_
 refine W.join 20 (.val (.bool false)) [1] (W.region ?_) ?_
 ·
  refine WO.go 18 (ds:=D19_) rfl ?_
  simp only[E,F,J,M,R,Tz,V,X,Y,reduceIte,G,H,Z1,Z2,Z3,Z4,Z5,Z6,Z7,w1_,w0_,w10_,w60_,Z8,Z9,sd,sz]
  refine WO.nil ?_
  refine⟨rfl,?_,⟨_,rfl⟩,by simp[Own.bnd,bndL,bnd,boxO],by simp⟩
  simp[getE,bnd,keepE]
 ·
  simp only[E,F,J,M,R,Tz,V,X,Y,reduceIte,sxk,G,H,Z1,Z2,Z3,Z4,Z5,Z6,Z7,w1_,w0_,w10_,w60_,Z8,Z9,sd,sz]
  refine W.cond rfl rfl (fun hc=>?_) fun hc=>?_
  ·
   simp at hc
  ·
   refine W.skip (k2 _ ?_)
   refine W.seqK fun K4 k4=>?_
   refine W.regionQ mixed (by kernel_rfl) ?_
   refine WQ.go 2 dn ?_
   simp only[E,F,J,M,R,Tz,V,X,Y,reduceIte,sxq,G,H,Z1,Z2,Z3,Z4,Z5,Z6,Z7,w1_,w0_,w10_,w60_,Z8,Z9,sd,sz]
   refine WQ.call (iv 1) dn rfl rfl rfl co220 (fun ρ w1 hb=>abs1_spec w1) ?_
   refine WQ.go 2 dn ?_
   simp only[E,F,J,M,R,Tz,V,X,Y,reduceIte,sxq,G,H,Z1,Z2,Z3,Z4,Z5,Z6,Z7,w1_,w0_,w10_,w60_,Z8,Z9,sd,sz]
   refine WQ.call (iv 1) dn rfl rfl rfl co219 (fun ρ w1 hb=>gcd1_spec w1) ?_
   refine WQ.go 2 dn ?_
   simp only[E,F,J,M,R,Tz,V,X,Y,reduceIte,sxq,G,H,Z1,Z2,Z3,Z4,Z5,Z6,Z7,w1_,w0_,w10_,w60_,Z8,Z9,sd,sz]
   refine WQ.nil ?_
   refine k4 _ ?_
   refine W.ret ⟨by simp,_,rfl,fun ρ w1 hb=>?_⟩
   rfl
abbrev D76_:List (Option Nat):=[some 6,some 7,some 8,some 9,some 10,some 11,some 12,some 13,some 14,some 15,some 16,some 17,some 18,some 19,some 20,some 21,some 22,some 23,some 24,some 25,some 26]
theorem scale_spec (w:World):Gives Tryz.prog 150 #[.agg #[iv 1,iv 1]] w fun r _=>r=iv 60:=by
 refine gives_of [.agg [wv 1,wv 1]] 33 [.tmp 2] Tryz.func150 rfl rfl rfl (by simp) rfl rfl ?_
 refine W.pure dn fun K1 k1=>?_
 simp only[E,F,J,M,R,Tz,V,X,Y,reduceIte,G,H,Z1,Z2,Z3,Z4,Z5,Z6,Z7,w1_,w0_,w10_,w60_,Z8,Z9,sd,sz];refine k1 _ ?_
 refine W.seqK fun K2 k2=>W.region ?_
 refine WO.go 1 dn ?_
 simp only[E,F,J,M,R,Tz,V,X,Y,reduceIte,G,H,Z1,Z2,Z3,Z4,Z5,Z6,Z7,w1_,w0_,w10_,w60_,Z8,Z9,sd,sz]
 refine WO.call (.bool true) dn rfl rfl rfl co195 (fun ρ w1 hb=>r1Valid_spec w1) ?_
 refine WO.go 1 dn ?_
 simp only[E,F,J,M,R,Tz,V,X,Y,reduceIte,G,H,Z1,Z2,Z3,Z4,Z5,Z6,Z7,w1_,w0_,w10_,w60_,Z8,Z9,sd,sz]
 refine WO.nil ?_
 refine k2 _ ?_
 refine W.seqK fun K3 k3=>?_
 refine W.join 26 (.val (.bool false)) [1] (W.region ?_) ?_
 ·
  refine WO.go 18 (ds:=D76_) rfl ?_
  simp only[E,F,J,M,R,Tz,V,X,Y,reduceIte,G,H,Z1,Z2,Z3,Z4,Z5,Z6,Z7,w1_,w0_,w10_,w60_,Z8,Z9,sd,sz]
  refine WO.go 1 (ds:=D76_) rfl ?_
  simp only[E,F,J,M,R,Tz,V,X,Y,reduceIte,G,H,Z1,Z2,Z3,Z4,Z5,Z6,Z7,w1_,w0_,w10_,w60_,Z8,Z9,if_true,sd,sz]
  refine WO.go 2 (ds:=D76_) rfl ?_
  simp only[E,F,J,M,R,Tz,V,X,Y,reduceIte,G,H,Z1,Z2,Z3,Z4,Z5,Z6,Z7,w1_,w0_,w10_,w60_,Z8,Z9,sd,sz]
  refine WO.nil ?_
  refine⟨rfl,?_,⟨_,rfl⟩,by simp[Own.bnd,bndL,bnd,boxO],by simp⟩
  simp[getE,bnd,keepE]
 ·
  simp only[E,F,J,M,R,Tz,V,X,Y,reduceIte,sxk,G,H,Z1,Z2,Z3,Z4,Z5,Z6,Z7,w1_,w0_,w10_,w60_,Z8,Z9,sd,sz]
  refine W.cond rfl rfl (fun hc=>?_) fun hc=>?_
  ·
   simp at hc
  ·
   refine W.skip (k3 _ ?_)
   refine W.seqK fun K5 k5=>?_
   refine W.regionQ mixed (by kernel_rfl) ?_
   refine WQ.go 4 dn ?_
   simp only[E,F,J,M,R,Tz,V,X,Y,reduceIte,sxq,G,H,Z1,Z2,Z3,Z4,Z5,Z6,Z7,w1_,w0_,w10_,w60_,Z8,Z9,sd,sz]
   refine WQ.go 1 dn ?_
   simp only[E,F,J,M,R,Tz,V,X,Y,reduceIte,sxq,G,H,Z1,Z2,Z3,Z4,Z5,Z6,Z7,w1_,w0_,w10_,w60_,Z8,Z9,if_true,sd,sz]
   refine WQ.go 2 dn ?_
   simp only[E,F,J,M,R,Tz,V,X,Y,reduceIte,sxq,G,H,Z1,Z2,Z3,Z4,Z5,Z6,Z7,w1_,w0_,w10_,w60_,Z8,Z9,sd,sz]
   refine WQ.nil ?_
   refine k5 _ ?_
   refine W.ret ⟨by simp,_,rfl,fun ρ w1 hb=>?_⟩
   rfl
end Go.Proofs.YtolmeekbjonbcaaGreatDoor
namespace Go.Proofs.YtolmeekbjonbcaaGreatDoor
open Go Go.SX Go.RowKit
variable [Drw]
def br17:Br:=⟨5,(4,1),0⟩
def pa17:Pt:=⟨1,0,0,0,1,0,0,(0,0,0),(0,0,9)⟩
def pc17:Pt:=⟨2,0,1,-1,1,-1,-2,(0,0,0),(0,0,9)⟩
def nt17:Nt:=⟨7,1,5,0,0,(0,1),(4,1),(4,0,4)⟩
def s17:Sc:=⟨1,[br17],[pa17,pc17],[nt17]⟩
theorem at_off {w:World} {b off n:Nat} {cs ys:List Value} (h:At w ⟨b,0,none⟩ cs) (hy:(cs.drop off).take n=ys):At w ⟨b,off,none⟩ ys:=by
 have:=h.part off n
 rw[hy,Addr.add_mid] at this
 simpa using this
theorem bars17:BarsOk [br17]:=⟨by simp,by simp,fun b hb=>by
 obtain rfl:b=br17:=by simpa using hb
 exact⟨by decide,by decide,by decide⟩,by simp⟩
theorem parts17:PartsOk [pa17,pc17]:=⟨by simp,by simp,fun p hp=>by
 have hp:p=pa17∨p=pc17:=by simpa using hp
 rcases hp with rfl | rfl
 · exact⟨rfl,rfl,rfl,rfl,rfl,rfl,rfl,rfl,by decide,fun _=>rfl,by decide⟩
 · exact⟨rfl,rfl,rfl,rfl,rfl,rfl,rfl,rfl,by decide,fun h=>absurd h (by decide),by decide⟩,by decide,fun p hp h0=>by
 have hp:p=pa17∨p=pc17:=by simpa using hp
 rcases hp with rfl | rfl
 · exact absurd rfl h0
 · exact⟨pa17,by simp,rfl,rfl⟩⟩
def n17 (q:Pit):Nt:=⟨7,1,5,0,0,(0,1),(4,1),q⟩
theorem note17 {q:Pit} (h:isNoteP q=true):NoteOk [br17] (n17 q):=⟨h,rfl,rfl,rfl,rfl,(by decide:okT (0,1)=true),(by decide:0<tickF (4,1)),br17,by simp,rfl,(by decide:tickF (0,1)+tickF (4,1)≤tickF (4,1))⟩
theorem score17 {v:Int} {q:Pit} (h:isNoteP q=true) (h1:numF (0,0,0)≤numF q) (h2:numF q≤numF (0,0,9)) (hv:within 1 1000000 v=true):ScOk ⟨v,[br17],[pa17,pc17],[n17 q]⟩:=
 ⟨hv,parts17,⟨bars17,by simp,fun n hn=>by
  obtain rfl:n=n17 q:=by simpa using hn
  exact note17 h,by simp⟩,fun n hn=>by
  obtain rfl:n=n17 q:=by simpa using hn
  exact⟨pa17,by simp,rfl,rfl,h1,h2⟩,fun i a b h1 h2=>by simp at h2⟩
theorem ok17:ScOk s17:=score17 (q:=(4,0,4)) (by decide) (by decide) (by decide) (by decide)
theorem own17:Owner s17 pc17 pa17:=⟨by simp[s17],by simp[s17],rfl,rfl⟩
def k17:Int:=2
def w17 (q:Pit):Wt:=⟨7,0,0,(0,1),(4,1),q⟩
def v17 (q:Pit):Vw:=⟨2,[⟨5,k17,(4,1),[w17 q]⟩]⟩
theorem get17:getV s17 pc17=v17 (5,0,3):=by
 unfold getV v17
 have e1:playsL s17 pc17=[⟨7,2,5,0,0,(0,1),(4,1),(4,0,3)⟩]:=by decide
 rw[e1]
 have e2:writeF (-1) (-2) (0,0,0) (0,0,9) 0 (4,0,3)=((5,0,3),0):=by decide
 have e3:keyF (-1) (-2) (0,0,0) (0,0,9) 0=(2,0):=by decide
 simp[s17,br17,pc17,msF,wtOf,e2,e3,k17,w17]
theorem vok17 {q:Pit} (hq:validP q=true):VwOk s17 (v17 q) where
 sc:=ok17
 len:=rfl
 ms:=⟨pc17,by simp[s17],rfl,fun i m b h1 h2=>by
  cases i with
  | succ i=>simp[v17] at h1
  |
   zero=>
   obtain rfl:(⟨5,k17,(4,1),[w17 q]⟩:Ms)=m:=by simpa [v17] using h1
   obtain rfl:br17=b:=by simpa [s17] using h2
   exact⟨rfl,(by decide:k17=(keyF (-1) (-2) (0,0,0) (0,0,9) 0).1),rfl⟩⟩
 form:=fun m hm n hn=>by
  obtain rfl:m=(⟨5,k17,(4,1),[w17 q]⟩:Ms):=by simpa [v17] using hm
  obtain rfl:n=w17 q:=by simpa using hn
  have e:formB (w17 (5,0,3)) (4,1)=true:=by decide
  simp only[formB,w17,show validP (5,0,3)=true from rfl] at e
  simp only[formB,w17,hq];exact e
 ord:=fun m hm=>by
  obtain rfl:m=(⟨5,k17,(4,1),[w17 q]⟩:Ms):=by simpa [v17] using hm
  simp[OrdW]
 nd:=by simp[v17,allW]
 few:=by simp[v17,allW]
theorem snd17:sndN pc17 0 (6,0,3)=(5,0,4):=by
 unfold sndN
 have e:soundF (-1) (-2) (0,0,0) (0,0,9) 0 (6,0,3)=((5,0,3),0):=by decide
 simp[pc17,e]
theorem puts17:Puts s17 (v17 (6,0,3)) pc17 pa17:=fun x hx=>by
 have hx:x=(br17,w17 (6,0,3)):=by simpa [pairsW,s17,v17] using hx
 subst hx
 refine⟨⟨by decide,?_,?_,?_⟩,fun n hn=>?_⟩
 ·
  show isNoteP (sndN pc17 0 (6,0,3))=true
  rw[snd17];decide
 ·
  show numF (0,0,0)≤numF (sndN pc17 0 (6,0,3))
  rw[snd17];decide
 ·
  show numF (sndN pc17 0 (6,0,3))≤numF (0,0,9)
  rw[snd17];decide
 · simp[othersL,s17,nt17,pa17] at hn
theorem put17:putL s17 (v17 (6,0,3)) pc17 pa17=[n17 (5,0,4)]:=by
 have e1:othersL s17 pa17=[]:=by decide
 unfold putL
 rw[e1]
 simp only[newL,pairsW,s17,v17,List.zip_cons_cons,List.zip_nil_right,List.flatMap_cons,List.flatMap_nil,List.map_cons,List.map_nil,List.append_nil,List.nil_append]
 show [(⟨7,1,5,0,0,(0,1),(4,1),sndN pc17 0 (6,0,3)⟩:Nt)]=_
 rw[snd17];rfl
def t17:Sc:=⟨2,[br17],[pa17,pc17],[n17 (5,0,4)]⟩
theorem with17:withS s17 2 (putL s17 (v17 (6,0,3)) pc17 pa17)=t17:=by
 rw[put17]
 unfold withS t17 srt
 simp[s17]
theorem tok17:ScOk t17:=score17 (by decide) (by decide) (by decide) (by decide)
theorem getw17:getV t17 pa17=⟨1,[⟨5,0,(4,1),[w17 (5,0,4)]⟩]⟩:=by
 unfold getV
 have e1:playsL t17 pa17=[n17 (5,0,4)]:=by decide
 rw[e1]
 have e2:writeF 0 0 (0,0,0) (0,0,9) 0 (5,0,4)=((5,0,4),0):=by decide
 have e3:keyF 0 0 (0,0,0) (0,0,9) 0=(0,0):=by decide
 simp[t17,br17,pa17,msF,wtOf,e2,e3,w17,n17]
end Go.Proofs.YtolmeekbjonbcaaGreatDoor
namespace Go.Proofs.YtolmeekbjonbcaaGreatDoor
open Go Go.SX Go.RowKit
variable [Drw]
open Int renaming reduceEq → E, reduceLT → F, reduceBEq → G, reduceBNe → H, reduceNeg → Z1, reduceGT → Z2, reduceLE → Z3, reduceGE → Z4, reduceMul → Z5, reduceMod → Z6, reduceAdd → Z7, reduceTMod → Z8, reduceTDiv → Z9
open Nat renaming reduceAdd → J, reduceSub → M, reduceMul → R, reduceLT → Tz, reduceLeDiff → V, reduceEqDiff → X
open List renaming reduceReplicate → Y
theorem w17Score_spec (w:World):Gives Tryz.prog 16 #[] w fun r w'=>∃ a:ScA,r=scV a s17∧ScR (fun b=>w.heap.size≤b) w' a s17:=by
 refine gives_of [] 26 [.cell 0 26] Tryz.func16 rfl rfl rfl (by simp) rfl rfl ?_
 refine W.pure dn fun K1 k1=>?_
 simp only[E,F,J,M,R,Tz,V,X,Y,reduceIte,G,H,sz];refine k1 _ ?_
 refine W.pure dn fun K2 k2=>?_
 simp only[E,F,J,M,R,Tz,V,X,Y,reduceIte,G,H,sz];refine k2 _ ?_
 refine W.pure dn fun K3 k3=>?_
 simp only[E,F,J,M,R,Tz,V,X,Y,reduceIte,G,H,sz];refine k3 _ ?_
 refine W.pure dn fun K4 k4=>?_
 simp only[E,F,J,M,R,Tz,V,X,Y,reduceIte,G,H,sz];refine k4 _ ?_
 refine W.pure dn fun K5 k5=>?_
 simp only[E,F,J,M,R,Tz,V,X,Y,reduceIte,G,H,sz];refine k5 _ ?_
 refine W.pure dn fun K6 k6=>?_
 simp only[E,F,J,M,R,Tz,V,X,Y,reduceIte,G,H,sz];refine k6 _ ?_
 refine W.pure dn fun K7 k7=>?_
 simp only[E,F,J,M,R,Tz,V,X,Y,reduceIte,G,H,sz];refine k7 _ ?_
 refine W.ret ?_
 refine⟨by simp,RunR.ex ?_⟩
 simp only[E,F,J,M,R,Tz,V,X,Y,reduceIte,sxr,G,H,sz]
 intro ρ w1 hb
 exact⟨⟨(some ⟨ρ 6,0,none⟩,1),(some ⟨ρ 7,0,none⟩,2),(some ⟨ρ 8,0,none⟩,1)⟩,rfl,⟨own_listS (A:=rBr) (k:=6) (xs:=s17.bars) hb rfl rfl (Nat.le_refl _) (by simp) (own_new (k:=6) hb (by simp) rfl rfl) (fun i y hy=>flat_read _ i y hy),own_listS (A:=rPt) (k:=7) (xs:=s17.parts) hb rfl rfl (Nat.le_refl _) (by simp) (own_new (k:=7) hb (by simp) rfl rfl) (fun i y hy=>flat_read _ i y hy),own_listS (A:=rNt) (k:=8) (xs:=s17.notes) hb rfl rfl (Nat.le_refl _) (by simp) (own_new (k:=8) hb (by simp) rfl rfl) (fun i y hy=>flat_read _ i y hy)⟩⟩
theorem w17Lib_spec (w:World):Gives Tryz.prog 18 #[] w fun r w'=>∃ y:ScA×Nat×Nat,r=.agg #[.slice (some ⟨y.2.1,0,none⟩) 1 1,.slice none 0 0,.slice none 0 0,.slice none 0 0]∧ScR (fun b=>w.heap.size≤b) w' y.1 s17∧At w' ⟨y.2.1,0,none⟩ [iv s17.ver,.slice y.1.b.1 s17.bars.length y.1.b.2,.slice y.1.p.1 s17.parts.length y.1.p.2,.slice y.1.n.1 s17.notes.length y.1.n.2,iv 1,.slice none 0 0,.slice none 0 0,iv 0,iv 0,iv 0,.slice none 0 0,.slice (some ⟨y.2.2,0,none⟩) 1 1]∧At w' ⟨y.2.2,0,none⟩ [iv 0,iv 1,iv 1]∧(w.heap.size≤y.2.1∧y.2.1<w'.heap.size)∧w.heap.size≤y.2.2∧y.2.2<w'.heap.size:=by
 refine gives_of [] 9 [.cell 0 69] Tryz.func18 rfl rfl rfl (by simp) rfl rfl ?_
 refine W.pure dn fun K1 k1=>?_
 simp only[E,F,J,M,R,Tz,V,X,Y,reduceIte,G,H,sz];refine k1 _ ?_
 refine W.seqK fun K2 k2=>W.region ?_
 refine WO.callM (fun a:ScA=>scV a s17) (fun lo a sW=>ScR (fun b=>lo≤b) sW a s17∧w.heap.size≤lo) dn rfl rfl rfl co16 (fun ρ w1 hb=>(w17Score_spec w1).mono fun r w2 _ ⟨a,h1,h2⟩=>⟨a,h1,h2,(hb.first (by simp[St.put])).size⟩) fun a lo3 s4 hz=>?_
 unfold scV
 simp only
 refine WO.go 8 dn ?_
 simp only[E,F,J,M,R,Tz,V,X,Y,reduceIte,G,H,sz]
 refine WO.nil ?_
 refine k2 _ ?_
 refine W.ret ?_
 refine⟨by simp,RunR.ex ?_⟩
 simp only[E,F,J,M,R,Tz,V,X,Y,reduceIte,sxr,G,H,sz]
 intro ρ w1 hb
 exact⟨(a,ρ 2,ρ 1),rfl,ScR.mono (hz.1.keep (hb.at (S:=fun b=>lo3≤b) (s:=s4) (by simp))) fun b h _=>Nat.le_trans hz.2 h,(own_cells (k:=2) hb rfl 0).1,(own_cells (k:=1) hb rfl 0).1,⟨own_new (k:=2) hb (by simp) rfl rfl,(own_cells (k:=2) hb rfl 0).2⟩,own_new (k:=1) hb (by simp) rfl rfl,(own_cells (k:=1) hb rfl 0).2⟩
theorem w17_len:s17.bars.length=1:=rfl
abbrev D77_:List (Option Nat):=[some 9,some 10,some 11,some 12,some 13,some 14,some 15,some 16,some 17,some 18,some 19,some 20,some 21,some 22,some 23,some 24,some 25,some 26,some 27]
abbrev D78_:List (Option Nat):=[some 34,some 35,some 36,some 37,some 38,some 39,some 40,some 41,some 42,some 43,some 44,some 45,some 46,some 47,some 48,some 49,some 50,some 51,some 52,some 53,some 54,some 55,some 56,some 57,some 58,some 59,some 60,some 61,some 62,some 63,some 64,some 65,some 66,some 67,some 68]
theorem r10Valid_spec {S:Nat→Prop} {vb:Value} {w:World} {bt:Nat} (ht:At w ⟨bt,0,none⟩ [iv 0,iv 1,iv 1]) (htz:bt<w.heap.size) (hb9:rBrs.rd S w [vb] s17.bars):Gives Tryz.prog 94 #[vb,.slice (some ⟨bt,0,none⟩) 1 1] w fun r _=>r=.bool true:=by
 obtain⟨pb9,cb9,rfl,_⟩:=Rp.slice_val hb9
 have hb9:(Rp.slice rBr).rd (fun _=>True) w _ s17.bars:=Rp.any hb9
 refine gives_of [.val (.slice pb9 s17.bars.length cb9),.val (.slice (some ⟨bt,0,none⟩) 1 1)] 69 [.tmp 4] Tryz.func94 rfl rfl rfl (by simp) rfl rfl ?_
 refine W.pure dn fun K1 k1=>?_
 simp only[E,F,J,M,R,Tz,V,X,Y,reduceIte,G,H,Z1,Z2,Z3,Z4,Z5,Z6,Z7,w1_,w0_,w10_,w60_,Z8,Z9,Addr.add_mid,w17_len,sd,se,sz];refine k1 _ ?_
 refine W.seqK fun K2 k2=>W.region ?_
 refine WO.go 1 dn ?_
 simp only[E,F,J,M,R,Tz,V,X,Y,reduceIte,G,H,Z1,Z2,Z3,Z4,Z5,Z6,Z7,w1_,w0_,w10_,w60_,Z8,Z9,Addr.add_mid,w17_len,sd,se,sz]
 refine WO.call (.bool true) dn rfl rfl rfl co50 (fun ρ w1 hb=>by have h9:=r6Valid_spec (Rp.now hb9 (hb.first (by simp[St.put])));rw[pb_yes (show BarsOk s17.bars from bars17)] at h9;exact h9) ?_
 refine WO.go 1 dn ?_
 simp only[E,F,J,M,R,Tz,V,X,Y,reduceIte,G,H,Z1,Z2,Z3,Z4,Z5,Z6,Z7,w1_,w0_,w10_,w60_,Z8,Z9,Addr.add_mid,w17_len,sd,se,sz]
 refine WO.nil ?_
 refine k2 _ ?_
 refine W.seqK fun K3 k3=>?_
 refine W.join 27 (.val (.bool false)) [0,1] (W.region ?_) ?_
 ·
  refine WO.go 14 (ds:=D77_) rfl ?_
  simp only[E,F,J,M,R,Tz,V,X,Y,reduceIte,G,H,Z1,Z2,Z3,Z4,Z5,Z6,Z7,w1_,w0_,w10_,w60_,Z8,Z9,Addr.add_mid,w17_len,sd,se,sz]
  refine WO.q (ds:=D77_) rfl rfl rfl (QR.idx rfl rfl rfl el127 (by simp) (by simp)) ?_
  refine WO.go 1 (ds:=D77_) rfl ?_
  simp only[E,F,J,M,R,Tz,V,X,Y,reduceIte,sxq,G,H,Z1,Z2,Z3,Z4,Z5,Z6,Z7,w1_,w0_,w10_,w60_,Z8,Z9,Addr.add_mid,w17_len,sd,se,sz]
  refine WO.q (ds:=D77_) rfl rfl rfl (QR.load [iv 0] false rfl rfl agg3 sz3 (.inr rfl) (fun ρ w1 hb=>At.now (S:=fun _=>True) (at_off (off:=0) (n:=1) ht rfl) hb (by simp[St.put]) trivial htz)) ?_
  simp only[ofCells,if_true,List.toList_toArray,sr]
  refine WO.go 2 (ds:=D77_) rfl ?_
  simp only[E,F,J,M,R,Tz,V,X,Y,reduceIte,G,H,Z1,Z2,Z3,Z4,Z5,Z6,Z7,w1_,w0_,w10_,w60_,Z8,Z9,Addr.add_mid,w17_len,sd,se,sz]
  refine WO.nil ?_
  refine⟨rfl,?_,⟨_,rfl⟩,by simp[Own.bnd,bndL,bnd,boxO],by simp⟩
  simp[getE,bnd,keepE]
 ·
  simp only[E,F,J,M,R,Tz,V,X,Y,reduceIte,sxk,G,H,Z1,Z2,Z3,Z4,Z5,Z6,Z7,w1_,w0_,w10_,w60_,Z8,Z9,Addr.add_mid,w17_len,sd,se,sz]
  refine W.cond rfl rfl (fun hc=>?_) fun hc=>?_
  ·
   simp at hc
  ·
   refine W.skip (k3 _ ?_)
   refine W.seqK fun K5 k5=>?_
   refine W.pure dn fun K6 k6=>?_
   simp only[E,F,J,M,R,Tz,V,X,Y,reduceIte,G,H,Z1,Z2,Z3,Z4,Z5,Z6,Z7,w1_,w0_,w10_,w60_,Z8,Z9,Addr.add_mid,w17_len,sd,se,sz];refine k6 _ ?_
   refine W.block ?_
   refine W.loopK (X:=Nat) [0,1] (fun x=>[(6,wv (x:Int))]) (fun x=>x≤1) (fun x=>1 - x) 0 ?_ ?_ ?_
   · exact⟨rfl,by simp[getE,bnd,keepE],⟨[],by simp⟩,by simp[Own.bnd,bndL,bnd,boxO],by simp⟩
   ·
    exact Nat.zero_le _
   ·
    rintro i hi
    simp only[E,F,J,M,R,Tz,V,X,Y,reduceIte,sxk,G,H,Z1,Z2,Z3,Z4,Z5,Z6,Z7,w1_,w0_,w10_,w60_,Z8,Z9,Addr.add_mid,w17_len,sd,se,sz]
    refine W.seqK fun K7 k7=>?_
    refine W.pure dn fun K8 k8=>?_
    simp only[E,F,J,M,R,Tz,V,X,Y,reduceIte,G,H,Z1,Z2,Z3,Z4,Z5,Z6,Z7,w1_,w0_,w10_,w60_,Z8,Z9,Addr.add_mid,w17_len,sd,se,sz];refine k8 _ ?_
    refine W.cond rfl rfl (fun hc=>?_) fun hc=>?_
    ·
     have hlt:i<1:=by simp at hc;omega
     obtain rfl:i=0:=by omega
     refine W.skip (k7 _ ?_)
     refine W.seqK fun K9 k9=>?_
     refine W.block ?_
     refine W.join 68 (.val (.bool false)) [0,1,6] (W.regionQ mixed (by kernel_rfl) ?_) ?_
     ·
      refine WQ.go 2 (ds:=D78_) rfl ?_
      simp only[E,F,J,M,R,Tz,V,X,Y,reduceIte,sxq,G,H,Z1,Z2,Z3,Z4,Z5,Z6,Z7,w1_,w0_,w10_,w60_,Z8,Z9,Addr.add_mid,w17_len,sd,se,sz]
      refine WQ.q (ds:=D78_) rfl rfl rfl (QR.idx rfl rfl rfl el127 (by simp) (by simp)) ?_
      refine WQ.go 1 (ds:=D78_) rfl ?_
      simp only[E,F,J,M,R,Tz,V,X,Y,reduceIte,sxq,G,H,Z1,Z2,Z3,Z4,Z5,Z6,Z7,w1_,w0_,w10_,w60_,Z8,Z9,Addr.add_mid,w17_len,sd,se,sz]
      refine WQ.q (ds:=D78_) rfl rfl rfl (QR.load [iv 1,iv 1] true rfl rfl agg57 sz57 (.inl rfl) (fun ρ w1 hb=>At.now (S:=fun _=>True) (at_off (off:=1) (n:=2) ht rfl) hb (by simp[St.put]) trivial htz)) ?_
      simp only[ofCells,if_true,List.toList_toArray,sr]
      simp only[E,F,J,M,R,Tz,V,X,Y,reduceIte,G,H,Z1,Z2,Z3,Z4,Z5,Z6,Z7,w1_,w0_,w10_,w60_,Z8,Z9,Addr.add_mid,w17_len,sd,se,sz]
      refine WQ.call (iv 60) (ds:=D78_) rfl rfl rfl rfl co150 (fun ρ w1 hb=>scale_spec w1) ?_
      refine WQ.go 4 (ds:=D78_) rfl ?_
      simp only[E,F,J,M,R,Tz,V,X,Y,reduceIte,sxq,G,H,Z1,Z2,Z3,Z4,Z5,Z6,Z7,w1_,w0_,w10_,w60_,Z8,Z9,Addr.add_mid,w17_len,sd,se,sz]
      refine WQ.q (ds:=D78_) rfl rfl rfl (QR.idx rfl rfl rfl el127 (by simp) (by simp)) ?_
      refine WQ.go 1 (ds:=D78_) rfl ?_
      simp only[E,F,J,M,R,Tz,V,X,Y,reduceIte,sxq,G,H,Z1,Z2,Z3,Z4,Z5,Z6,Z7,w1_,w0_,w10_,w60_,Z8,Z9,Addr.add_mid,w17_len,sd,se,sz]
      refine WQ.q (ds:=D78_) rfl rfl rfl (QR.load [iv 0] false rfl rfl agg3 sz3 (.inr rfl) (fun ρ w1 hb=>At.now (S:=fun _=>True) (at_off (off:=0) (n:=1) ht rfl) hb (by simp[St.put]) trivial htz)) ?_
      simp only[ofCells,if_true,List.toList_toArray,sr]
      refine WQ.go 22 (ds:=D78_) rfl ?_
      simp only[E,F,J,M,R,Tz,V,X,Y,reduceIte,sxq,G,H,Z1,Z2,Z3,Z4,Z5,Z6,Z7,w1_,w0_,w10_,w60_,Z8,Z9,Addr.add_mid,w17_len,sd,se,sz]
      refine WQ.nil ?_
      refine⟨rfl,?_,⟨_,rfl⟩,by simp[Own.bnd,bndL,bnd,boxO],by simp⟩
      simp[getE,bnd,keepE]
     ·
      simp only[E,F,J,M,R,Tz,V,X,Y,reduceIte,sxk,G,H,Z1,Z2,Z3,Z4,Z5,Z6,Z7,w1_,w0_,w10_,w60_,Z8,Z9,Addr.add_mid,w17_len,sd,se,sz]
      refine W.cond rfl rfl (fun hc=>?_) fun hc=>?_
      ·
       simp at hc
      ·
       refine W.skip (k9 _ ?_)
       refine W.region ?_
       refine WO.go 3 dn ?_
       simp only[E,F,J,M,R,Tz,V,X,Y,reduceIte,G,H,Z1,Z2,Z3,Z4,Z5,Z6,Z7,w1_,w0_,w10_,w60_,Z8,Z9,Addr.add_mid,w17_len,sd,se,sz]
       refine WO.nil ?_
       refine⟨1,?_,by simp,rfl,by simp[getE,bnd,keepE],⟨_,rfl⟩,by simp[Own.bnd,bndL,bnd,boxO],by simp⟩
       exact Nat.le_refl _
    ·
     have hge:¬ i<1:=by simp at hc;omega
     obtain rfl:i=1:=by omega
     refine W.exit (k5 _ ?_)
     refine W.pure dn fun K11 k11=>?_
     simp only[E,F,J,M,R,Tz,V,X,Y,reduceIte,G,H,Z1,Z2,Z3,Z4,Z5,Z6,Z7,w1_,w0_,w10_,w60_,Z8,Z9,Addr.add_mid,w17_len,sd,se,sz];refine k11 _ ?_
     refine W.ret ⟨by simp,_,rfl,fun ρ w1 hb=>?_⟩
     rfl
abbrev D79_:List (Option Nat):=[some 12,some 13,some 14,some 15,some 16,some 17,some 18,some 19,some 20,some 21,some 22,some 23,some 24,some 25,some 26,some 27]
theorem r40Work_spec {S:Nat→Prop} {a:ScA} {w:World} {bt:Nat} (ht:At w ⟨bt,0,none⟩ [iv 0,iv 1,iv 1]) (htz:bt<w.heap.size) (hs:ScR S w a s17):Gives Tryz.prog 46 #[.agg #[iv s17.ver,.slice a.b.1 s17.bars.length a.b.2,.slice a.p.1 s17.parts.length a.p.2,.slice a.n.1 s17.notes.length a.n.2,iv 1,.slice none 0 0,.slice none 0 0,iv 0,iv 0,iv 0,.slice none 0 0,.slice (some ⟨bt,0,none⟩) 1 1]] w fun r _=>r=.bool true:=by
 have hs:=hs.any
 refine gives_of [.agg [wv s17.ver,.val (.slice a.b.1 s17.bars.length a.b.2),.val (.slice a.p.1 s17.parts.length a.p.2),.val (.slice a.n.1 s17.notes.length a.n.2),wv 1,.val (.slice none 0 0),.val (.slice none 0 0),wv 0,wv 0,wv 0,.val (.slice none 0 0),.val (.slice (some ⟨bt,0,none⟩) 1 1)]] 35 [.tmp 2] Tryz.func46 rfl rfl rfl (by simp) rfl rfl ?_
 refine W.pure dn fun K1 k1=>?_
 simp only[E,F,J,M,R,Tz,V,X,Y,reduceIte,G,H,Z1,Z2,Z3,Z4,Z5,Z6,Z7,w1_,w0_,w10_,w60_,Z8,Z9,Addr.add_mid,w17_len,sd,se,sz];refine k1 _ ?_
 refine W.seqK fun K2 k2=>W.region ?_
 refine WO.go 2 dn ?_
 simp only[E,F,J,M,R,Tz,V,X,Y,reduceIte,G,H,Z1,Z2,Z3,Z4,Z5,Z6,Z7,w1_,w0_,w10_,w60_,Z8,Z9,Addr.add_mid,w17_len,sd,se,sz]
 refine WO.call (.bool true) dn rfl rfl rfl co19 (fun ρ w1 hb=>by have h9:=r8Valid_spec (a:=a) (ScR.now hs (hb.first (by simp[St.put])));rw[pb_yes ok17] at h9;exact h9) ?_
 refine WO.go 1 dn ?_
 simp only[E,F,J,M,R,Tz,V,X,Y,reduceIte,G,H,Z1,Z2,Z3,Z4,Z5,Z6,Z7,w1_,w0_,w10_,w60_,Z8,Z9,Addr.add_mid,w17_len,sd,se,sz]
 refine WO.nil ?_
 refine k2 _ ?_
 refine W.seqK fun K3 k3=>W.region ?_
 refine WO.go 2 dn ?_
 simp only[E,F,J,M,R,Tz,V,X,Y,reduceIte,G,H,Z1,Z2,Z3,Z4,Z5,Z6,Z7,w1_,w0_,w10_,w60_,Z8,Z9,Addr.add_mid,w17_len,sd,se,sz]
 refine WO.call (.bool true) dn rfl rfl rfl co93 (fun ρ w1 hb=>r9Valid_spec w1) ?_
 refine WO.go 1 dn ?_
 simp only[E,F,J,M,R,Tz,V,X,Y,reduceIte,G,H,Z1,Z2,Z3,Z4,Z5,Z6,Z7,w1_,w0_,w10_,w60_,Z8,Z9,Addr.add_mid,w17_len,sd,se,sz]
 refine WO.nil ?_
 refine k3 _ ?_
 refine W.seqK fun K4 k4=>?_
 refine W.join 27 (.val (.bool false)) [1] (W.region ?_) ?_
 ·
  refine WO.go 16 (ds:=D79_) rfl ?_
  simp only[E,F,J,M,R,Tz,V,X,Y,reduceIte,G,H,Z1,Z2,Z3,Z4,Z5,Z6,Z7,w1_,w0_,w10_,w60_,Z8,Z9,Addr.add_mid,w17_len,sd,se,sz]
  refine WO.nil ?_
  refine⟨rfl,?_,⟨_,rfl⟩,by simp[Own.bnd,bndL,bnd,boxO],by simp⟩
  simp[getE,bnd,keepE]
 ·
  simp only[E,F,J,M,R,Tz,V,X,Y,reduceIte,sxk,G,H,Z1,Z2,Z3,Z4,Z5,Z6,Z7,w1_,w0_,w10_,w60_,Z8,Z9,Addr.add_mid,w17_len,sd,se,sz]
  refine W.cond rfl rfl (fun hc=>?_) fun hc=>?_
  ·
   simp at hc
  ·
   refine W.skip (k4 _ ?_)
   refine W.seqK fun K6 k6=>W.region ?_
   refine WO.go 5 dn ?_
   simp only[E,F,J,M,R,Tz,V,X,Y,reduceIte,G,H,Z1,Z2,Z3,Z4,Z5,Z6,Z7,w1_,w0_,w10_,w60_,Z8,Z9,Addr.add_mid,w17_len,sd,se,sz]
   refine WO.call (.bool true) dn rfl rfl rfl co94 (fun ρ w1 hb=>r10Valid_spec (ht.now (S:=fun _=>True) hb (by simp[St.put]) trivial htz) (Nat.lt_of_lt_of_le htz ((hb.first (by simp[St.put]))).size) (Rp.now hs.b (hb.first (by simp[St.put])))) ?_
   refine WO.go 1 dn ?_
   simp only[E,F,J,M,R,Tz,V,X,Y,reduceIte,G,H,Z1,Z2,Z3,Z4,Z5,Z6,Z7,w1_,w0_,w10_,w60_,Z8,Z9,Addr.add_mid,w17_len,sd,se,sz]
   refine WO.nil ?_
   refine k6 _ ?_
   refine W.pure dn fun K7 k7=>?_
   simp only[E,F,J,M,R,Tz,V,X,Y,reduceIte,G,H,Z1,Z2,Z3,Z4,Z5,Z6,Z7,w1_,w0_,w10_,w60_,Z8,Z9,Addr.add_mid,w17_len,sd,se,sz];refine k7 _ ?_
   refine W.ret ⟨by simp,_,rfl,fun ρ w1 hb=>?_⟩
   rfl
theorem editions_spec (w:World) (v:Value):Gives Tryz.prog 47 #[.agg #[v,.slice none 0 0,.slice none 0 0,.slice none 0 0]] w fun r _=>r=.bool true:=by
 refine gives_of [.agg [.val v,.val (.slice none 0 0),.val (.slice none 0 0),.val (.slice none 0 0)]] 49 [.tmp 2] Tryz.func47 rfl rfl rfl (by simp) rfl rfl ?_
 refine W.pure dn fun K1 k1=>?_
 simp only[E,F,J,M,R,Tz,V,X,Y,reduceIte,G,H,Z1,Z2,Z3,Z4,Z5,Z6,Z7,w1_,w0_,w10_,w60_,Z8,Z9,Addr.add_mid,w17_len,sd,se,sz];refine k1 _ ?_
 refine W.seqK fun K2 k2=>?_
 refine W.pure dn fun K3 k3=>?_
 simp only[E,F,J,M,R,Tz,V,X,Y,reduceIte,G,H,Z1,Z2,Z3,Z4,Z5,Z6,Z7,w1_,w0_,w10_,w60_,Z8,Z9,Addr.add_mid,w17_len,sd,se,sz];refine k3 _ ?_
 refine W.cond rfl rfl (fun hc=>?_) fun hc=>?_
 ·
  simp at hc
 ·
  refine W.skip (k2 _ ?_)
  refine W.seqK fun K4 k4=>?_
  refine W.pure dn fun K5 k5=>?_
  simp only[E,F,J,M,R,Tz,V,X,Y,reduceIte,G,H,Z1,Z2,Z3,Z4,Z5,Z6,Z7,w1_,w0_,w10_,w60_,Z8,Z9,Addr.add_mid,w17_len,sd,se,sz];refine k5 _ ?_
  refine W.block ?_
  refine W.loopK (X:=Unit) [1] (fun x=>[(3,wv 0)]) (fun x=>True) (fun x=>0) () ?_ ?_ ?_
  · exact⟨rfl,by simp[getE,bnd,keepE],⟨[],by simp⟩,by simp[Own.bnd,bndL,bnd,boxO],by simp⟩
  ·
   trivial
  ·
   rintro _ _
   simp only[E,F,J,M,R,Tz,V,X,Y,reduceIte,sxk,G,H,Z1,Z2,Z3,Z4,Z5,Z6,Z7,w1_,w0_,w10_,w60_,Z8,Z9,Addr.add_mid,w17_len,sd,se,sz]
   refine W.seqK fun K6 k6=>?_
   refine W.pure dn fun K7 k7=>?_
   simp only[E,F,J,M,R,Tz,V,X,Y,reduceIte,G,H,Z1,Z2,Z3,Z4,Z5,Z6,Z7,w1_,w0_,w10_,w60_,Z8,Z9,Addr.add_mid,w17_len,sd,se,sz];refine k7 _ ?_
   refine W.cond rfl rfl (fun hc=>?_) fun hc=>?_
   ·
    simp at hc
   ·
    refine W.exit (k4 _ ?_)
    refine W.pure dn fun K8 k8=>?_
    simp only[E,F,J,M,R,Tz,V,X,Y,reduceIte,G,H,Z1,Z2,Z3,Z4,Z5,Z6,Z7,w1_,w0_,w10_,w60_,Z8,Z9,Addr.add_mid,w17_len,sd,se,sz];refine k8 _ ?_
    refine W.ret ⟨by simp,_,rfl,fun ρ w1 hb=>?_⟩
    rfl
theorem sheets_spec (w:World) (v:Value):Gives Tryz.prog 48 #[.agg #[v,.slice none 0 0,.slice none 0 0,.slice none 0 0]] w fun r _=>r=.bool true:=by
 refine gives_of [.agg [.val v,.val (.slice none 0 0),.val (.slice none 0 0),.val (.slice none 0 0)]] 68 [.tmp 2] Tryz.func48 rfl rfl rfl (by simp) rfl rfl ?_
 refine W.pure dn fun K1 k1=>?_
 simp only[E,F,J,M,R,Tz,V,X,Y,reduceIte,G,H,Z1,Z2,Z3,Z4,Z5,Z6,Z7,w1_,w0_,w10_,w60_,Z8,Z9,Addr.add_mid,w17_len,sd,se,sz];refine k1 _ ?_
 refine W.seqK fun K2 k2=>?_
 refine W.pure dn fun K3 k3=>?_
 simp only[E,F,J,M,R,Tz,V,X,Y,reduceIte,G,H,Z1,Z2,Z3,Z4,Z5,Z6,Z7,w1_,w0_,w10_,w60_,Z8,Z9,Addr.add_mid,w17_len,sd,se,sz];refine k3 _ ?_
 refine W.cond rfl rfl (fun hc=>?_) fun hc=>?_
 ·
  simp at hc
 ·
  refine W.skip (k2 _ ?_)
  refine W.seqK fun K4 k4=>?_
  refine W.pure dn fun K5 k5=>?_
  simp only[E,F,J,M,R,Tz,V,X,Y,reduceIte,G,H,Z1,Z2,Z3,Z4,Z5,Z6,Z7,w1_,w0_,w10_,w60_,Z8,Z9,Addr.add_mid,w17_len,sd,se,sz];refine k5 _ ?_
  refine W.block ?_
  refine W.loopK (X:=Unit) [1] (fun x=>[(3,wv 0)]) (fun x=>True) (fun x=>0) () ?_ ?_ ?_
  · exact⟨rfl,by simp[getE,bnd,keepE],⟨[],by simp⟩,by simp[Own.bnd,bndL,bnd,boxO],by simp⟩
  ·
   trivial
  ·
   rintro _ _
   simp only[E,F,J,M,R,Tz,V,X,Y,reduceIte,sxk,G,H,Z1,Z2,Z3,Z4,Z5,Z6,Z7,w1_,w0_,w10_,w60_,Z8,Z9,Addr.add_mid,w17_len,sd,se,sz]
   refine W.seqK fun K6 k6=>?_
   refine W.pure dn fun K7 k7=>?_
   simp only[E,F,J,M,R,Tz,V,X,Y,reduceIte,G,H,Z1,Z2,Z3,Z4,Z5,Z6,Z7,w1_,w0_,w10_,w60_,Z8,Z9,Addr.add_mid,w17_len,sd,se,sz];refine k7 _ ?_
   refine W.cond rfl rfl (fun hc=>?_) fun hc=>?_
   ·
    simp at hc
   ·
    refine W.exit (k4 _ ?_)
    refine W.pure dn fun K8 k8=>?_
    simp only[E,F,J,M,R,Tz,V,X,Y,reduceIte,G,H,Z1,Z2,Z3,Z4,Z5,Z6,Z7,w1_,w0_,w10_,w60_,Z8,Z9,Addr.add_mid,w17_len,sd,se,sz];refine k8 _ ?_
    refine W.ret ⟨by simp,_,rfl,fun ρ w1 hb=>?_⟩
    rfl
theorem loans_spec (w:World):Gives Tryz.prog 49 #[.slice none 0 0] w fun r _=>r=.bool true:=by
 refine gives_of [.val (.slice none 0 0)] 50 [.tmp 2] Tryz.func49 rfl rfl rfl (by simp) rfl rfl ?_
 refine W.pure dn fun K1 k1=>?_
 simp only[E,F,J,M,R,Tz,V,X,Y,reduceIte,G,H,Z1,Z2,Z3,Z4,Z5,Z6,Z7,w1_,w0_,w10_,w60_,Z8,Z9,Addr.add_mid,w17_len,sd,se,sz];refine k1 _ ?_
 refine W.seqK fun K2 k2=>?_
 refine W.pure dn fun K3 k3=>?_
 simp only[E,F,J,M,R,Tz,V,X,Y,reduceIte,G,H,Z1,Z2,Z3,Z4,Z5,Z6,Z7,w1_,w0_,w10_,w60_,Z8,Z9,Addr.add_mid,w17_len,sd,se,sz];refine k3 _ ?_
 refine W.cond rfl rfl (fun hc=>?_) fun hc=>?_
 ·
  simp at hc
 ·
  refine W.skip (k2 _ ?_)
  refine W.seqK fun K4 k4=>?_
  refine W.pure dn fun K5 k5=>?_
  simp only[E,F,J,M,R,Tz,V,X,Y,reduceIte,G,H,Z1,Z2,Z3,Z4,Z5,Z6,Z7,w1_,w0_,w10_,w60_,Z8,Z9,Addr.add_mid,w17_len,sd,se,sz];refine k5 _ ?_
  refine W.block ?_
  refine W.loopK (X:=Unit) [0] (fun x=>[(3,wv 0)]) (fun x=>True) (fun x=>0) () ?_ ?_ ?_
  · exact⟨rfl,by simp[getE,bnd,keepE],⟨[],by simp⟩,by simp[Own.bnd,bndL,bnd,boxO],by simp⟩
  ·
   trivial
  ·
   rintro _ _
   simp only[E,F,J,M,R,Tz,V,X,Y,reduceIte,sxk,G,H,Z1,Z2,Z3,Z4,Z5,Z6,Z7,w1_,w0_,w10_,w60_,Z8,Z9,Addr.add_mid,w17_len,sd,se,sz]
   refine W.seqK fun K6 k6=>?_
   refine W.pure dn fun K7 k7=>?_
   simp only[E,F,J,M,R,Tz,V,X,Y,reduceIte,G,H,Z1,Z2,Z3,Z4,Z5,Z6,Z7,w1_,w0_,w10_,w60_,Z8,Z9,Addr.add_mid,w17_len,sd,se,sz];refine k7 _ ?_
   refine W.cond rfl rfl (fun hc=>?_) fun hc=>?_
   ·
    simp at hc
   ·
    refine W.exit (k4 _ ?_)
    refine W.pure dn fun K8 k8=>?_
    simp only[E,F,J,M,R,Tz,V,X,Y,reduceIte,G,H,Z1,Z2,Z3,Z4,Z5,Z6,Z7,w1_,w0_,w10_,w60_,Z8,Z9,Addr.add_mid,w17_len,sd,se,sz];refine k8 _ ?_
    refine W.ret ⟨by simp,_,rfl,fun ρ w1 hb=>?_⟩
    rfl
abbrev D80_:List (Option Nat):=[some 26,some 27,some 28,some 29,some 30,some 31,some 32,some 33,some 34,some 35,some 36,some 37,some 38,some 39,some 40,some 41,some 42,some 43,some 44,some 45,some 46,some 47,some 48,some 49,some 50,some 51,some 52,some 53,some 54,some 55,some 56,some 57]
theorem r30Works_spec {S:Nat→Prop} {w:World} {bw bt:Nat} {a:ScA} (hs:ScR S w a s17) (hw:At w ⟨bw,0,none⟩ [iv s17.ver,.slice a.b.1 s17.bars.length a.b.2,.slice a.p.1 s17.parts.length a.p.2,.slice a.n.1 s17.notes.length a.n.2,iv 1,.slice none 0 0,.slice none 0 0,iv 0,iv 0,iv 0,.slice none 0 0,.slice (some ⟨bt,0,none⟩) 1 1]) (hwz:bw<w.heap.size):Gives Tryz.prog 45 #[.slice (some ⟨bw,0,none⟩) 1 1] w fun r _=>r=.bool true:=by
 refine gives_of [.val (.slice (some ⟨bw,0,none⟩) 1 1)] 59 [.tmp 2] Tryz.func45 rfl rfl rfl (by simp) rfl rfl ?_
 refine W.pure dn fun K1 k1=>?_
 simp only[E,F,J,M,R,Tz,V,X,Y,reduceIte,G,H,Z1,Z2,Z3,Z4,Z5,Z6,Z7,w1_,w0_,w10_,w60_,Z8,Z9,Addr.add_mid,w17_len,sd,se,sz];refine k1 _ ?_
 refine W.seqK fun K2 k2=>?_
 refine W.join 13 (.val (.bool false)) [0] (W.region ?_) ?_
 ·
  refine WO.go 8 (ds:=D24_) rfl ?_
  simp only[E,F,J,M,R,Tz,V,X,Y,reduceIte,G,H,Z1,Z2,Z3,Z4,Z5,Z6,Z7,w1_,w0_,w10_,w60_,Z8,Z9,Addr.add_mid,w17_len,sd,se,sz]
  refine WO.nil ?_
  refine⟨rfl,?_,⟨_,rfl⟩,by simp[Own.bnd,bndL,bnd,boxO],by simp⟩
  simp[getE,bnd,keepE]
 ·
  simp only[E,F,J,M,R,Tz,V,X,Y,reduceIte,sxk,G,H,Z1,Z2,Z3,Z4,Z5,Z6,Z7,w1_,w0_,w10_,w60_,Z8,Z9,Addr.add_mid,w17_len,sd,se,sz]
  refine W.cond rfl rfl (fun hc=>?_) fun hc=>?_
  ·
   simp at hc
  ·
   refine W.skip (k2 _ ?_)
   refine W.pure dn fun K4 k4=>?_
   simp only[E,F,J,M,R,Tz,V,X,Y,reduceIte,G,H,Z1,Z2,Z3,Z4,Z5,Z6,Z7,w1_,w0_,w10_,w60_,Z8,Z9,Addr.add_mid,w17_len,sd,se,sz];refine k4 _ ?_
   refine W.seqK fun K5 k5=>?_
   refine W.pure dn fun K6 k6=>?_
   simp only[E,F,J,M,R,Tz,V,X,Y,reduceIte,G,H,Z1,Z2,Z3,Z4,Z5,Z6,Z7,w1_,w0_,w10_,w60_,Z8,Z9,Addr.add_mid,w17_len,sd,se,sz];refine k6 _ ?_
   refine W.block ?_
   refine W.loopK (X:=Nat) [0] (fun x=>[(3,wv (x:Int)),(4,wv (x:Int))]) (fun x=>x≤1) (fun x=>1 - x) 0 ?_ ?_ ?_
   · exact⟨rfl,by simp[getE,bnd,keepE],⟨[],by simp⟩,by simp[Own.bnd,bndL,bnd,boxO],by simp⟩
   ·
    exact Nat.zero_le _
   ·
    rintro i hi
    simp only[E,F,J,M,R,Tz,V,X,Y,reduceIte,sxk,G,H,Z1,Z2,Z3,Z4,Z5,Z6,Z7,w1_,w0_,w10_,w60_,Z8,Z9,Addr.add_mid,w17_len,sd,se,sz]
    refine W.seqK fun K7 k7=>?_
    refine W.pure dn fun K8 k8=>?_
    simp only[E,F,J,M,R,Tz,V,X,Y,reduceIte,G,H,Z1,Z2,Z3,Z4,Z5,Z6,Z7,w1_,w0_,w10_,w60_,Z8,Z9,Addr.add_mid,w17_len,sd,se,sz];refine k8 _ ?_
    refine W.cond rfl rfl (fun hc=>?_) fun hc=>?_
    ·
     have hlt:i<1:=by simp at hc;omega
     obtain rfl:i=0:=by omega
     refine W.skip (k7 _ ?_)
     refine W.seqK fun K9 k9=>?_
     refine W.block ?_
     refine W.seqK fun K10 k10=>W.region ?_
     refine WO.go 2 dn ?_
     simp only[E,F,J,M,R,Tz,V,X,Y,reduceIte,G,H,Z1,Z2,Z3,Z4,Z5,Z6,Z7,w1_,w0_,w10_,w60_,Z8,Z9,Addr.add_mid,w17_len,sd,se,sz]
     refine WO.q dn rfl rfl (QR.idx rfl rfl rfl el64 (by simp) (by simp)) ?_
     refine WO.go 2 dn ?_
     simp only[E,F,J,M,R,Tz,V,X,Y,reduceIte,G,H,Z1,Z2,Z3,Z4,Z5,Z6,Z7,w1_,w0_,w10_,w60_,Z8,Z9,Addr.add_mid,w17_len,sd,se,sz]
     refine WO.q dn rfl rfl (QR.load [iv 1] false rfl rfl agg3 sz3 (.inr rfl) (fun ρ w1 hb=>At.now (S:=fun _=>True) (at_off (off:=0) (n:=1) hw rfl) hb (by simp[St.put]) trivial hwz)) ?_
     simp only[ofCells,if_true,List.toList_toArray,sr]
     refine WO.go 1 dn ?_
     simp only[E,F,J,M,R,Tz,V,X,Y,reduceIte,G,H,Z1,Z2,Z3,Z4,Z5,Z6,Z7,w1_,w0_,w10_,w60_,Z8,Z9,Addr.add_mid,w17_len,sd,se,sz]
     refine WO.nil ?_
     refine k10 _ ?_
     refine W.seqK fun K11 k11=>?_
     refine W.join 57 (.val (.bool false)) [0,4,5] (W.regionQ mixed (by kernel_rfl) ?_) ?_
     ·
      refine WQ.go 10 (ds:=D80_) rfl ?_
      simp only[E,F,J,M,R,Tz,V,X,Y,reduceIte,sxq,G,H,Z1,Z2,Z3,Z4,Z5,Z6,Z7,w1_,w0_,w10_,w60_,Z8,Z9,Addr.add_mid,w17_len,sd,se,sz]
      refine WQ.q (ds:=D80_) rfl rfl rfl (QR.idx rfl rfl rfl el64 (by simp) (by simp)) ?_
      refine WQ.go 1 (ds:=D80_) rfl ?_
      simp only[E,F,J,M,R,Tz,V,X,Y,reduceIte,sxq,G,H,Z1,Z2,Z3,Z4,Z5,Z6,Z7,w1_,w0_,w10_,w60_,Z8,Z9,Addr.add_mid,w17_len,sd,se,sz]
      refine WQ.q (ds:=D80_) rfl rfl rfl (QR.load [iv 1,.slice none 0 0,.slice none 0 0,iv 0,iv 0,iv 0,.slice none 0 0] true rfl rfl agg126 sz126 (.inl rfl) (fun ρ w1 hb=>At.now (S:=fun _=>True) (at_off (off:=4) (n:=7) hw rfl) hb (by simp[St.put]) trivial hwz)) ?_
      simp only[ofCells,if_true,List.toList_toArray,sr]
      simp only[E,F,J,M,R,Tz,V,X,Y,reduceIte,G,H,Z1,Z2,Z3,Z4,Z5,Z6,Z7,w1_,w0_,w10_,w60_,Z8,Z9,Addr.add_mid,w17_len,sd,se,sz]
      refine WQ.call (.bool true) (ds:=D80_) rfl rfl rfl rfl co93 (fun ρ w1 hb=>r9Valid_spec w1) ?_
      refine WQ.go 5 (ds:=D80_) rfl ?_
      simp only[E,F,J,M,R,Tz,V,X,Y,reduceIte,sxq,G,H,Z1,Z2,Z3,Z4,Z5,Z6,Z7,w1_,w0_,w10_,w60_,Z8,Z9,Addr.add_mid,w17_len,sd,se,sz]
      refine WQ.q (ds:=D80_) rfl rfl rfl (QR.idx rfl rfl rfl el64 (by simp) (by simp)) ?_
      refine WQ.go 2 (ds:=D80_) rfl ?_
      simp only[E,F,J,M,R,Tz,V,X,Y,reduceIte,sxq,G,H,Z1,Z2,Z3,Z4,Z5,Z6,Z7,w1_,w0_,w10_,w60_,Z8,Z9,Addr.add_mid,w17_len,sd,se,sz]
      refine WQ.q (ds:=D80_) rfl rfl rfl (QR.load [iv 1] false rfl rfl agg3 sz3 (.inr rfl) (fun ρ w1 hb=>At.now (S:=fun _=>True) (at_off (off:=4) (n:=1) hw rfl) hb (by simp[St.put]) trivial hwz)) ?_
      simp only[ofCells,if_true,List.toList_toArray,sr]
      refine WQ.go 2 (ds:=D80_) rfl ?_
      simp only[E,F,J,M,R,Tz,V,X,Y,reduceIte,sxq,G,H,Z1,Z2,Z3,Z4,Z5,Z6,Z7,w1_,w0_,w10_,w60_,Z8,Z9,Addr.add_mid,w17_len,sd,se,sz]
      refine WQ.q (ds:=D80_) rfl rfl rfl (QR.idx rfl rfl rfl el64 (by simp) (by simp)) ?_
      refine WQ.go 2 (ds:=D80_) rfl ?_
      simp only[E,F,J,M,R,Tz,V,X,Y,reduceIte,sxq,G,H,Z1,Z2,Z3,Z4,Z5,Z6,Z7,w1_,w0_,w10_,w60_,Z8,Z9,Addr.add_mid,w17_len,sd,se,sz]
      refine WQ.q (ds:=D80_) rfl rfl rfl (QR.load [.slice a.b.1 s17.bars.length a.b.2] false rfl rfl agg22 sz22 (.inr rfl) (fun ρ w1 hb=>At.now (S:=fun _=>True) (at_off (off:=1) (n:=1) hw rfl) hb (by simp[St.put]) trivial hwz)) ?_
      simp only[ofCells,if_true,List.toList_toArray,sr]
      refine WQ.go 3 (ds:=D80_) rfl ?_
      simp only[E,F,J,M,R,Tz,V,X,Y,reduceIte,sxq,G,H,Z1,Z2,Z3,Z4,Z5,Z6,Z7,w1_,w0_,w10_,w60_,Z8,Z9,Addr.add_mid,w17_len,sd,se,sz]
      refine WQ.nil ?_
      refine⟨rfl,?_,⟨_,rfl⟩,by simp[Own.bnd,bndL,bnd,boxO],by simp⟩
      simp[getE,bnd,keepE]
     ·
      simp only[E,F,J,M,R,Tz,V,X,Y,reduceIte,sxk,G,H,Z1,Z2,Z3,Z4,Z5,Z6,Z7,w1_,w0_,w10_,w60_,Z8,Z9,Addr.add_mid,w17_len,sd,se,sz]
      refine W.cond rfl rfl (fun hc=>?_) fun hc=>?_
      ·
       simp at hc
      ·
       refine W.skip (k11 _ ?_)
       refine W.region ?_
       refine WO.go 2 dn ?_
       simp only[E,F,J,M,R,Tz,V,X,Y,reduceIte,G,H,Z1,Z2,Z3,Z4,Z5,Z6,Z7,w1_,w0_,w10_,w60_,Z8,Z9,Addr.add_mid,w17_len,sd,se,sz]
       refine WO.nil ?_
       refine k9 _ ?_
       refine W.region ?_
       refine WO.go 3 dn ?_
       simp only[E,F,J,M,R,Tz,V,X,Y,reduceIte,G,H,Z1,Z2,Z3,Z4,Z5,Z6,Z7,w1_,w0_,w10_,w60_,Z8,Z9,Addr.add_mid,w17_len,sd,se,sz]
       refine WO.nil ?_
       refine⟨1,?_,by simp,rfl,by simp[getE,bnd,keepE],⟨_,rfl⟩,by simp[Own.bnd,bndL,bnd,boxO],by simp⟩
       exact Nat.le_refl _
    ·
     have hge:¬ i<1:=by simp at hc;omega
     obtain rfl:i=1:=by omega
     refine W.exit (k5 _ ?_)
     refine W.pure dn fun K13 k13=>?_
     simp only[E,F,J,M,R,Tz,V,X,Y,reduceIte,G,H,Z1,Z2,Z3,Z4,Z5,Z6,Z7,w1_,w0_,w10_,w60_,Z8,Z9,Addr.add_mid,w17_len,sd,se,sz];refine k13 _ ?_
     refine W.ret ⟨by simp,_,rfl,fun ρ w1 hb=>?_⟩
     rfl
abbrev D81_:List (Option Nat):=[some 28,some 29,some 30,some 31,some 32,some 33,some 34,some 35]
theorem r40Valid_spec {S:Nat→Prop} {w:World} {bw bt:Nat} {a:ScA} (hs:ScR S w a s17) (hw:At w ⟨bw,0,none⟩ [iv s17.ver,.slice a.b.1 s17.bars.length a.b.2,.slice a.p.1 s17.parts.length a.p.2,.slice a.n.1 s17.notes.length a.n.2,iv 1,.slice none 0 0,.slice none 0 0,iv 0,iv 0,iv 0,.slice none 0 0,.slice (some ⟨bt,0,none⟩) 1 1]) (hwz:bw<w.heap.size) (ht:At w ⟨bt,0,none⟩ [iv 0,iv 1,iv 1]) (htz:bt<w.heap.size):Gives Tryz.prog 17 #[.agg #[.slice (some ⟨bw,0,none⟩) 1 1,.slice none 0 0,.slice none 0 0,.slice none 0 0]] w fun r _=>r=.bool true:=by
 have hs:=hs.any
 refine gives_of [.agg [.val (.slice (some ⟨bw,0,none⟩) 1 1),.val (.slice none 0 0),.val (.slice none 0 0),.val (.slice none 0 0)]] 57 [.tmp 2] Tryz.func17 rfl rfl rfl (by simp) rfl rfl ?_
 refine W.pure dn fun K1 k1=>?_
 simp only[E,F,J,M,R,Tz,V,X,Y,reduceIte,G,H,Z1,Z2,Z3,Z4,Z5,Z6,Z7,w1_,w0_,w10_,w60_,Z8,Z9,Addr.add_mid,w17_len,sd,se,sz];refine k1 _ ?_
 refine W.seqK fun K2 k2=>W.region ?_
 refine WO.go 2 dn ?_
 simp only[E,F,J,M,R,Tz,V,X,Y,reduceIte,G,H,Z1,Z2,Z3,Z4,Z5,Z6,Z7,w1_,w0_,w10_,w60_,Z8,Z9,Addr.add_mid,w17_len,sd,se,sz]
 refine WO.call (.bool true) dn rfl rfl rfl co45 (fun ρ w1 hb=>r30Works_spec (bt:=bt) (ScR.now hs (hb.first (by simp[St.put]))) (hw.now (S:=fun _=>True) hb (by simp[St.put]) trivial hwz) (Nat.lt_of_lt_of_le hwz ((hb.first (by simp[St.put]))).size)) ?_
 refine WO.go 1 dn ?_
 simp only[E,F,J,M,R,Tz,V,X,Y,reduceIte,G,H,Z1,Z2,Z3,Z4,Z5,Z6,Z7,w1_,w0_,w10_,w60_,Z8,Z9,Addr.add_mid,w17_len,sd,se,sz]
 refine WO.nil ?_
 refine k2 _ ?_
 refine W.seqK fun K3 k3=>?_
 refine W.pure dn fun K4 k4=>?_
 simp only[E,F,J,M,R,Tz,V,X,Y,reduceIte,G,H,Z1,Z2,Z3,Z4,Z5,Z6,Z7,w1_,w0_,w10_,w60_,Z8,Z9,Addr.add_mid,w17_len,sd,se,sz];refine k4 _ ?_
 refine W.cond rfl rfl (fun hc=>?_) fun hc=>?_
 ·
  simp at hc
 ·
  refine W.skip (k3 _ ?_)
  refine W.seqK fun K5 k5=>?_
  refine W.pure dn fun K6 k6=>?_
  simp only[E,F,J,M,R,Tz,V,X,Y,reduceIte,G,H,Z1,Z2,Z3,Z4,Z5,Z6,Z7,w1_,w0_,w10_,w60_,Z8,Z9,Addr.add_mid,w17_len,sd,se,sz];refine k6 _ ?_
  refine W.block ?_
  refine W.loopK (X:=Nat) [1] (fun x=>[(4,wv (x:Int))]) (fun x=>x≤1) (fun x=>1 - x) 0 ?_ ?_ ?_
  · exact⟨rfl,by simp[getE,bnd,keepE],⟨[],by simp⟩,by simp[Own.bnd,bndL,bnd,boxO],by simp⟩
  ·
   exact Nat.zero_le _
  ·
   rintro i hi
   simp only[E,F,J,M,R,Tz,V,X,Y,reduceIte,sxk,G,H,Z1,Z2,Z3,Z4,Z5,Z6,Z7,w1_,w0_,w10_,w60_,Z8,Z9,Addr.add_mid,w17_len,sd,se,sz]
   refine W.seqK fun K7 k7=>?_
   refine W.pure dn fun K8 k8=>?_
   simp only[E,F,J,M,R,Tz,V,X,Y,reduceIte,G,H,Z1,Z2,Z3,Z4,Z5,Z6,Z7,w1_,w0_,w10_,w60_,Z8,Z9,Addr.add_mid,w17_len,sd,se,sz];refine k8 _ ?_
   refine W.cond rfl rfl (fun hc=>?_) fun hc=>?_
   ·
    have hlt:i<1:=by simp at hc;omega
    obtain rfl:i=0:=by omega
    refine W.skip (k7 _ ?_)
    refine W.seqK fun K9 k9=>?_
    refine W.block ?_
    refine W.seqK fun K10 k10=>W.region ?_
    refine WO.go 3 dn ?_
    simp only[E,F,J,M,R,Tz,V,X,Y,reduceIte,G,H,Z1,Z2,Z3,Z4,Z5,Z6,Z7,w1_,w0_,w10_,w60_,Z8,Z9,Addr.add_mid,w17_len,sd,se,sz]
    refine WO.q dn rfl rfl (QR.idx rfl rfl rfl el64 (by simp) (by simp)) ?_
    simp only[E,F,J,M,R,Tz,V,X,Y,reduceIte,sxq,G,H,Z1,Z2,Z3,Z4,Z5,Z6,Z7,w1_,w0_,w10_,w60_,Z8,Z9,Addr.add_mid,w17_len,sd,se,sz]
    refine WO.q dn rfl rfl (QR.load [iv s17.ver,.slice a.b.1 s17.bars.length a.b.2,.slice a.p.1 s17.parts.length a.p.2,.slice a.n.1 s17.notes.length a.n.2,iv 1,.slice none 0 0,.slice none 0 0,iv 0,iv 0,iv 0,.slice none 0 0,.slice (some ⟨bt,0,none⟩) 1 1] true rfl rfl agg129 sz129 (.inl rfl) (fun ρ w1 hb=>At.now (S:=fun _=>True) (at_off (off:=0) (n:=12) hw rfl) hb (by simp[St.put]) trivial hwz)) ?_
    simp only[ofCells,if_true,List.toList_toArray,sr]
    simp only[E,F,J,M,R,Tz,V,X,Y,reduceIte,G,H,Z1,Z2,Z3,Z4,Z5,Z6,Z7,w1_,w0_,w10_,w60_,Z8,Z9,Addr.add_mid,w17_len,sd,se,sz]
    refine WO.call (.bool true) dn rfl rfl rfl co46 (fun ρ w1 hb=>r40Work_spec (a:=a) (ht.now (S:=fun _=>True) hb (by simp[St.put]) trivial htz) (Nat.lt_of_lt_of_le htz ((hb.first (by simp[St.put]))).size) (ScR.now hs (hb.first (by simp[St.put])))) ?_
    refine WO.go 1 dn ?_
    simp only[E,F,J,M,R,Tz,V,X,Y,reduceIte,G,H,Z1,Z2,Z3,Z4,Z5,Z6,Z7,w1_,w0_,w10_,w60_,Z8,Z9,Addr.add_mid,w17_len,sd,se,sz]
    refine WO.nil ?_
    refine k10 _ ?_
    refine W.pure dn fun K11 k11=>?_
    simp only[E,F,J,M,R,Tz,V,X,Y,reduceIte,G,H,Z1,Z2,Z3,Z4,Z5,Z6,Z7,w1_,w0_,w10_,w60_,Z8,Z9,Addr.add_mid,w17_len,sd,se,sz];refine k11 _ ?_
    refine W.cond rfl rfl (fun hc=>?_) fun hc=>?_
    ·
     simp at hc
    ·
     refine W.skip (k9 _ ?_)
     refine W.region ?_
     refine WO.go 3 dn ?_
     simp only[E,F,J,M,R,Tz,V,X,Y,reduceIte,G,H,Z1,Z2,Z3,Z4,Z5,Z6,Z7,w1_,w0_,w10_,w60_,Z8,Z9,Addr.add_mid,w17_len,sd,se,sz]
     refine WO.nil ?_
     refine⟨1,?_,by simp,rfl,by simp[getE,bnd,keepE],⟨_,rfl⟩,by simp[Own.bnd,bndL,bnd,boxO],by simp⟩
     exact Nat.le_refl _
   ·
    have hge:¬ i<1:=by simp at hc;omega
    obtain rfl:i=1:=by omega
    refine W.exit (k5 _ ?_)
    refine W.seqK fun K12 k12=>?_
    refine W.join 35 (.val (.bool false)) [1] (W.region ?_) ?_
    ·
     refine WO.go 1 (ds:=D81_) rfl ?_
     simp only[E,F,J,M,R,Tz,V,X,Y,reduceIte,G,H,Z1,Z2,Z3,Z4,Z5,Z6,Z7,w1_,w0_,w10_,w60_,Z8,Z9,Addr.add_mid,w17_len,sd,se,sz]
     refine WO.call (.bool true) (ds:=D81_) rfl rfl rfl rfl co47 (fun ρ w1 hb=>editions_spec w1 _) ?_
     refine WO.go 3 (ds:=D81_) rfl ?_
     simp only[E,F,J,M,R,Tz,V,X,Y,reduceIte,G,H,Z1,Z2,Z3,Z4,Z5,Z6,Z7,w1_,w0_,w10_,w60_,Z8,Z9,Addr.add_mid,w17_len,sd,se,sz]
     refine WO.call (.bool true) (ds:=D81_) rfl rfl rfl rfl co48 (fun ρ w1 hb=>sheets_spec w1 _) ?_
     refine WO.go 2 (ds:=D81_) rfl ?_
     simp only[E,F,J,M,R,Tz,V,X,Y,reduceIte,G,H,Z1,Z2,Z3,Z4,Z5,Z6,Z7,w1_,w0_,w10_,w60_,Z8,Z9,Addr.add_mid,w17_len,sd,se,sz]
     refine WO.nil ?_
     refine⟨rfl,?_,⟨_,rfl⟩,by simp[Own.bnd,bndL,bnd,boxO],by simp⟩
     simp[getE,bnd,keepE]
    ·
     simp only[E,F,J,M,R,Tz,V,X,Y,reduceIte,sxk,G,H,Z1,Z2,Z3,Z4,Z5,Z6,Z7,w1_,w0_,w10_,w60_,Z8,Z9,Addr.add_mid,w17_len,sd,se,sz]
     refine W.cond rfl rfl (fun hc=>?_) fun hc=>?_
     ·
      simp at hc
     ·
      refine W.skip (k12 _ ?_)
      refine W.seqK fun K14 k14=>?_
      refine W.pure dn fun K15 k15=>?_
      simp only[E,F,J,M,R,Tz,V,X,Y,reduceIte,G,H,Z1,Z2,Z3,Z4,Z5,Z6,Z7,w1_,w0_,w10_,w60_,Z8,Z9,Addr.add_mid,w17_len,sd,se,sz];refine k15 _ ?_
      refine W.block ?_
      refine W.loopK (X:=Unit) [1] (fun x=>[(6,wv 0)]) (fun x=>True) (fun x=>0) () ?_ ?_ ?_
      · exact⟨rfl,by simp[getE,bnd,keepE],⟨[],by simp⟩,by simp[Own.bnd,bndL,bnd,boxO],by simp⟩
      ·
       trivial
      ·
       rintro _ _
       simp only[E,F,J,M,R,Tz,V,X,Y,reduceIte,sxk,G,H,Z1,Z2,Z3,Z4,Z5,Z6,Z7,w1_,w0_,w10_,w60_,Z8,Z9,Addr.add_mid,w17_len,sd,se,sz]
       refine W.seqK fun K16 k16=>?_
       refine W.pure dn fun K17 k17=>?_
       simp only[E,F,J,M,R,Tz,V,X,Y,reduceIte,G,H,Z1,Z2,Z3,Z4,Z5,Z6,Z7,w1_,w0_,w10_,w60_,Z8,Z9,Addr.add_mid,w17_len,sd,se,sz];refine k17 _ ?_
       refine W.cond rfl rfl (fun hc=>?_) fun hc=>?_
       ·
        simp at hc
       ·
        refine W.exit (k14 _ ?_)
        refine W.seqK fun K18 k18=>W.region ?_
        refine WO.go 2 dn ?_
        simp only[E,F,J,M,R,Tz,V,X,Y,reduceIte,G,H,Z1,Z2,Z3,Z4,Z5,Z6,Z7,w1_,w0_,w10_,w60_,Z8,Z9,Addr.add_mid,w17_len,sd,se,sz]
        refine WO.call (.bool true) dn rfl rfl rfl co49 (fun ρ w1 hb=>loans_spec w1) ?_
        refine WO.go 1 dn ?_
        simp only[E,F,J,M,R,Tz,V,X,Y,reduceIte,G,H,Z1,Z2,Z3,Z4,Z5,Z6,Z7,w1_,w0_,w10_,w60_,Z8,Z9,Addr.add_mid,w17_len,sd,se,sz]
        refine WO.nil ?_
        refine k18 _ ?_
        refine W.pure dn fun K19 k19=>?_
        simp only[E,F,J,M,R,Tz,V,X,Y,reduceIte,G,H,Z1,Z2,Z3,Z4,Z5,Z6,Z7,w1_,w0_,w10_,w60_,Z8,Z9,Addr.add_mid,w17_len,sd,se,sz];refine k19 _ ?_
        refine W.ret ⟨by simp,_,rfl,fun ρ w1 hb=>?_⟩
        rfl
theorem view_open {S:Nat→Prop} {w:World} {q:Option Addr} {c:Nat} {m:Ms} {u:Wt} (h:(Rp.slice rMs).rd S w [.slice q 1 c] [m]) (hm:m.notes=[u]):∃ (pm pn:Addr) (cn:Nat),q=some pm∧(At w pm [.int .i64 m.bar,.int .i64 m.key,.int .i64 m.len.1,.int .i64 m.len.2,.slice (some pn) 1 cn]∧S pm.block∧pm.block<w.heap.size)∧At w pn (wtV u)∧S pn.block∧pn.block<w.heap.size:=by
 obtain⟨p',n',c',hv,hn,_,_,h9⟩:=h
 simp only[List.cons.injEq,and_true,Value.slice.injEq] at hv
 obtain⟨rfl,rfl,rfl⟩:=hv
 rcases h9 with h9 | ⟨pm,rfl,hS,hlt,h9⟩
 · cases h9
 obtain⟨ces,hat,hrd⟩:=h9 0 m rfl
 obtain⟨pn,cn,rfl,hr2⟩:=rMs_open hrd
 rw[hm] at hr2
 obtain⟨an,h1,h2,h3,_,h5⟩:=flat_cells (k:=10) (f:=wtV) (h:=fun _=>rfl) (n:=1) hr2 (by decide)
 subst h1
 refine⟨pm,an,cn,rfl,⟨?_,hS,hlt⟩,?_,h2,h3⟩
 ·
  rw[hm] at hat
  simpa [Addr.add_zero'] using hat
 · simpa [rowV] using h5
abbrev D84_:List (Option Nat):=[some 93,some 94,some 95,some 96,some 97,some 98,some 99,some 100,some 101,some 102,some 103,some 104,some 105,some 106,some 107,some 108,some 109,some 110,some 111,some 0]
abbrev D83_:List (Option Nat):=[some 72,some 73,some 74,some 75,some 76,some 77,some 78,some 79,some 80,some 81,some 82,some 83,some 84,some 85,some 86,some 87,some 88,some 89,some 90,some 91,some 92]
abbrev D82_:List (Option Nat):=[some 17,some 18,some 19,some 20,some 21,some 22,some 23,some 24,some 25,some 26,some 27,some 28,some 29,some 30,some 31,some 32,some 33]
theorem w17Through_spec {w:World} (hN:GN w):Gives Tryz.prog 4 #[] w fun r _=>r=.bool true:=by
 refine gives_of [] 112 [.tmp 0] Tryz.func4 rfl rfl rfl (by simp) rfl rfl ?_
 refine W.pure dn fun K1 k1=>?_
 simp only[E,F,J,M,R,Tz,V,X,Y,reduceIte,G,H,Z1,Z2,Z3,Z4,Z5,Z6,Z7,w1_,w0_,w10_,w60_,Z8,Z9,Addr.add_mid,Addr.add_zero',sd,se,sz];refine k1 _ ?_
 refine W.seqK fun K2 k2=>W.region ?_
 refine WO.callM (fun a:ScA=>scV a s17) (fun lo a sW=>ScR (fun b=>lo≤b) sW a s17) dn rfl rfl rfl co16 (fun ρ w1 hb=>w17Score_spec w1) fun a lo0 s0 ha=>?_
 unfold scV
 simp only
 refine WO.go 2 dn ?_
 simp only[E,F,J,M,R,Tz,V,X,Y,reduceIte,G,H,Z1,Z2,Z3,Z4,Z5,Z6,Z7,w1_,w0_,w10_,w60_,Z8,Z9,Addr.add_mid,Addr.add_zero',sd,se,sz]
 refine WO.nil ?_
 refine k2 _ ?_
 refine W.seqK fun K3 k3=>W.region ?_
 refine WO.go 1 dn ?_
 simp only[E,F,J,M,R,Tz,V,X,Y,reduceIte,G,H,Z1,Z2,Z3,Z4,Z5,Z6,Z7,w1_,w0_,w10_,w60_,Z8,Z9,Addr.add_mid,Addr.add_zero',sd,se,sz]
 refine WO.callM (fun z:Sl=>.tuple #[.agg #[iv 2,.slice z.1 1 z.2],iv 0]) (fun lo z sW=>rMss.rd (fun b=>lo≤b) sW [.slice z.1 1 z.2] (getV s17 pc17).ms) dn rfl rfl rfl co15 (fun ρ w1 hb=>by
   have h9:=get_spec (i:=1) (pa:=pc17) (hN.now (hb.first (by simp[St.put]))) (ha.keep (hb.at (S:=fun b=>lo0≤b) (s:=s0) (by simp[St.put]))) ok17 (show s17.parts[1]?=some pc17 from rfl)
   exact h9.mono fun r w2 _ ⟨z,h1,h2⟩=>⟨z,by rw[h1,get17];rfl,by rw[get17] at h2 ⊢;exact h2⟩) fun z lo1 s1 hz=>?_
 rw[get17] at hz
 obtain⟨z,cz1⟩:=z
 obtain⟨pm1,pn1,cn1,hz',hm1,hn1⟩:=view_open hz rfl
 simp only at hz'
 subst hz'
 simp only
 refine WO.go 6 dn ?_
 simp only[E,F,J,M,R,Tz,V,X,Y,reduceIte,G,H,Z1,Z2,Z3,Z4,Z5,Z6,Z7,w1_,w0_,w10_,w60_,Z8,Z9,Addr.add_mid,Addr.add_zero',sd,se,sz]
 refine WO.nil ?_
 refine k3 _ ?_
 refine W.seqK fun K4 k4=>?_
 refine W.join 33 (.val (.bool false)) [1,2] (W.region ?_) ?_
 ·
  refine WO.go 11 (ds:=D82_) rfl ?_
  simp only[E,F,J,M,R,Tz,V,X,Y,reduceIte,G,H,Z1,Z2,Z3,Z4,Z5,Z6,Z7,w1_,w0_,w10_,w60_,Z8,Z9,Addr.add_mid,Addr.add_zero',sd,se,sz]
  refine WO.q (ds:=D82_) rfl rfl rfl (QR.idx rfl rfl rfl el27 (by simp) (by simp)) ?_
  refine WO.go 1 (ds:=D82_) rfl ?_
  simp only[E,F,J,M,R,Tz,V,X,Y,reduceIte,sxq,G,H,Z1,Z2,Z3,Z4,Z5,Z6,Z7,w1_,w0_,w10_,w60_,Z8,Z9,Addr.add_mid,Addr.add_zero',sd,se,sz]
  refine WO.q (ds:=D82_) rfl rfl rfl (QR.load [.slice (some pn1) 1 cn1] false rfl rfl agg58 sz58 (.inr rfl) (fun ρ w1 hb=>At.now (S:=fun b=>lo1≤b) (s:=s1) ((hm1.1).part 4 1) hb (by simp[St.put]) (by rw[add_blk];exact hm1.2.1) (by rw[add_blk];exact hm1.2.2)) ) ?_
  simp only[ofCells,if_true,List.toList_toArray,sr]
  refine WO.go 3 (ds:=D82_) rfl ?_
  simp only[E,F,J,M,R,Tz,V,X,Y,reduceIte,G,H,Z1,Z2,Z3,Z4,Z5,Z6,Z7,w1_,w0_,w10_,w60_,Z8,Z9,Addr.add_mid,Addr.add_zero',sd,se,sz]
  refine WO.nil ?_
  refine⟨rfl,?_,⟨_,rfl⟩,by simp[Own.bnd,bndL,bnd,boxO],by simp⟩
  simp[getE,bnd,keepE]
 ·
  simp only[E,F,J,M,R,Tz,V,X,Y,reduceIte,sxk,G,H,Z1,Z2,Z3,Z4,Z5,Z6,Z7,w1_,w0_,w10_,w60_,Z8,Z9,Addr.add_mid,Addr.add_zero',sd,se,sz]
  refine W.cond rfl rfl (fun hc=>?_) fun hc=>?_
  ·
   simp at hc
  ·
   refine W.skip (k4 _ ?_)
   refine W.seqK fun K6 k6=>W.region ?_
   refine WO.go 2 dn ?_
   simp only[E,F,J,M,R,Tz,V,X,Y,reduceIte,G,H,Z1,Z2,Z3,Z4,Z5,Z6,Z7,w1_,w0_,w10_,w60_,Z8,Z9,Addr.add_mid,Addr.add_zero',sd,se,sz]
   refine WO.q dn rfl rfl (QR.idx rfl rfl rfl el27 (by simp) (by simp)) ?_
   refine WO.go 1 dn ?_
   simp only[E,F,J,M,R,Tz,V,X,Y,reduceIte,sxq,G,H,Z1,Z2,Z3,Z4,Z5,Z6,Z7,w1_,w0_,w10_,w60_,Z8,Z9,Addr.add_mid,Addr.add_zero',sd,se,sz]
   refine WO.q dn rfl rfl (QR.load [.slice (some pn1) 1 cn1] false rfl rfl agg58 sz58 (.inr rfl) (fun ρ w1 hb=>At.now (S:=fun b=>lo1≤b) (s:=s1) ((hm1.1).part 4 1) hb (by simp[St.put]) (by rw[add_blk];exact hm1.2.1) (by rw[add_blk];exact hm1.2.2)) ) ?_
   simp only[ofCells,if_true,List.toList_toArray,sr]
   simp only[E,F,J,M,R,Tz,V,X,Y,reduceIte,G,H,Z1,Z2,Z3,Z4,Z5,Z6,Z7,w1_,w0_,w10_,w60_,Z8,Z9,Addr.add_mid,Addr.add_zero',sd,se,sz]
   refine WO.q dn rfl rfl (QR.idx rfl rfl rfl el58 (by simp) (by simp)) ?_
   refine WO.go 1 dn ?_
   simp only[E,F,J,M,R,Tz,V,X,Y,reduceIte,sxq,G,H,Z1,Z2,Z3,Z4,Z5,Z6,Z7,w1_,w0_,w10_,w60_,Z8,Z9,Addr.add_mid,Addr.add_zero',sd,se,sz]
   refine WO.q dn rfl rfl (QR.load [iv 5,iv 0,iv 3] true rfl rfl agg48 sz48 (.inl rfl) (fun ρ w1 hb=>At.now (S:=fun b=>lo1≤b) (s:=s1) ((hn1.1).part 7 3) hb (by simp[St.put]) (by rw[add_blk];exact hn1.2.1) (by rw[add_blk];exact hn1.2.2)) ) ?_
   simp only[ofCells,if_true,List.toList_toArray,sr]
   refine WO.go 2 dn ?_
   simp only[E,F,J,M,R,Tz,V,X,Y,reduceIte,G,H,Z1,Z2,Z3,Z4,Z5,Z6,Z7,w1_,w0_,w10_,w60_,Z8,Z9,Addr.add_mid,Addr.add_zero',sd,se,sz]
   refine WO.nil ?_
   refine k6 _ ?_
   refine W.seqK fun K7 k7=>W.region ?_
   refine WO.go 2 dn ?_
   simp only[E,F,J,M,R,Tz,V,X,Y,reduceIte,G,H,Z1,Z2,Z3,Z4,Z5,Z6,Z7,w1_,w0_,w10_,w60_,Z8,Z9,Addr.add_mid,Addr.add_zero',sd,se,sz]
   refine WO.q dn rfl rfl (QR.idx rfl rfl rfl el27 (by simp) (by simp)) ?_
   simp only[E,F,J,M,R,Tz,V,X,Y,reduceIte,sxq,G,H,Z1,Z2,Z3,Z4,Z5,Z6,Z7,w1_,w0_,w10_,w60_,Z8,Z9,Addr.add_mid,Addr.add_zero',sd,se,sz]
   refine WO.q dn rfl rfl (QR.load [iv 5,iv 2,iv 4,iv 1,.slice (some pn1) 1 cn1] true rfl rfl agg60 sz60 (.inl rfl) (fun ρ w1 hb=>At.now (S:=fun b=>lo1≤b) (s:=s1) hm1.1 hb (by simp[St.put]) hm1.2.1 hm1.2.2) ) ?_
   simp only[ofCells,if_true,List.toList_toArray,sr]
   refine WO.go 2 dn ?_
   simp only[E,F,J,M,R,Tz,V,X,Y,reduceIte,G,H,Z1,Z2,Z3,Z4,Z5,Z6,Z7,w1_,w0_,w10_,w60_,Z8,Z9,Addr.add_mid,Addr.add_zero',sd,se,sz]
   refine WO.nil ?_
   refine k7 _ ?_
   refine W.seqK fun K8 k8=>W.region ?_
   refine WO.go 3 dn ?_
   simp only[E,F,J,M,R,Tz,V,X,Y,reduceIte,G,H,Z1,Z2,Z3,Z4,Z5,Z6,Z7,w1_,w0_,w10_,w60_,Z8,Z9,Addr.add_mid,Addr.add_zero',sd,se,sz]
   refine WO.appendLit (k:=4) (m:=1) (wtV (w17 (5,0,3))) dn rfl rfl rfl rfl rfl rfl ek58 (fun ρ w1 hb=>⟨pn1,cn1,rfl,At.now (S:=fun b=>lo1≤b) (s:=s1) hn1.1 hb (by simp[St.put]) hn1.2.1 hn1.2.2⟩) rfl (fun u hu=>by simp only[wtV,List.mem_cons,List.not_mem_nil,or_false] at hu;rcases hu with rfl | rfl | rfl | rfl | rfl | rfl | rfl | rfl | rfl | rfl<;>rfl) (by rw[maxLen_eq];omega) (by omega) fun p6 c6=>?_
   refine WO.go 2 dn ?_
   simp only[E,F,J,M,R,Tz,V,X,Y,reduceIte,G,H,Z1,Z2,Z3,Z4,Z5,Z6,Z7,w1_,w0_,w10_,w60_,Z8,Z9,Addr.add_mid,Addr.add_zero',sd,se,sz]
   refine WO.nil ?_
   refine k8 _ ?_
   refine W.ownCap (k:=4) rfl (by decide) fun b6 hb6 hnc6 hcm6=>?_
   subst hb6
   refine W.seqK fun K9 k9=>W.region ?_
   refine WO.go 3 dn ?_
   simp only[E,F,J,M,R,Tz,V,X,Y,reduceIte,G,H,Z1,Z2,Z3,Z4,Z5,Z6,Z7,w1_,w0_,w10_,w60_,Z8,Z9,Addr.add_mid,Addr.add_zero',sd,se,sz]
   refine WO.q dn rfl rfl (QR.idx rfl rfl rfl el58 (by simp) (by simp)) ?_
   refine WO.go 1 dn ?_
   simp only[E,F,J,M,R,Tz,V,X,Y,reduceIte,G,H,Z1,Z2,Z3,Z4,Z5,Z6,Z7,w1_,w0_,w10_,w60_,Z8,Z9,Addr.add_mid,Addr.add_zero',sd,se,sz]
   refine WO.storeRow (T:=62) (k:=4) (b:=b6) (sz:=10) (n:=1) (c:=c6) (xs:=wtV (w17 (5,0,3))) (u:=.agg #[iv 6,iv 0,iv 3]) 7 [iv 6,iv 0,iv 3] rfl dn rfl rfl rfl rfl (by simp[Addr.add_mid]) (by simp[wtV]) (by simp) ⟨_,rfl,fun ρ=>rfl⟩ rfl (by simp[Value.oneCell']) sz48 ?_
   simp only[E,F,J,M,R,Tz,V,X,Y,reduceIte,G,H,Z1,Z2,Z3,Z4,Z5,Z6,Z7,w1_,w0_,w10_,w60_,Z8,Z9,Addr.add_mid,Addr.add_zero',sd,se,sz]
   refine WO.nil ?_
   refine k9 _ ?_
   refine W.seqK fun K10 k10=>W.region ?_
   refine WO.go 6 dn ?_
   simp only[E,F,J,M,R,Tz,V,X,Y,reduceIte,G,H,Z1,Z2,Z3,Z4,Z5,Z6,Z7,w1_,w0_,w10_,w60_,Z8,Z9,Addr.add_mid,Addr.add_zero',sd,se,sz]
   refine WO.callM (fun z9:ScA=>.tuple #[scV z9 t17,iv 0,iv 0]) (fun lo z9 sW=>ScR (fun b=>lo≤b) sW z9 t17) dn rfl rfl rfl co8 (fun ρ w1 hb=>by
     have hrow:rWts.rd (fun _=>True) w1 [.slice (some ⟨b6,0,none⟩) 1 c6] [w17 (6,0,3)]:=owr_read (j:=4) (T:=62) (k:=10) (f:=wtV) (h:=fun _=>rfl) (xs:=[w17 (6,0,3)]) hb rfl fun _ _=>trivial
     have hvw:rMss.rd (fun _=>True) w1 [.slice (some ⟨ρ 5,0,none⟩) 1 1] (v17 (6,0,3)).ms:=own_listS (A:=rMs) (k:=5) hb rfl rfl (Nat.le_refl _) (by simp) trivial fun i y hy=>by
      cases i with
      | succ i=>simp[v17] at hy
      |
       zero=>
       obtain rfl:(⟨5,k17,(4,1),[w17 (6,0,3)]⟩:Ms)=y:=by simpa [v17] using hy
       exact rMs_mk (m:=⟨5,k17,(4,1),[w17 (6,0,3)]⟩) hrow
     have h9:=put_yes (a:=a) (z:=(some ⟨ρ 5,0,none⟩,1)) (v:=v17 (6,0,3)) (p:=pc17) (o:=pa17) (ver:=2) (hN.now (hb.first (by simp[St.put]))) (ha.keep (hb.at (S:=fun b=>lo0≤b) (s:=s0) (by simp[St.put]))) hvw (vok17 (by decide)) own17 rfl (by decide) puts17 (by decide)
     rw[with17] at h9
     exact h9) fun z9 lo3 s3 hz3=>?_
   unfold scV
   simp only
   refine WO.go 8 dn ?_
   simp only[E,F,J,M,R,Tz,V,X,Y,reduceIte,G,H,Z1,Z2,Z3,Z4,Z5,Z6,Z7,w1_,w0_,w10_,w60_,Z8,Z9,Addr.add_mid,Addr.add_zero',sd,se,sz]
   refine WO.nil ?_
   refine k10 _ ?_
   refine W.seqK fun K11 k11=>W.region ?_
   refine WO.go 1 dn ?_
   simp only[E,F,J,M,R,Tz,V,X,Y,reduceIte,G,H,Z1,Z2,Z3,Z4,Z5,Z6,Z7,w1_,w0_,w10_,w60_,Z8,Z9,Addr.add_mid,Addr.add_zero',sd,se,sz]
   refine WO.callM (fun z:Sl=>.tuple #[.agg #[iv 1,.slice z.1 1 z.2],iv 0]) (fun lo z sW=>rMss.rd (fun b=>lo≤b) sW [.slice z.1 1 z.2] (getV t17 pa17).ms) dn rfl rfl rfl co15 (fun ρ w1 hb=>by
     have h9:=get_spec (i:=0) (pa:=pa17) (hN.now (hb.first (by simp[St.put]))) (ScR.keep hz3 (hb.at (S:=fun b=>lo3≤b) (s:=s3) (by simp[St.put]))) tok17 (show t17.parts[0]?=some pa17 from rfl)
     exact h9.mono fun r w2 _ ⟨z,h1,h2⟩=>⟨z,by rw[h1,getw17];rfl,by rw[getw17] at h2 ⊢;exact h2⟩) fun z lo4 s4 hz=>?_
   rw[getw17] at hz
   obtain⟨z,cz4⟩:=z
   obtain⟨pm4,pn4,cn4,hz',hm4,hn4⟩:=view_open hz rfl
   simp only at hz'
   subst hz'
   simp only
   refine WO.go 6 dn ?_
   simp only[E,F,J,M,R,Tz,V,X,Y,reduceIte,G,H,Z1,Z2,Z3,Z4,Z5,Z6,Z7,w1_,w0_,w10_,w60_,Z8,Z9,Addr.add_mid,Addr.add_zero',sd,se,sz]
   refine WO.nil ?_
   refine k11 _ ?_
   refine W.seqK fun K12 k12=>?_
   refine W.join 92 (.val (.bool false)) [4,9] (W.region ?_) ?_
   ·
    refine WO.go 15 (ds:=D83_) rfl ?_
    simp only[E,F,J,M,R,Tz,V,X,Y,reduceIte,G,H,Z1,Z2,Z3,Z4,Z5,Z6,Z7,w1_,w0_,w10_,w60_,Z8,Z9,Addr.add_mid,Addr.add_zero',sd,se,sz]
    refine WO.q (ds:=D83_) rfl rfl rfl (QR.idx rfl rfl rfl el27 (by simp) (by simp)) ?_
    refine WO.go 1 (ds:=D83_) rfl ?_
    simp only[E,F,J,M,R,Tz,V,X,Y,reduceIte,sxq,G,H,Z1,Z2,Z3,Z4,Z5,Z6,Z7,w1_,w0_,w10_,w60_,Z8,Z9,Addr.add_mid,Addr.add_zero',sd,se,sz]
    refine WO.q (ds:=D83_) rfl rfl rfl (QR.load [.slice (some pn4) 1 cn4] false rfl rfl agg58 sz58 (.inr rfl) (fun ρ w1 hb=>At.now (S:=fun b=>lo4≤b) (s:=s4) ((hm4.1).part 4 1) hb (by simp[St.put]) (by rw[add_blk];exact hm4.2.1) (by rw[add_blk];exact hm4.2.2)) ) ?_
    simp only[ofCells,if_true,List.toList_toArray,sr]
    refine WO.go 3 (ds:=D83_) rfl ?_
    simp only[E,F,J,M,R,Tz,V,X,Y,reduceIte,G,H,Z1,Z2,Z3,Z4,Z5,Z6,Z7,w1_,w0_,w10_,w60_,Z8,Z9,Addr.add_mid,Addr.add_zero',sd,se,sz]
    refine WO.nil ?_
    refine⟨rfl,?_,⟨_,rfl⟩,by simp[Own.bnd,bndL,bnd,boxO],by simp⟩
    simp[getE,bnd,keepE]
   ·
    simp only[E,F,J,M,R,Tz,V,X,Y,reduceIte,sxk,G,H,Z1,Z2,Z3,Z4,Z5,Z6,Z7,w1_,w0_,w10_,w60_,Z8,Z9,Addr.add_mid,Addr.add_zero',sd,se,sz]
    refine W.cond rfl rfl (fun hc=>?_) fun hc=>?_
    ·
     simp at hc
    ·
     refine W.skip (k12 _ ?_)
     refine W.join 0 (.val (.bool true)) [] (W.region ?_) ?_
     ·
      refine WO.go 2 (ds:=D84_) rfl ?_
      simp only[E,F,J,M,R,Tz,V,X,Y,reduceIte,G,H,Z1,Z2,Z3,Z4,Z5,Z6,Z7,w1_,w0_,w10_,w60_,Z8,Z9,Addr.add_mid,Addr.add_zero',sd,se,sz]
      refine WO.aggCmp [5,0,3] [5,0,3] (ds:=D84_) rfl rfl rfl rfl ⟨_,rfl,fun _=>rfl⟩ ⟨_,rfl,fun _=>rfl⟩ it48 rfl rfl rfl ?_
      refine WO.go 3 (ds:=D84_) rfl ?_
      simp only[E,F,J,M,R,Tz,V,X,Y,reduceIte,G,H,Z1,Z2,Z3,Z4,Z5,Z6,Z7,w1_,w0_,w10_,w60_,Z8,Z9,Addr.add_mid,Addr.add_zero',sd,se,sz]
      refine WO.q (ds:=D84_) rfl rfl rfl (QR.idx rfl rfl rfl el27 (by simp) (by simp)) ?_
      refine WO.go 1 (ds:=D84_) rfl ?_
      simp only[E,F,J,M,R,Tz,V,X,Y,reduceIte,sxq,G,H,Z1,Z2,Z3,Z4,Z5,Z6,Z7,w1_,w0_,w10_,w60_,Z8,Z9,Addr.add_mid,Addr.add_zero',sd,se,sz]
      refine WO.q (ds:=D84_) rfl rfl rfl (QR.load [.slice (some pn4) 1 cn4] false rfl rfl agg58 sz58 (.inr rfl) (fun ρ w1 hb=>At.now (S:=fun b=>lo4≤b) (s:=s4) ((hm4.1).part 4 1) hb (by simp[St.put]) (by rw[add_blk];exact hm4.2.1) (by rw[add_blk];exact hm4.2.2)) ) ?_
      simp only[ofCells,if_true,List.toList_toArray,sr]
      simp only[E,F,J,M,R,Tz,V,X,Y,reduceIte,G,H,Z1,Z2,Z3,Z4,Z5,Z6,Z7,w1_,w0_,w10_,w60_,Z8,Z9,Addr.add_mid,Addr.add_zero',sd,se,sz]
      refine WO.q (ds:=D84_) rfl rfl rfl (QR.idx rfl rfl rfl el58 (by simp) (by simp)) ?_
      refine WO.go 1 (ds:=D84_) rfl ?_
      simp only[E,F,J,M,R,Tz,V,X,Y,reduceIte,sxq,G,H,Z1,Z2,Z3,Z4,Z5,Z6,Z7,w1_,w0_,w10_,w60_,Z8,Z9,Addr.add_mid,Addr.add_zero',sd,se,sz]
      refine WO.q (ds:=D84_) rfl rfl rfl (QR.load [iv 5,iv 0,iv 4] true rfl rfl agg48 sz48 (.inl rfl) (fun ρ w1 hb=>At.now (S:=fun b=>lo4≤b) (s:=s4) ((hn4.1).part 7 3) hb (by simp[St.put]) (by rw[add_blk];exact hn4.2.1) (by rw[add_blk];exact hn4.2.2)) ) ?_
      simp only[ofCells,if_true,List.toList_toArray,sr]
      refine WO.go 1 (ds:=D84_) rfl ?_
      simp only[E,F,J,M,R,Tz,V,X,Y,reduceIte,G,H,Z1,Z2,Z3,Z4,Z5,Z6,Z7,w1_,w0_,w10_,w60_,Z8,Z9,Addr.add_mid,Addr.add_zero',sd,se,sz]
      refine WO.aggCmp [5,0,4] [5,0,4] (ds:=D84_) rfl rfl rfl rfl ⟨_,rfl,fun _=>rfl⟩ ⟨_,rfl,fun _=>rfl⟩ it48 rfl rfl rfl ?_
      refine WO.go 2 (ds:=D84_) rfl ?_
      simp only[E,F,J,M,R,Tz,V,X,Y,reduceIte,G,H,Z1,Z2,Z3,Z4,Z5,Z6,Z7,w1_,w0_,w10_,w60_,Z8,Z9,Addr.add_mid,Addr.add_zero',sd,se,sz]
      refine WO.callM (fun y:ScA×Nat×Nat=>.agg #[.slice (some ⟨y.2.1,0,none⟩) 1 1,.slice none 0 0,.slice none 0 0,.slice none 0 0]) (fun lo y sW=>ScR (fun b=>lo≤b) sW y.1 s17∧At sW ⟨y.2.1,0,none⟩ [iv s17.ver,.slice y.1.b.1 s17.bars.length y.1.b.2,.slice y.1.p.1 s17.parts.length y.1.p.2,.slice y.1.n.1 s17.notes.length y.1.n.2,iv 1,.slice none 0 0,.slice none 0 0,iv 0,iv 0,iv 0,.slice none 0 0,.slice (some ⟨y.2.2,0,none⟩) 1 1]∧At sW ⟨y.2.2,0,none⟩ [iv 0,iv 1,iv 1]∧(lo≤y.2.1∧y.2.1<sW.heap.size)∧lo≤y.2.2∧y.2.2<sW.heap.size) (ds:=D84_) rfl rfl rfl rfl co18 (fun ρ w1 hb=>w17Lib_spec w1) fun y lo7 s7 hy7=>?_
      obtain⟨hy1,hy2,hy3,hy4,hy5,hy6⟩:=hy7
      simp only[E,F,J,M,R,Tz,V,X,Y,reduceIte,G,H,Z1,Z2,Z3,Z4,Z5,Z6,Z7,w1_,w0_,w10_,w60_,Z8,Z9,Addr.add_mid,Addr.add_zero',sd,se,sz]
      refine WO.call (.bool true) (ds:=D84_) rfl rfl rfl rfl co17 (fun ρ w1 hb=>r40Valid_spec (ScR.keep hy1 (hb.at (S:=fun b=>lo7≤b) (s:=s7) (by simp[St.put]))) (At.now (S:=fun b=>lo7≤b) (s:=s7) hy2 hb (by simp[St.put]) hy4.1 hy4.2) (Nat.lt_of_lt_of_le hy4.2 (hb.at (S:=fun b=>lo7≤b) (s:=s7) (by simp[St.put])).size) (At.now (S:=fun b=>lo7≤b) (s:=s7) hy3 hb (by simp[St.put]) hy5 hy6) (Nat.lt_of_lt_of_le hy6 (hb.at (S:=fun b=>lo7≤b) (s:=s7) (by simp[St.put])).size)) ?_
      refine WO.go 2 (ds:=D84_) rfl ?_
      simp only[E,F,J,M,R,Tz,V,X,Y,reduceIte,G,H,Z1,Z2,Z3,Z4,Z5,Z6,Z7,w1_,w0_,w10_,w60_,Z8,Z9,Addr.add_mid,Addr.add_zero',sd,se,sz]
      refine WO.nil ?_
      refine⟨rfl,?_,⟨_,rfl⟩,by simp[Own.bnd,bndL,bnd,boxO],by simp⟩
      simp[getE,bnd,keepE]
     ·
      simp only[E,F,J,M,R,Tz,V,X,Y,reduceIte,sxk,G,H,Z1,Z2,Z3,Z4,Z5,Z6,Z7,w1_,w0_,w10_,w60_,Z8,Z9,Addr.add_mid,Addr.add_zero',sd,se,sz]
      refine W.ret ⟨by simp,_,rfl,fun ρ w1 hb=>?_⟩
      rfl
theorem wsum_all:∀ (l:List Ms) (n:Int),0≤n→n+((allW l).length:Int)≤1000000→wsum l n=n+((allW l).length:Int)
 | [],n,_,_=>by simp[wsum,allW]
 |
  m::l,n,h0,h1=>by
  have e:allW (m::l)=m.notes++allW l:=rfl
  rw[e,List.length_append] at h1 ⊢
  unfold wsum
  rw[wrap_id (by omega) (by omega),wsum_all l _ (by omega) (by omega)]
  omega
def CanPut (s:Sc) (v:Vw):Prop:=∃ p o,Owner s p o∧p.id=v.part∧Puts s v p o
abbrev D85_:List (Option Nat):=[some 27,some 28,some 29,some 30,some 31,some 32,some 33,some 34,some 35,some 36,some 37,some 38,some 39,some 40]
abbrev D86_:List (Option Nat):=[some 53,some 54,some 55,some 56,some 57,some 58,some 59,some 60,some 61,some 4]
theorem top_no {S S2:Nat→Prop} {w:World} {a:ScA} {z:Sl} {s:Sc} {v:Vw} (hN:GN w) (hs:ScR S w a s) (hl:rMss.rd S2 w [.slice z.1 v.ms.length z.2] v.ms) (hC:¬ CanPut s v):Gives Tryz.prog 3 #[scV a s,vwV z v] w fun r _=>r=.bool true:=by
 have lb:(Rp.slice rBr).rd (fun _=>True) w _ s.bars:=Rp.any hs.b
 have lp:(Rp.slice rPt).rd (fun _=>True) w _ s.parts:=Rp.any hs.p
 have ln:(Rp.slice rNt).rd (fun _=>True) w _ s.notes:=Rp.any hs.n
 have hs9:=hs.any
 obtain⟨z1,z2⟩:=z
 have hlv:(Rp.slice rMs).rd (fun _=>True) w [.slice z1 v.ms.length z2] v.ms:=Rp.any hl
 obtain⟨B,hB⟩:∃ B,(decide ((v.ms.length:Int)≤60) && decide (wsum (v.ms.take 61) 0≤80))=B:=⟨_,rfl⟩
 unfold scV vwV
 refine gives_of [.agg (scw a s),.agg [wv v.part,.val (.slice z1 v.ms.length z2)]] 164 [.tmp 4] Tryz.func3 rfl rfl rfl (by simp) rfl rfl ?_
 refine W.pure dn fun K1 k1=>?_
 simp only[E,F,J,M,R,Tz,V,X,Y,reduceIte,G,H,sz];refine k1 _ ?_
 refine W.seqK fun K2 k2=>W.region ?_
 refine WO.call (.bool true) dn rfl rfl rfl co4 (fun ρ w1 hb=>w17Through_spec (hN.now (hb.first (by simp[St.put])))) ?_
 refine WO.go 1 dn ?_
 simp only[E,F,J,M,R,Tz,V,X,Y,reduceIte,G,H,sz]
 refine WO.nil ?_
 refine k2 _ ?_
 refine W.seqK fun K3 k3=>?_
 refine W.seqK fun K4 k4=>W.region ?_
 refine WO.go 1 (ds:=D85_) rfl ?_
 simp only[E,F,J,M,R,Tz,V,X,Y,reduceIte,G,H,sz]
 refine WO.call (.bool (fewS s)) (ds:=D85_) rfl rfl rfl rfl co5 (fun ρ w1 hb=>r8Few_spec w1 a s) ?_
 refine WO.go 2 (ds:=D85_) rfl ?_
 simp only[E,F,J,M,R,Tz,V,X,Y,reduceIte,G,H,sz]
 refine WO.cases 30 _ rfl (fun hg30=>?_) fun hg30=>?_
 ·
  refine WO.go 10 (ds:=D85_) rfl ?_
  simp only[E,F,J,M,R,Tz,V,X,Y,reduceIte,G,H,sz]
  refine WO.nil ?_
  refine k4 _ ?_
  refine W.cond rfl rfl (fun hc=>?_) fun hc=>?_
  rotate_left
  ·
   simp at hc
  ·
   refine W.pure dn fun K5 k5=>?_
   simp only[E,F,J,M,R,Tz,V,X,Y,reduceIte,G,H,sz];refine k5 _ ?_
   refine W.ret ⟨by simp,_,rfl,fun ρ w1 hb=>?_⟩
   rfl
 ·
  refine WO.go 1 (ds:=D85_) rfl ?_
  simp only[E,F,J,M,R,Tz,V,X,Y,reduceIte,G,H,sz]
  refine WO.call (.bool B) (ds:=D85_) rfl rfl rfl rfl co6 (fun ρ w1 hb=>by have h9:=r14Few_spec (z:=(z1,z2)) (v:=v) (Rp.now hlv (hb.first (by simp[St.put])));rw[hB] at h9;exact h9) ?_
  refine WO.go 3 (ds:=D85_) rfl ?_
  simp only[E,F,J,M,R,Tz,V,X,Y,reduceIte,G,H,sz]
  refine WO.cases 35 _ rfl (fun hg35=>?_) fun hg35=>?_
  ·
   refine WO.go 5 (ds:=D85_) rfl ?_
   simp only[E,F,J,M,R,Tz,V,X,Y,reduceIte,G,H,sz]
   refine WO.nil ?_
   refine k4 _ ?_
   refine W.cond rfl rfl (fun hc=>?_) fun hc=>?_
   rotate_left
   ·
    simp at hc
   ·
    refine W.pure dn fun K6 k6=>?_
    simp only[E,F,J,M,R,Tz,V,X,Y,reduceIte,G,H,sz];refine k6 _ ?_
    refine W.ret ⟨by simp,_,rfl,fun ρ w1 hb=>?_⟩
    rfl
  ·
   refine WO.go 2 (ds:=D85_) rfl ?_
   simp only[E,F,J,M,R,Tz,V,X,Y,reduceIte,G,H,sz]
   refine WO.callX (fun b:Bool=>.bool b) (fun b=>b=true→VwOk s v) (ds:=D85_) rfl rfl rfl rfl co7 (fun ρ w1 hb=>(r14Valid_spec (a:=a) (z:=(z1,z2)) (ScR.now hs9 (hb.first (by simp[St.put]))) (Rp.now hlv (hb.first (by simp[St.put])))).mono fun r _ _ ⟨b,h1,h2⟩=>⟨b,h1,h2⟩) fun b hbv=>?_
   refine WO.go 2 (ds:=D85_) rfl ?_
   simp only[E,F,J,M,R,Tz,V,X,Y,reduceIte,G,H,sz]
   refine WO.nil ?_
   refine k4 _ ?_
   refine W.cond rfl rfl (fun hc=>?_) fun hc=>?_
   ·
    refine W.pure dn fun K7 k7=>?_
    simp only[E,F,J,M,R,Tz,V,X,Y,reduceIte,G,H,sz];refine k7 _ ?_
    refine W.ret ⟨by simp,_,rfl,fun ρ w1 hb=>?_⟩
    rfl
   ·
    have hbt:b=true:=by simpa using hc
    have hv:=hbv hbt
    have hA:=fewS_iff.1 (show fewS s=true by simpa using hg30)
    have hB1:B=true:=by simpa using hg35
    rw[← hB,Bool.and_eq_true,decide_eq_true_eq,decide_eq_true_eq] at hB1
    have hfw:(allW v.ms).length≤80:=by
     have h9:=hB1.2
     rw[List.take_of_length_le (by omega),wsum_all _ _ (by omega) (by have:=hv.few;omega)] at h9
     omega
    obtain⟨p,hpm,hpi,_⟩:=hv.ms
    obtain⟨o,ho⟩:=own_ex hv.sc hpm
    have hp:¬ Puts s v p o:=fun h=>hC ⟨p,o,ho,hpi,h⟩
    refine W.skip (k3 _ ?_)
    refine W.seqK fun K8 k8=>W.region ?_
    refine WO.go 4 dn ?_
    simp only[E,F,J,M,R,Tz,V,X,Y,reduceIte,G,H,sz]
    refine WO.callX (fun x:Int×Int=>.tuple #[.agg #[iv 0,.slice none 0 0,.slice none 0 0,.slice none 0 0],iv x.1,iv x.2]) (fun x=>x.2=20∨x.2=5) dn rfl rfl rfl co8 (fun ρ w1 hb=>(put_no (a:=a) (z:=(z1,z2)) (hN.now (hb.first (by simp[St.put]))) (ScR.now hs9 (hb.first (by simp[St.put]))) (Rp.now hlv (hb.first (by simp[St.put]))) hv ho hpi hv.sc.ver hp).mono fun r _ _ ⟨ni,e,h1,h2⟩=>⟨(ni,e),h1,h2⟩) fun x hx=>?_
    obtain⟨ni,e⟩:=x
    simp only at hx ⊢
    refine WO.go 8 dn ?_
    simp only[E,F,J,M,R,Tz,V,X,Y,reduceIte,G,H,sz]
    refine WO.nil ?_
    refine k8 _ ?_
    refine W.seqK fun K9 k9=>?_
    refine W.pure dn fun K10 k10=>?_
    simp only[E,F,J,M,R,Tz,V,X,Y,reduceIte,G,H,sz];refine k10 _ ?_
    refine W.cond rfl rfl (fun hc=>?_) fun hc=>?_
    rotate_left
    ·
     (simp at hc;omega)
    ·
     refine W.join 4 (.val (.bool true)) [] (W.region ?_) ?_
     ·
      refine WO.go 5 (ds:=D86_) rfl ?_
      simp only[E,F,J,M,R,Tz,V,X,Y,reduceIte,G,H,sz]
      refine WO.cases 57 _ rfl (fun hg57=>?_) fun hg57=>?_
      ·
       refine WO.go 5 (ds:=D86_) rfl ?_
       simp only[E,F,J,M,R,Tz,V,X,Y,reduceIte,G,H,sz]
       refine WO.nil ?_
       refine⟨rfl,?_,⟨_,rfl⟩,by simp[Own.bnd,bndL,bnd,boxO],by simp⟩
       rcases hx with rfl | rfl<;>simp[getE,bnd,keepE] at *
      ·
       refine WO.go 5 (ds:=D86_) rfl ?_
       simp only[E,F,J,M,R,Tz,V,X,Y,reduceIte,G,H,sz]
       refine WO.nil ?_
       refine⟨rfl,?_,⟨_,rfl⟩,by simp[Own.bnd,bndL,bnd,boxO],by simp⟩
       rcases hx with rfl | rfl<;>simp[getE,bnd,keepE] at *
     ·
      simp only[E,F,J,M,R,Tz,V,X,Y,reduceIte,sxk,G,H,sz]
      refine W.ret ⟨by simp,_,rfl,fun ρ w1 hb=>?_⟩
      rfl
abbrev D88_:List (Option Nat):=[some 105,some 106,some 107,some 108,some 109,some 5]
abbrev D89_:List (Option Nat):=[some 111,some 112,some 113,some 114,some 115,some 116,some 117,some 118,some 119,some 18,none]
abbrev D87_:List (Option Nat):=[some 83,some 84,some 85,some 86,some 87,some 88,some 89,some 90,some 91,some 92,some 93,some 94,some 95,some 96,some 97,some 98]
abbrev D90_:List (Option Nat):=[some 148,some 149,some 150,some 151,some 152,some 153,some 154,some 155,some 156,some 157,some 158,some 159,some 160,some 161,some 5]
theorem top_yes (hoff:¬ Drw.on) {S S2:Nat→Prop} {w:World} {a:ScA} {z:Sl} {s:Sc} {v:Vw} (hN:GN w) (hs:ScR S w a s) (hl:rMss.rd S2 w [.slice z.1 v.ms.length z.2] v.ms) (hC:CanPut s v):Gives Tryz.prog 3 #[scV a s,vwV z v] w fun r _=>r=.bool true:=by
 have lb:(Rp.slice rBr).rd (fun _=>True) w _ s.bars:=Rp.any hs.b
 have lp:(Rp.slice rPt).rd (fun _=>True) w _ s.parts:=Rp.any hs.p
 have ln:(Rp.slice rNt).rd (fun _=>True) w _ s.notes:=Rp.any hs.n
 have hs9:=hs.any
 obtain⟨z1,z2⟩:=z
 have hlv:(Rp.slice rMs).rd (fun _=>True) w [.slice z1 v.ms.length z2] v.ms:=Rp.any hl
 obtain⟨B,hB⟩:∃ B,(decide ((v.ms.length:Int)≤60) && decide (wsum (v.ms.take 61) 0≤80))=B:=⟨_,rfl⟩
 unfold scV vwV
 refine gives_of [.agg (scw a s),.agg [wv v.part,.val (.slice z1 v.ms.length z2)]] 164 [.tmp 4] Tryz.func3 rfl rfl rfl (by simp) rfl rfl ?_
 refine W.pure dn fun K1 k1=>?_
 simp only[E,F,J,M,R,Tz,V,X,Y,reduceIte,G,H,sz];refine k1 _ ?_
 refine W.seqK fun K2 k2=>W.region ?_
 refine WO.call (.bool true) dn rfl rfl rfl co4 (fun ρ w1 hb=>w17Through_spec (hN.now (hb.first (by simp[St.put])))) ?_
 refine WO.go 1 dn ?_
 simp only[E,F,J,M,R,Tz,V,X,Y,reduceIte,G,H,sz]
 refine WO.nil ?_
 refine k2 _ ?_
 refine W.seqK fun K3 k3=>?_
 refine W.seqK fun K4 k4=>W.region ?_
 refine WO.go 1 (ds:=D85_) rfl ?_
 simp only[E,F,J,M,R,Tz,V,X,Y,reduceIte,G,H,sz]
 refine WO.call (.bool (fewS s)) (ds:=D85_) rfl rfl rfl rfl co5 (fun ρ w1 hb=>r8Few_spec w1 a s) ?_
 refine WO.go 2 (ds:=D85_) rfl ?_
 simp only[E,F,J,M,R,Tz,V,X,Y,reduceIte,G,H,sz]
 refine WO.cases 30 _ rfl (fun hg30=>?_) fun hg30=>?_
 ·
  refine WO.go 10 (ds:=D85_) rfl ?_
  simp only[E,F,J,M,R,Tz,V,X,Y,reduceIte,G,H,sz]
  refine WO.nil ?_
  refine k4 _ ?_
  refine W.cond rfl rfl (fun hc=>?_) fun hc=>?_
  rotate_left
  ·
   simp at hc
  ·
   refine W.pure dn fun K5 k5=>?_
   simp only[E,F,J,M,R,Tz,V,X,Y,reduceIte,G,H,sz];refine k5 _ ?_
   refine W.ret ⟨by simp,_,rfl,fun ρ w1 hb=>?_⟩
   rfl
 ·
  refine WO.go 1 (ds:=D85_) rfl ?_
  simp only[E,F,J,M,R,Tz,V,X,Y,reduceIte,G,H,sz]
  refine WO.call (.bool B) (ds:=D85_) rfl rfl rfl rfl co6 (fun ρ w1 hb=>by have h9:=r14Few_spec (z:=(z1,z2)) (v:=v) (Rp.now hlv (hb.first (by simp[St.put])));rw[hB] at h9;exact h9) ?_
  refine WO.go 3 (ds:=D85_) rfl ?_
  simp only[E,F,J,M,R,Tz,V,X,Y,reduceIte,G,H,sz]
  refine WO.cases 35 _ rfl (fun hg35=>?_) fun hg35=>?_
  ·
   refine WO.go 5 (ds:=D85_) rfl ?_
   simp only[E,F,J,M,R,Tz,V,X,Y,reduceIte,G,H,sz]
   refine WO.nil ?_
   refine k4 _ ?_
   refine W.cond rfl rfl (fun hc=>?_) fun hc=>?_
   rotate_left
   ·
    simp at hc
   ·
    refine W.pure dn fun K6 k6=>?_
    simp only[E,F,J,M,R,Tz,V,X,Y,reduceIte,G,H,sz];refine k6 _ ?_
    refine W.ret ⟨by simp,_,rfl,fun ρ w1 hb=>?_⟩
    rfl
  ·
   refine WO.go 2 (ds:=D85_) rfl ?_
   simp only[E,F,J,M,R,Tz,V,X,Y,reduceIte,G,H,sz]
   refine WO.callX (fun b:Bool=>.bool b) (fun b=>b=true→VwOk s v) (ds:=D85_) rfl rfl rfl rfl co7 (fun ρ w1 hb=>(r14Valid_spec (a:=a) (z:=(z1,z2)) (ScR.now hs9 (hb.first (by simp[St.put]))) (Rp.now hlv (hb.first (by simp[St.put])))).mono fun r _ _ ⟨b,h1,h2⟩=>⟨b,h1,h2⟩) fun b hbv=>?_
   refine WO.go 2 (ds:=D85_) rfl ?_
   simp only[E,F,J,M,R,Tz,V,X,Y,reduceIte,G,H,sz]
   refine WO.nil ?_
   refine k4 _ ?_
   refine W.cond rfl rfl (fun hc=>?_) fun hc=>?_
   ·
    refine W.pure dn fun K7 k7=>?_
    simp only[E,F,J,M,R,Tz,V,X,Y,reduceIte,G,H,sz];refine k7 _ ?_
    refine W.ret ⟨by simp,_,rfl,fun ρ w1 hb=>?_⟩
    rfl
   ·
    have hbt:b=true:=by simpa using hc
    have hv:=hbv hbt
    have hA:=fewS_iff.1 (show fewS s=true by simpa using hg30)
    have hB1:B=true:=by simpa using hg35
    rw[← hB,Bool.and_eq_true,decide_eq_true_eq,decide_eq_true_eq] at hB1
    have hfw:(allW v.ms).length≤80:=by
     have h9:=hB1.2
     rw[List.take_of_length_le (by omega),wsum_all _ _ (by omega) (by have:=hv.few;omega)] at h9
     omega
    obtain⟨pp,o,ho,hpi,hp⟩:=hC
    have U:=undone hv ho hp hA.2.2 hfw
    obtain⟨out,hout⟩:∃ out,withS s s.ver (putL s v pp o)=out:=⟨_,rfl⟩
    obtain⟨t,ht9⟩:∃ t,withS s 1 (putL s v pp o)=t:=⟨_,rfl⟩
    rw[hout,ht9] at U
    obtain⟨kp,hkp⟩:=List.mem_iff_getElem?.1 ho.mp
    have hkl:=(List.getElem?_eq_some_iff.1 hkp).1
    have hkx:ixOf (s.parts.map Pt.id) v.part=(kp:Int):=by rw[← hpi];exact ix_get hv.sc.parts.nd (by rw[List.getElem?_map,hkp];rfl)
    have hpl:=hv.sc.parts.len
    refine W.skip (k3 _ ?_)
    refine W.seqK fun K8 k8=>W.region ?_
    refine WO.go 4 dn ?_
    simp only[E,F,J,M,R,Tz,V,X,Y,reduceIte,G,H,sz]
    refine WO.callM (fun y:ScA=>.tuple #[scV y out,iv 0,iv 0]) (fun lo y sW=>ScR (fun b=>lo≤b) sW y out) dn rfl rfl rfl co8 (fun ρ w1 hb=>by
      have h9:=put_yes (a:=a) (z:=(z1,z2)) (hN.now (hb.first (by simp[St.put]))) (ScR.now hs9 (hb.first (by simp[St.put]))) (Rp.now hlv (hb.first (by simp[St.put]))) hv ho hpi hv.sc.ver hp (by omega)
      rw[hout] at h9
      exact h9) fun d lo1 s1 hd=>?_
    unfold scV
    simp only
    refine WO.go 8 dn ?_
    simp only[E,F,J,M,R,Tz,V,X,Y,reduceIte,G,H,sz]
    refine WO.nil ?_
    refine k8 _ ?_
    refine W.seqK fun K9 k9=>?_
    refine W.pure dn fun K10 k10=>?_
    simp only[E,F,J,M,R,Tz,V,X,Y,reduceIte,G,H,sz];refine k10 _ ?_
    refine W.cond rfl rfl (fun hc=>?_) fun hc=>?_
    ·
     simp at hc
    ·
     refine W.skip (k9 _ ?_)
     refine W.seqK fun K11 k11=>W.region ?_
     refine WO.go 2 dn ?_
     simp only[E,F,J,M,R,Tz,V,X,Y,reduceIte,G,H,sz]
     refine WO.callM (fun x:Option Addr×Nat=>.tuple #[.slice x.1 (diffE s.notes t.notes).length x.2,iv 0]) (fun lo x sW=>rEds.rd (fun b=>lo≤b) sW [.slice x.1 (diffE s.notes t.notes).length x.2] (diffE s.notes t.notes)) dn rfl rfl rfl co9 (fun ρ w1 hb=>changes_spec hoff (a:=a) (z:=(z1,z2)) (hN.now (hb.first (by simp[St.put]))) (ScR.now hs9 (hb.first (by simp[St.put]))) (Rp.now hlv (hb.first (by simp[St.put]))) hv ho hpi hp (by omega) ht9.symm) fun x lo2 s2 hx2=>?_
     obtain⟨pe,ce⟩:=x
     simp only at hx2 ⊢
     refine WO.go 5 dn ?_
     simp only[E,F,J,M,R,Tz,V,X,Y,reduceIte,G,H,sz]
     refine WO.nil ?_
     refine k11 _ ?_
     refine W.seqK fun K12 k12=>W.region ?_
     refine WO.go 2 dn ?_
     simp only[E,F,J,M,R,Tz,V,X,Y,reduceIte,G,H,sz]
     refine WO.callM (fun x:Option Addr×Nat=>.tuple #[.slice x.1 (diffE t.notes s.notes).length x.2,iv 0]) (fun lo x sW=>rEds.rd (fun b=>lo≤b) sW [.slice x.1 (diffE t.notes s.notes).length x.2] (diffE t.notes s.notes)) dn rfl rfl rfl co10 (fun ρ w1 hb=>undo_spec hoff (a:=a) (hN.now (hb.first (by simp[St.put]))) (ScR.now hs9 (hb.first (by simp[St.put]))) (Rp.keep hx2 (hb.at (S:=fun b=>lo2≤b) (s:=s2) (by simp[St.put]))) hv.sc U.there (by have:=U.many;omega) U.run.symm U.okT) fun x lo3 s3 hx3=>?_
     obtain⟨pu,cu⟩:=x
     simp only at hx3 ⊢
     refine WO.go 5 dn ?_
     simp only[E,F,J,M,R,Tz,V,X,Y,reduceIte,G,H,sz]
     refine WO.nil ?_
     refine k12 _ ?_
     refine W.seqK fun K13 k13=>W.region ?_
     refine WO.go 4 dn ?_
     simp only[E,F,J,M,R,Tz,V,X,Y,reduceIte,G,H,sz]
     refine WO.callM (fun y:ScA×Option Addr×Nat=>.tuple #[scV y.1 s,.slice y.2.1 (diffE t.notes s.notes).length y.2.2,iv 0]) (fun lo y sW=>ScR (fun b=>lo≤b) sW y.1 s∧(Rp.slice (Rp.int .i64)).rd (fun b=>lo≤b) sW [.slice y.2.1 (diffE t.notes s.notes).length y.2.2] (List.replicate (diffE t.notes s.notes).length 0)) dn rfl rfl rfl co11 (fun ρ w1 hb=>apply_spec (a:=d) (hN.now (hb.first (by simp[St.put]))) (ScR.keep hd (hb.at (S:=fun b=>lo1≤b) (s:=s1) (by simp[St.put]))) (Rp.keep hx3 (hb.at (S:=fun b=>lo3≤b) (s:=s3) (by simp[St.put]))) U.okOut U.back (by have:=U.manyB;omega) hv.sc.ver U.runB.symm) fun y lo4 s4 hy4=>?_
     obtain⟨y9,q9,c9⟩:=y
     obtain⟨hy4,hI⟩:=hy4
     unfold scV
     simp only at hy4 hI ⊢
     refine WO.go 8 dn ?_
     simp only[E,F,J,M,R,Tz,V,X,Y,reduceIte,G,H,sz]
     refine WO.nil ?_
     refine k13 _ ?_
     refine W.seqK fun K14 k14=>?_
     refine W.join 98 (.val (.bool false)) [2,3,5,6,14] (W.region ?_) ?_
     ·
      refine WO.go 13 (ds:=D87_) rfl ?_
      simp only[E,F,J,M,R,Tz,V,X,Y,reduceIte,G,H,sz]
      refine WO.call (.bool true) (ds:=D87_) rfl rfl rfl rfl co12 (fun ρ w1 hb=>by have h9:=r8Same_spec (a:=y9) (b:=a) (ScR.keep hy4 (hb.at (S:=fun b=>lo4≤b) (s:=s4) (by simp[St.put]))) (ScR.now hs9 (hb.first (by simp[St.put])));rw[pb_yes rfl] at h9;exact h9) ?_
      refine WO.go 2 (ds:=D87_) rfl ?_
      simp only[E,F,J,M,R,Tz,V,X,Y,reduceIte,G,H,sz]
      refine WO.nil ?_
      refine⟨rfl,?_,⟨_,rfl⟩,by simp[Own.bnd,bndL,bnd,boxO],by simp⟩
      simp[getE,bnd,keepE]
     ·
      simp only[E,F,J,M,R,Tz,V,X,Y,reduceIte,sxk,G,H,sz]
      refine W.cond rfl rfl (fun hc=>?_) fun hc=>?_
      ·
       simp at hc
      ·
       refine W.skip (k14 _ ?_)
       refine W.seqK fun K16 k16=>?_
       refine W.pure dn fun K17 k17=>?_
       simp only[E,F,J,M,R,Tz,V,X,Y,reduceIte,G,H,sz];refine k17 _ ?_
       refine W.block ?_
       refine W.loopO (X:=Nat) [2,3,6,99,100] (fun x=>[(5,.val (.bool true)),(101,wv (x:Int))]) (fun x=>[.cells 26 (scw a s),.cells 29 [wv v.part,.val (.slice z1 v.ms.length z2)],.cells 26 (scw d out),.cells 26 (scw y9 s)]) (fun x=>[((fun b=>lo4≤b),s4),((fun b=>lo3≤b),s3),((fun b=>lo2≤b),s2),((fun b=>lo1≤b),s1),((fun _=>True),w)]) (fun x=>x≤(diffE t.notes s.notes).length) (fun x=>(diffE t.notes s.notes).length - x) 0 ?_ ?_ ?_
       · exact⟨rfl,by simp[getE,bnd,keepE],⟨[],by simp⟩,by simp[Own.bnd,bndL,bnd,boxO],by simp⟩
       ·
        exact Nat.zero_le _
       ·
        rintro i hi
        simp only[E,F,J,M,R,Tz,V,X,Y,reduceIte,sxk,G,H,sz]
        refine W.pure dn fun K18 k18=>?_
        simp only[E,F,J,M,R,Tz,V,X,Y,reduceIte,G,H,sz];refine k18 _ ?_
        refine W.seqK fun K19 k19=>?_
        refine W.cond rfl rfl (fun hc=>?_) fun hc=>?_
        ·
         have hlt:i<(diffE t.notes s.notes).length:=by simpa using hc
         have hmn:=U.manyB
         have hy0:(List.replicate (diffE t.notes s.notes).length (0:Int))[i]?=some 0:=by rw[List.getElem?_replicate,if_pos hlt]
         refine W.skip (k19 _ ?_)
         refine W.seqK fun K20 k20=>?_
         refine W.block ?_
         refine W.seqK fun K21 k21=>W.region ?_
         refine WO.elem (y:=0) hI (by simp[St.put]) dn rfl rfl (by simp[St.put]) (fun _=>rfl) rfl rfl rfl rfl rfl el41 agg34 sz34 (.inr rfl) (by omega) (hy0) fun p ces hces=>?_
         have hces:ces=[iv 0]:=hces
         subst hces
         simp only[ofCells,sr]
         refine WO.go 1 dn ?_
         simp only[E,F,J,M,R,Tz,V,X,Y,reduceIte,G,H,sz]
         refine WO.nil ?_
         refine k21 _ ?_
         refine W.region ?_
         refine WO.go 6 (ds:=D88_) rfl ?_
         simp only[E,F,J,M,R,Tz,V,X,Y,reduceIte,G,H,sz]
         refine WO.nil ?_
         refine k20 _ ?_
         refine W.region ?_
         refine WO.go 2 dn ?_
         simp only[E,F,J,M,R,Tz,V,X,Y,reduceIte,G,H,sz]
         refine WO.nil ?_
         refine⟨i+1,hlt,by omega,rfl,by simp[getE,bnd,keepE,wrap_succ (show i+1≤9223372036854775807 by omega)],⟨_,rfl⟩,by simp[Own.bnd,bndL,bnd],by simp⟩
        ·
         refine W.exit (k16 _ ?_)
         refine W.seqK fun K22 k22=>?_
         refine W.regionS (ds:=D89_) (tg:=[none,none,none,none,none,none,none,none,none,some 4,some 4]) [⟨[],[],[2],[4],none,false⟩,⟨[0],[0],[],[4],none,false⟩,⟨[],[],[2],[4],none,false⟩,⟨[2],[2],[],[4],none,false⟩,⟨[],[],[3],[4],none,false⟩,⟨[4],[4],[],[4],none,false⟩,⟨[2,3,4,5],[3,5],[],[4],none,false⟩,⟨[0,1,2,3,4,5,6],[1,6],[],[4],none,false⟩,⟨[0,1,2,3,4,5,6,7],[7],[],[4],none,false⟩,⟨[],[],[],[],some 4,true⟩,⟨[0,1,2,3,4,5,6,7,8,9],[9,8],[],[],some 4,false⟩] 1 4 164 mixed rfl rfl (by kernel_rfl) (by kernel_rfl) ?_
         simp only[E,F,J,M,R,Tz,V,X,Y,reduceIte,sxs,G,H,sa,sz]
         refine WS.go rfl rfl rfl ?_
         simp only[E,F,J,M,R,Tz,V,X,Y,reduceIte,sxs,G,H,sa,sz]
         refine WS.go rfl rfl rfl ?_
         simp only[E,F,J,M,R,Tz,V,X,Y,reduceIte,sxs,G,H,sa,sz]
         refine WS.go rfl rfl rfl ?_
         simp only[E,F,J,M,R,Tz,V,X,Y,reduceIte,sxs,G,H,sa,sz]
         refine WS.go rfl rfl rfl ?_
         simp only[E,F,J,M,R,Tz,V,X,Y,reduceIte,sxs,G,H,sa,sz]
         refine WS.go rfl rfl rfl ?_
         simp only[E,F,J,M,R,Tz,V,X,Y,reduceIte,sxs,G,H,sa,sz]
         refine WS.go rfl rfl rfl ?_
         simp only[E,F,J,M,R,Tz,V,X,Y,reduceIte,sxs,G,H,sa,sz]
         refine WS.call (iv (kp:Int)) rfl rfl rfl co13 (fun ρ w1 hb=>by have h9:=rPartAt_spec (Rp.now lp (hb.first (by simp[stAt]))) v.part;rw[hkx] at h9;exact h9) ?_
         simp only[E,F,J,M,R,Tz,V,X,Y,reduceIte,sxs,G,H,sa,sz]
         refine WS.elem (y:=pp) lp (by simp) rfl rfl (fun _=>rfl) rfl rfl rfl (fun _=>rfl) rfl rfl el23 agg50 sz50 (.inl rfl) (by omega) (hkp) fun p ces hces=>?_
         have hces:ces=ptV pp:=hces
         subst hces
         simp only[ptV,ofCells,if_true,List.toList_toArray,sr]
         simp only[E,F,J,M,R,Tz,V,X,Y,reduceIte,sxs,G,H,sa,sz]
         refine WS.alloc rfl rfl ze50 rfl rfl ?_
         simp only[E,F,J,M,R,Tz,V,X,Y,reduceIte,sxs,G,H,sa,sz]
         refine WS.store rfl rfl rfl rfl rfl rfl rfl sz50 (Nat.le_of_ble_eq_true rfl) rfl ?_
         simp only[E,F,J,M,R,Tz,V,X,Y,reduceIte,sxs,G,H,sa,sz]
         refine WS.nil [0,1,2,3,4,5,6,7,8,9,10] rfl rfl ?_
         simp only[E,F,J,M,R,Tz,V,X,Y,reduceIte,sxs,G,H,sa,sz]
         refine k22 _ ?_
         refine W.seqK fun K23 k23=>?_
         refine W.pure dn fun K24 k24=>?_
         simp only[E,F,J,M,R,Tz,V,X,Y,reduceIte,G,H,sz];refine k24 _ ?_
         refine W.block ?_
         refine W.loopO (X:=Nat) [2,6,18,121,122] (fun x=>[(5,.val (.bool true)),(123,wv (x:Int))]) (fun x=>[.cells 26 (scw a s),.cells 29 [wv v.part,.val (.slice z1 v.ms.length z2)],.cells 26 (scw d out),.cells 26 (scw y9 s),.cells 50 (ptw pp)]) (fun x=>[((fun b=>lo4≤b),s4),((fun b=>lo3≤b),s3),((fun b=>lo2≤b),s2),((fun b=>lo1≤b),s1),((fun _=>True),w)]) (fun x=>x≤s.parts.length) (fun x=>s.parts.length - x) 0 ?_ ?_ ?_
         · exact⟨rfl,by simp[getE,bnd,keepE],⟨[],by simp⟩,by simp[Own.bnd,bndL,bnd,boxO],by simp⟩
         ·
          exact Nat.zero_le _
         ·
          rintro i hi
          simp only[E,F,J,M,R,Tz,V,X,Y,reduceIte,sxk,G,H,sz]
          refine W.pure dn fun K25 k25=>?_
          simp only[E,F,J,M,R,Tz,V,X,Y,reduceIte,G,H,sz];refine k25 _ ?_
          refine W.seqK fun K26 k26=>?_
          refine W.cond rfl rfl (fun hc=>?_) fun hc=>?_
          ·
           have hlt:i<s.parts.length:=by simpa using hc
           obtain⟨q,hy⟩:=len_lt (rfl:s.parts.length=_) hlt
           obtain⟨sq,hsrq⟩:∃ sq,srcOf q=sq:=⟨_,rfl⟩
           obtain⟨sp,hsrp⟩:∃ sp,srcOf pp=sp:=⟨_,rfl⟩
           refine W.skip (k26 _ ?_)
           refine W.seqK fun K27 k27=>?_
           refine W.block ?_
           refine W.seqK fun K28 k28=>W.region ?_
           refine WO.elem (y:=q) lp (by simp[St.put]) dn rfl rfl (by simp[St.put]) (fun _=>rfl) rfl rfl rfl rfl rfl el23 agg50 sz50 (.inl rfl) (by omega) (hy) fun p ces hces=>?_
           have hces:ces=ptV q:=hces
           subst hces
           simp only[ptV,ofCells,if_true,List.toList_toArray,sr]
           refine WO.go 2 dn ?_
           simp only[E,F,J,M,R,Tz,V,X,Y,reduceIte,G,H,sz]
           refine WO.nil ?_
           refine k28 _ ?_
           refine W.seqK fun K29 k29=>?_
           refine W.seqK fun K30 k30=>?_
           refine W.regionQ mixed (by kernel_rfl) ?_
           refine WQ.go 1 dn ?_
           simp only[E,F,J,M,R,Tz,V,X,Y,reduceIte,sxq,G,H,hsrq,hsrp,sz]
           refine WQ.call (iv sq) dn rfl rfl rfl co14 (fun ρ w1 hb=>by have h9:=r8Source_spec w1 q;rw[← hsrq];exact h9) ?_
           refine WQ.go 1 dn ?_
           simp only[E,F,J,M,R,Tz,V,X,Y,reduceIte,sxq,G,H,hsrq,hsrp,sz]
           refine WQ.call (iv sp) dn rfl rfl rfl co14 (fun ρ w1 hb=>by have h9:=r8Source_spec w1 pp;rw[← hsrp];exact h9) ?_
           refine WQ.go 1 dn ?_
           simp only[E,F,J,M,R,Tz,V,X,Y,reduceIte,sxq,G,H,hsrq,hsrp,sz]
           refine WQ.nil ?_
           refine k30 _ ?_
           refine W.cond rfl rfl (fun hc=>?_) fun hc=>?_
           ·
            refine W.exit (k27 _ ?_)
            refine W.region ?_
            refine WO.go 2 dn ?_
            simp only[E,F,J,M,R,Tz,V,X,Y,reduceIte,G,H,hsrq,hsrp,sz]
            refine WO.nil ?_
            refine⟨i+1,hlt,by omega,rfl,by simp[getE,bnd,keepE,wrap_succ (show i+1≤9223372036854775807 by omega)],⟨_,rfl⟩,by simp[Own.bnd,bndL,bnd],by simp⟩
           ·
            have hsq:srcOf q=srcOf pp:=by rw[hsrq,hsrp];simpa using hc
            obtain⟨hq1,hq2,hq3,hq4,hq5⟩:=U.again q (List.mem_of_getElem? hy) hsq
            refine W.skip (k29 _ ?_)
            refine W.seqK fun K31 k31=>W.region ?_
            refine WO.go 3 dn ?_
            simp only[E,F,J,M,R,Tz,V,X,Y,reduceIte,G,H,hsrq,hsrp,sz]
            refine WO.callM (fun x:Sl=>.tuple #[vwV x (getV s q),iv 0]) (fun lo x sW=>rMss.rd (fun b=>lo≤b) sW [.slice x.1 (getV s q).ms.length x.2] (getV s q).ms) dn rfl rfl rfl co15 (fun ρ w1 hb=>get_spec (a:=a) (hN.now (hb.first (by simp[St.put]))) (ScR.now hs9 (hb.first (by simp[St.put]))) hv.sc hy) fun x lo5 s5 hx5=>?_
            obtain⟨pq,cq⟩:=x
            unfold vwV
            simp only at hx5 ⊢
            refine WO.go 6 dn ?_
            simp only[E,F,J,M,R,Tz,V,X,Y,reduceIte,G,H,hsrq,hsrp,sz]
            refine WO.nil ?_
            refine k31 _ ?_
            refine W.seqK fun K32 k32=>W.region ?_
            refine WO.go 4 dn ?_
            simp only[E,F,J,M,R,Tz,V,X,Y,reduceIte,G,H,hsrq,hsrp,sz]
            refine WO.callM (fun x:ScA=>.tuple #[scV x s,iv 0,iv 0]) (fun lo x sW=>ScR (fun b=>lo≤b) sW x s) dn rfl rfl rfl co8 (fun ρ w1 hb=>by
              have h9:=put_yes (a:=d) (z:=(pq,cq)) (ver:=s.ver) (hN.now (hb.first (by simp[St.put]))) (ScR.keep hd (hb.at (S:=fun b=>lo1≤b) (s:=s1) (by simp[St.put]))) (Rp.keep hx5 (hb.at (S:=fun b=>lo5≤b) (s:=s5) (by simp[St.put]))) hq1 hq2 rfl hv.sc.ver hq3 hq5
              rw[hq4] at h9
              exact h9) fun u9 lo6 s6 hu=>?_
            unfold scV
            simp only
            refine WO.go 8 dn ?_
            simp only[E,F,J,M,R,Tz,V,X,Y,reduceIte,G,H,hsrq,hsrp,sz]
            refine WO.nil ?_
            refine k32 _ ?_
            refine W.region ?_
            refine WO.go 12 (ds:=D90_) rfl ?_
            simp only[E,F,J,M,R,Tz,V,X,Y,reduceIte,G,H,hsrq,hsrp,sz]
            refine WO.call (.bool true) (ds:=D90_) rfl rfl rfl rfl co12 (fun ρ w1 hb=>by have h9:=r8Same_spec (a:=u9) (b:=a) (ScR.keep hu (hb.at (S:=fun b=>lo6≤b) (s:=s6) (by simp[St.put]))) (ScR.now hs9 (hb.first (by simp[St.put])));rw[pb_yes rfl] at h9;exact h9) ?_
            refine WO.go 2 (ds:=D90_) rfl ?_
            simp only[E,F,J,M,R,Tz,V,X,Y,reduceIte,G,H,hsrq,hsrp,sz]
            refine WO.nil ?_
            refine k27 _ ?_
            refine W.region ?_
            refine WO.go 2 dn ?_
            simp only[E,F,J,M,R,Tz,V,X,Y,reduceIte,G,H,hsrq,hsrp,sz]
            refine WO.nil ?_
            refine⟨i+1,hlt,by omega,rfl,by simp[getE,bnd,keepE,wrap_succ (show i+1≤9223372036854775807 by omega)],⟨_,rfl⟩,by simp[Own.bnd,bndL,bnd],by simp⟩
          ·
           refine W.exit (k23 _ ?_)
           refine W.pure dn fun K33 k33=>?_
           simp only[E,F,J,M,R,Tz,V,X,Y,reduceIte,G,H,sz];refine k33 _ ?_
           refine W.ret ⟨by simp,_,rfl,fun ρ w1 hb=>?_⟩
           rfl
theorem top_spec (hoff:¬ Drw.on) {S S2:Nat→Prop} {w:World} {a:ScA} {z:Sl} {s:Sc} {v:Vw} (hN:GN w) (hs:ScR S w a s) (hl:rMss.rd S2 w [.slice z.1 v.ms.length z.2] v.ms):Gives Tryz.prog 3 #[scV a s,vwV z v] w fun r _=>r=.bool true:=by
 by_cases hC:CanPut s v
 · exact top_yes hoff hN hs hl hC
 · exact top_no hN hs hl hC
def FlatA {α:Type} (A:Rp α) (f:α→List Value):Prop:=∀ (S:Nat→Prop) (w:World) cs x,A.rd S w cs x→cs=f x
theorem FlatA.int:FlatA (Rp.int .i64) fun x=>[.int .i64 x]:=fun _ _ _ _ h=>h
theorem FlatA.pair {α β:Type} {A:Rp α} {B:Rp β} {f:α→List Value} {g:β→List Value} (h1:FlatA A f) (h2:FlatA B g):FlatA (Rp.pair A B) fun x=>f x.1++g x.2:=fun S w cs x ⟨c1,c2,e,h3,h4⟩=>by
 rw[e,h1 S w _ _ h3,h2 S w _ _ h4]
theorem FlatA.at {α β:Type} {A:Rp α} {f:α→List Value} {B:Rp β} (g:α→β) (h:FlatA A f) (hB:∀ (S:Nat→Prop) (w:World) x,B.rd S w (f x) (g x)) {S:Nat→Prop} {w:World} {cs:List Value} {x:α} (hx:A.rd S w cs x):B.rd S w cs (g x):=by
 rw[h S w _ _ hx];exact hB S w x
abbrev qRt:=(Rp.pair (Rp.int .i64) (Rp.int .i64))
abbrev qPit:=(Rp.pair (Rp.int .i64) qRt)
abbrev qBr:=(Rp.pair (Rp.int .i64) (Rp.pair qRt (Rp.int .i64)))
abbrev qPt:=(Rp.pair (Rp.int .i64) (Rp.pair (Rp.int .i64) (Rp.pair (Rp.int .i64) (Rp.pair (Rp.int .i64) (Rp.pair (Rp.int .i64) (Rp.pair qRt (Rp.pair qPit qPit)))))))
abbrev qNt:=(Rp.pair (Rp.int .i64) (Rp.pair (Rp.int .i64) (Rp.pair (Rp.int .i64) (Rp.pair (Rp.int .i64) (Rp.pair (Rp.int .i64) (Rp.pair qRt (Rp.pair qRt qPit)))))))
abbrev qWt:=(Rp.pair (Rp.int .i64) (Rp.pair (Rp.int .i64) (Rp.pair (Rp.int .i64) (Rp.pair qRt (Rp.pair qRt qPit)))))
abbrev qMs:=(Rp.pair (Rp.int .i64) (Rp.pair (Rp.int .i64) (Rp.pair qRt (Rp.slice qWt))))
theorem rtA:FlatA qRt fun x=>[.int .i64 x.1]++[.int .i64 x.2]:=FlatA.int.pair FlatA.int
theorem pitA:FlatA qPit fun x=>[.int .i64 x.1]++([.int .i64 x.2.1]++[.int .i64 x.2.2]):=FlatA.int.pair (FlatA.int.pair FlatA.int)
abbrev XBr:=Int×(Int×Int)×Int
abbrev XPit:=Int×Int×Int
abbrev XPt:=Int×Int×Int×Int×Int×(Int×Int)×XPit×XPit
abbrev XNt:=Int×Int×Int×Int×Int×(Int×Int)×(Int×Int)×XPit
abbrev XWt:=Int×Int×Int×(Int×Int)×(Int×Int)×XPit
abbrev XMs:=Int×Int×(Int×Int)×List XWt
abbrev XSc:=Int×List XBr×List XPt×List XNt
abbrev XVw:=Int×List XMs
def brOf (x:XBr):Br:=⟨x.1,x.2.1,x.2.2⟩
def ptOf (x:XPt):Pt:=⟨x.1,x.2.1,x.2.2.1,x.2.2.2.1,x.2.2.2.2.1,x.2.2.2.2.2.1.1,x.2.2.2.2.2.1.2,x.2.2.2.2.2.2.1,x.2.2.2.2.2.2.2⟩
def ntOf (x:XNt):Nt:=⟨x.1,x.2.1,x.2.2.1,x.2.2.2.1,x.2.2.2.2.1,x.2.2.2.2.2.1,x.2.2.2.2.2.2.1,x.2.2.2.2.2.2.2⟩
def wOf (x:XWt):Wt:=⟨x.1,x.2.1,x.2.2.1,x.2.2.2.1,x.2.2.2.2.1,x.2.2.2.2.2⟩
def msOf (x:XMs):Ms:=⟨x.1,x.2.1,x.2.2.1,x.2.2.2.map wOf⟩
def scOf (x:XSc):Sc:=⟨x.1,x.2.1.map brOf,x.2.2.1.map ptOf,x.2.2.2.map ntOf⟩
def vwOf (x:XVw):Vw:=⟨x.1,x.2.map msOf⟩
theorem brA {S:Nat→Prop} {w:World} {cs:List Value} {x:XBr} (h:qBr.rd S w cs x):rBr.rd S w cs (brOf x):=FlatA.at brOf (FlatA.pair FlatA.int (FlatA.pair rtA FlatA.int)) (fun _ _ _=>rfl) h
theorem ptA9 {S:Nat→Prop} {w:World} {cs:List Value} {x:XPt} (h:qPt.rd S w cs x):rPt.rd S w cs (ptOf x):=FlatA.at ptOf (FlatA.pair FlatA.int (FlatA.pair FlatA.int (FlatA.pair FlatA.int (FlatA.pair FlatA.int (FlatA.pair FlatA.int (FlatA.pair rtA (FlatA.pair pitA pitA))))))) (fun _ _ _=>rfl) h
theorem ntA9 {S:Nat→Prop} {w:World} {cs:List Value} {x:XNt} (h:qNt.rd S w cs x):rNt.rd S w cs (ntOf x):=FlatA.at ntOf (FlatA.pair FlatA.int (FlatA.pair FlatA.int (FlatA.pair FlatA.int (FlatA.pair FlatA.int (FlatA.pair FlatA.int (FlatA.pair rtA (FlatA.pair rtA pitA))))))) (fun _ _ _=>rfl) h
theorem wtA9 {S:Nat→Prop} {w:World} {cs:List Value} {x:XWt} (h:qWt.rd S w cs x):rWt.rd S w cs (wOf x):=FlatA.at wOf (FlatA.pair FlatA.int (FlatA.pair FlatA.int (FlatA.pair FlatA.int (FlatA.pair rtA (FlatA.pair rtA pitA))))) (fun _ _ _=>rfl) h
theorem msA9 {S:Nat→Prop} {w:World} {cs:List Value} {x:XMs} (h:qMs.rd S w cs x):rMs.rd S w cs (msOf x):=by
 obtain⟨c1,r1,e1,h1,c2,r2,e2,h2,c3,r3,e3,h3,h4⟩:=h
 have h1:c1=[.int .i64 x.1]:=h1
 have h2:c2=[.int .i64 x.2.1]:=h2
 have h3:=rtA S w _ _ h3
 have h5:=h4
 obtain⟨p,n,c,hv,_⟩:=h5
 subst hv
 have h6:=rMs_mk (m:=msOf x) (slice_to (B:=rWt) wOf rfl (fun _ _=>wtA9) h4)
 rw[e1,e2,e3,h1,h2,h3]
 exact h6
theorem sl_val {α:Type} {A:Rp α} {S:Nat→Prop} {w:World} {cs:List Value} {l:List α} (h:(Rp.slice A).rd S w cs l):∃ q:Sl,cs=[.slice q.1 l.length q.2]:=by
 obtain⟨p,n,c,hv,hn,_⟩:=h
 exact⟨(p,c),by rw[hv,hn]⟩
theorem sc_openA {S:Nat→Prop} {w:World} {cs:Array Value} {x:XSc} (h:(Rp.pair (Rp.int .i64) (Rp.pair (Rp.slice qBr) (Rp.pair (Rp.slice qPt) (Rp.slice (Rp.pair (Rp.int .i64) (Rp.pair (Rp.int .i64) qWt)))))).rd S w cs.toList x):∃ a:ScA,Value.agg cs=scV a (scOf x)∧ScR S w a (scOf x):=by
 obtain⟨c1,r1,e1,h1,c2,r2,e2,h2,c3,c4,e3,h3,h4⟩:=h
 have h1:c1=[.int .i64 x.1]:=h1
 obtain⟨b,hb⟩:=sl_val h2
 obtain⟨p,hp⟩:=sl_val h3
 obtain⟨n,hn⟩:=sl_val h4
 subst hb;subst hp;subst hn
 have k2:=slice_to (B:=rBr) brOf rfl (fun _ _=>brA) h2
 have k3:=slice_to (B:=rPt) ptOf rfl (fun _ _=>ptA9) h3
 have k4:=slice_to (B:=rNt) ntOf rfl (fun _ _=>ntA9) h4
 refine⟨⟨b,p,n⟩,?_,?_,?_,?_⟩
 ·
  have e:cs=#[.int .i64 x.1,.slice b.1 x.2.1.length b.2,.slice p.1 x.2.2.1.length p.2,.slice n.1 x.2.2.2.length n.2]:=by
   apply Array.toList_inj.1
   rw[e1,e2,e3,h1];rfl
  rw[e]
  simp[scV,scOf]
 · simpa [scOf,rBrs] using k2
 · simpa [scOf,rPts] using k3
 · simpa [scOf,rNts] using k4
theorem vw_openA {S:Nat→Prop} {w:World} {cs:Array Value} {x:XVw} (h:(Rp.pair (Rp.int .i64) (Rp.slice qMs)).rd S w cs.toList x):∃ z:Sl,Value.agg cs=vwV z (vwOf x)∧rMss.rd S w [.slice z.1 (vwOf x).ms.length z.2] (vwOf x).ms:=by
 obtain⟨c1,c2,e1,h1,h2⟩:=h
 have h1:c1=[.int .i64 x.1]:=h1
 obtain⟨b,hb⟩:=sl_val h2
 subst hb
 have k2:=slice_to (B:=rMs) msOf rfl (fun _ _=>msA9) h2
 refine⟨b,?_,?_⟩
 ·
  have e:cs=#[.int .i64 x.1,.slice b.1 x.2.length b.2]:=by
   apply Array.toList_inj.1
   rw[e1,h1];rfl
  rw[e]
  simp[vwV,vwOf]
 · simpa [vwOf,rMss] using k2
end Go.Proofs.YtolmeekbjonbcaaGreatDoor
namespace Go.SX
open Go Go.RowKit Go.ChangeShapes Go.WideShapes Go.Deep
variable [Drw]
section
variable {P:Program}
def Cov (P:Program) (t:TypeId) {α:Type} (A:Rp α):Prop:=
 P.cellsOf t=A.sz∧∀ (H:Type) (enc:TypeId×Value→H) (w:World) (base:Nat) (spare:Nat→Bool) (held:Bool) (fuel:Nat) (cs:List Value) (x:DataW H×List MemPlace),DataW.trod enc P w base spare held fuel t cs=some x→∃ y,A.rd (fun _=>True) w cs y
theorem Cov.int {t:TypeId} {k:IntKind} (ht:P.underlying t=some (.int k)) (hc:P.cellsOf t=1):Cov P t (Rp.int k):=
 ⟨hc,fun H enc w base spare held fuel cs x h=>by
  obtain⟨n,rfl,_⟩:=DataW.trod_int ht h
  exact⟨n,rfl⟩⟩
theorem Cov.bool {t:TypeId} (ht:P.underlying t=some .bool) (hc:P.cellsOf t=1):Cov P t Rp.bool:=
 ⟨hc,fun H enc w base spare held fuel cs x h=>by
  obtain⟨n,rfl,_⟩:=DataW.trod_bool ht h
  exact⟨n,rfl⟩⟩
theorem list_of {α:Type} {R:Nat→α→Prop}:∀ n,(∀ i,i<n→∃ y,R i y)→∃ ys:List α,ys.length=n∧∀ i y,ys[i]?=some y→R i y
 | 0,_=>⟨[],rfl,fun i y h=>by simp at h⟩
 |
  n+1,h=>by
  obtain⟨ys,h1,h2⟩:=list_of n fun i hi=>h i (by omega)
  obtain⟨y,hy⟩:=h n (by omega)
  refine⟨ys++[y],by simp[h1],fun i z hz=>?_⟩
  rcases Nat.lt_trichotomy i n with hi | hi | hi
  · rw[List.getElem?_append_left (by omega)] at hz;exact h2 i z hz
  ·
   subst hi
   rw[List.getElem?_append_right (by omega),h1] at hz
   simp at hz
   exact hz ▸ hy
  · rw[List.getElem?_eq_none (by simp;omega)] at hz;cases hz
theorem Cov.slice {t e:TypeId} {α:Type} {A:Rp α} (ht:P.underlying t=some (.slice e)) (hc:P.cellsOf t=1) (hA:Cov P e A) (hpos:0<A.sz):Cov P t (Rp.slice A):=
 ⟨hc,fun H enc w base spare held fuel cs x h=>by
  rcases open_slice ht h with⟨rfl,_⟩ | ⟨a,len,cap,m,n,D,Pl,rfl,hb,hl,hm,hmm,hx,hi⟩
  · exact⟨[],none,0,0,rfl,rfl,Nat.le_refl _,Nat.zero_le _,.inl rfl⟩
  ·
   have hml:len≤m:=by rw[hmm];split<;>omega
   rw[hA.1] at hi
   have key:∀ i,i<len→∃ y,∃ ces,At w (a.add (i*A.sz)) ces∧A.rd (fun _=>True) w ces y:=fun i him=>by
    obtain⟨cs',hcs,ht'⟩:=hi i (by omega)
    obtain⟨_,hlen,hat⟩:=World.cells?_some hcs
    obtain⟨y,hy⟩:=hA.2 H enc w base spare held n cs' _ ht'
    refine⟨y,cs',fun j v hv=>?_,hy⟩
    have hj:=(List.getElem?_eq_some_iff.1 hv).1
    rw[hat j (by omega),hv]
   obtain⟨ys,h1,h2⟩:=list_of len key
   refine⟨ys,some a,len,cap,rfl,h1.symm,hl,hm,?_⟩
   by_cases hz:len=0
   · left;exact List.eq_nil_of_length_eq_zero (by omega)
   ·
    right
    refine⟨a,rfl,trivial,?_,h2⟩
    obtain⟨cs',hcs,_⟩:=hi 0 (by omega)
    obtain⟨_,hlen,hat⟩:=World.cells?_some hcs
    have:=hat 0 hpos
    rw[List.getElem?_eq_getElem (by omega)] at this
    have h3:=World.block_lt_of_cell? w _ this
    simpa [block_add] using h3⟩
def CovF (P:Program) (fs:List Field) (o:Nat) {α:Type} (A:Rp α):Prop:=
 ∀ (H:Type) (enc:TypeId×Value→H) (w:World) (base:Nat) (spare:Nat→Bool) (held:Bool) (fuel:Nat) (cs:List Value),(∀ f,f∈fs→∃ x,DataW.trod enc P w base spare held fuel f.type ((cs.drop f.offset).take (P.cellsOf f.type))=some x)→cs.length=o+A.sz→∃ y,A.rd (fun _=>True) w (cs.drop o) y
theorem CovF.one {f:Field} {o:Nat} {α:Type} {A:Rp α} (ho:f.offset=o) (hA:Cov P f.type A):CovF P [f] o A:=fun H enc w base spare held fuel cs h hl=>by
 obtain⟨x,hx⟩:=h f (by simp)
 rw[ho,hA.1,List.take_of_length_le (by simp;omega)] at hx
 exact hA.2 H enc w base spare held fuel _ x hx
theorem CovF.cons {f:Field} {fs:List Field} {o:Nat} {α β:Type} {A:Rp α} {B:Rp β} (ho:f.offset=o) (hA:Cov P f.type A) (hB:CovF P fs (o+A.sz) B):CovF P (f::fs) o (Rp.pair A B):=fun H enc w base spare held fuel cs h hl=>by
 obtain⟨x,hx⟩:=h f (by simp)
 rw[ho,hA.1] at hx
 obtain⟨y,hy⟩:=hA.2 H enc w base spare held fuel _ x hx
 have hl':cs.length=o+(A.sz+B.sz):=hl
 obtain⟨z,hz⟩:=hB H enc w base spare held fuel cs (fun f' hf'=>h f' (by simp[hf'])) (by omega)
 refine⟨(y,z),_,_,?_,hy,hz⟩
 rw[← List.drop_drop,List.take_append_drop]
theorem Cov.struct {t:TypeId} {fs:List Field} {α:Type} {A:Rp α} (ht:P.underlying t=some (.struct fs.toArray)) (hc:P.cellsOf t=A.sz) (hA:CovF P fs 0 A):Cov P t A:=
 ⟨hc,fun H enc w base spare held fuel cs x h=>by
  obtain⟨xs,n,_,hx,hlen,hxl,hf⟩:=DataW.trod_struct ht h
  have:=hA H enc w base spare held n cs (fun f hfm=>?_) (by omega)
  · simpa using this
  ·
   obtain⟨i,hi,hfi⟩:=List.getElem_of_mem hfm
   have h1:=hf i f (by simp[← hfi,hi])
   have h2:i<xs.length:=by rw[hxl];simpa using hi
   rw[List.getElem?_eq_getElem h2] at h1
   exact⟨_,h1⟩⟩
variable {H:Type} {enc:TypeId×Value→H} {w:World} {base b0:Nat} {spare:Nat→Bool} {held:Bool} {r:Reach} {v:Value} {d:DataW H} {ps:List MemPlace}
theorem open_agg {t:TypeId} {fs:Array Field} {α:Type} {A:Rp α} (ht:P.underlying t=some (.struct fs)) (hA:Cov P t A) (hval:Value.okWide P w r b0 t v) (hd:DataW.Trod enc P w base spare held t v d ps):∃ cs y,v=.agg cs∧A.rd (fun _=>True) w cs.toList y:=by
 obtain⟨cs,rfl,_⟩:=okWide_struct ht hval
 obtain⟨fuel,hf⟩:=hd
 obtain⟨y,hy⟩:=hA.2 H enc w base spare held fuel _ _ hf
 exact⟨cs,y,rfl,hy⟩
theorem trodAll_below {W W':World} (hl:laidOutB P=true) (hb:BelowD W.heap.size W W'):∀ {ts:List TypeId} {vs:List Value} {ds:List (DataW H)} {ps:List MemPlace},(∀ t,t∈ts→P.readableRec t=true∧t<P.types.size)→(∀ x,x∈ps→x.block<W.heap.size) →
  DataW.TrodAll enc P W 0 (fun _=>true) true ts vs ds ps→∀ sp:Nat→Bool,(∀ p∈ps,sp p.block=true)→DataW.TrodAll enc P W' 0 sp true ts vs ds ps
 | [],[],[],ps,_,_,h,sp,hsp=>h
 | [],_::_,_,_,_,_,h,_,_=>h.elim
 | [],[],_::_,_,_,_,h,_,_=>h.elim
 | _::_,[],_,_,_,_,h,_,_=>h.elim
 | _::_,_::_,[],_,_,_,h,_,_=>h.elim
 |
  t::ts,v::vs,d::ds,ps,hr,hlt,h,sp,hsp=>by
  obtain⟨p,q,h1,h2,rfl⟩:=h
  exact⟨p,q,WideElems.Trod_stays hl (hr t (by simp)).1 (hr t (by simp)).2 h1 (fun x hx=>hb.old.same (hlt x (by simp[hx]))) (fun x hx=>hsp x (by simp[hx])),
   trodAll_below hl hb (fun t' ht'=>hr t' (by simp[ht'])) (fun x hx=>hlt x (by simp[hx])) h2 sp (fun x hx=>hsp x (by simp[hx])),rfl⟩
theorem law_post {f:Func} {s:ChangeSpec} {apart fresh handsOn:Bool} {W W':World} {args:Array Value} {ds gs:List (DataW H)} {before:List MemPlace} {tb:TypeId} (hl:laidOutB P=true)
  (hW:DataW.Whole enc P f.params.toList s.vars apart W args.toList ds gs before) (hb:BelowD W.heap.size W W') (hvs:s.vars=[]) (hts:∀ t,t∈f.params.toList→P.readableRec t=true∧t<P.types.size)
  (hrt:f.resultTypes=#[tb]) (htb:P.underlying tb=some .bool) (hr:(s.fn H (ds++gs)).results=[.lit (.bool true)]) (ha:(s.fn H (ds++gs)).args=ds) (hv:(s.fn H (ds++gs)).vars=[]) :
  s.post enc P f apart fresh handsOn false W args (.bool true) W':=by
 have hlt:=hW.lt
 have hW':=hW
 obtain⟨p,q,hA,hV,rfl,_,_⟩:=hW
 rw[hvs] at hV
 refine⟨ds,gs,p++q,[],p,[],hW',?_,?_,?_,hb.old.frame _,fun h=>by cases h⟩
 ·
  rw[hr,hrt]
  exact trodAll_cons_mk (shut_bool htb _) trodAll_mk0
 ·
  rw[ha]
  exact trodAll_below hl hb hts (fun x hx=>hlt x (by simp[hx])) hA _ fun x hx=>by simpa using hlt x (by simp[hx])
 · rw[hv,hvs];rfl
end
end Go.SX
namespace Go.SX
open Go Go.RowKit
variable [Drw]
theorem tab_at {P:Program} {W:World} {name:String} {zs:List Int} {g:Nat} (hT:Lib.TabIs P W name .i64 zs) (hg:P.globalNamed name=some g) (h0:0<zs.length):At W ⟨g,0,none⟩ (zs.map (.int .i64))∧g<W.heap.size:=by
 have key:∀ j,j<zs.length→W.cell? ⟨g,j,none⟩=some (.int .i64 (zs.getD j 0)):=fun j hj=>hT.cell hg j hj
 refine⟨fun j v hv=>?_,World.block_lt_of_cell? W ⟨g,0,none⟩ (key 0 h0)⟩
 rw[Addr.add_mid,Nat.zero_add]
 have hj:j<zs.length:=by have:=(List.getElem?_eq_some_iff.1 hv).1;simpa using this
 rw[key j hj]
 rw[List.getElem?_map,List.getElem?_eq_getElem hj] at hv
 simp only[Option.map_some,Option.some.injEq] at hv
 subst hv
 simp[List.getD,hj]
theorem tab_first {P:Program} {W:World} {name:String} {k:IntKind} {zs:List Int} {rest:List (String×DataW Unit)} {g:Nat} {t e:TypeId} {n:Nat}
  (hg:P.globalNamed name=some g) (hty:(P.globals[g]?).map (·.type)=some t) (ht:P.underlying t=some (.array n e)) (he:P.underlying e=some (.int k)) (hce:P.cellsOf e=1) (hct:P.cellsOf t=n)
  (hp:(((name,Lib.tabData k zs)::rest).all fun x=>x.2.handleName?.isNone)=true) (h:laidMetH P ((name,Lib.tabData k zs)::rest) W):Lib.TabIs P W name k zs:=by
 rw[MakeChecks.laidMetH_plain _ _ _ hp] at h
 exact Lib.tabIs_of_head hg hty ht he hce hct h
end Go.SX
namespace Go.Proofs.YtolmeekbjonbcaaGreatDoor
open Go Go.SX Go.ChangeShapes Go.WideShapes Go.ChangeAt Go.RowKit Go.Deep
instance noDraws:Drw:=⟨False⟩
theorem ownNone:ownKnob Tryz.prog.godebug=none:=by kernel_rfl
theorem laidOut:laidOutB Tryz.prog=true:=by kernel_rfl
theorem rr26:Tryz.prog.readableRec 26=true∧26<Tryz.prog.types.size:=⟨by kernel_rfl,of_decide_eq_true (by kernel_rfl)⟩
theorem rr29:Tryz.prog.readableRec 29=true∧29<Tryz.prog.types.size:=⟨by kernel_rfl,of_decide_eq_true (by kernel_rfl)⟩
theorem cov3:Cov Tryz.prog 3 (Rp.int .i64):=Cov.int Tryz.underlying3 (by kernel_rfl)
theorem cov57:Cov Tryz.prog 57 qRt:=Cov.struct (fs:=_) Tryz.underlying57 (by kernel_rfl) (CovF.cons rfl cov3 (CovF.one rfl cov3))
theorem cov75:Cov Tryz.prog 75 qBr:=Cov.struct (fs:=_) Tryz.underlying75 (by kernel_rfl) (CovF.cons rfl cov3 (CovF.cons rfl cov57 (CovF.one rfl cov3)))
theorem cov22:Cov Tryz.prog 22 (Rp.slice qBr):=Cov.slice Tryz.underlying22 (by kernel_rfl) cov75 (by decide)
theorem cov46:Cov Tryz.prog 46 qRt:=Cov.struct (fs:=_) Tryz.underlying46 (by kernel_rfl) (CovF.cons rfl cov3 (CovF.one rfl cov3))
theorem cov48:Cov Tryz.prog 48 qPit:=Cov.struct (fs:=_) Tryz.underlying48 (by kernel_rfl) (CovF.cons rfl cov3 (CovF.cons rfl cov3 (CovF.one rfl cov3)))
theorem cov50:Cov Tryz.prog 50 qPt:=Cov.struct (fs:=_) Tryz.underlying50 (by kernel_rfl) (CovF.cons rfl cov3 (CovF.cons rfl cov3 (CovF.cons rfl cov3 (CovF.cons rfl cov3 (CovF.cons rfl cov3 (CovF.cons rfl cov46 (CovF.cons rfl cov48 (CovF.one rfl cov48))))))))
theorem cov23:Cov Tryz.prog 23 (Rp.slice qPt):=Cov.slice Tryz.underlying23 (by kernel_rfl) cov50 (by decide)
theorem cov89:Cov Tryz.prog 89 (Rp.pair (Rp.int .i64) (Rp.pair (Rp.int .i64) qWt)):=Cov.struct (fs:=_) Tryz.underlying89 (by kernel_rfl) (CovF.cons rfl cov3 (CovF.cons rfl cov3 (CovF.cons rfl cov3 (CovF.cons rfl cov3 (CovF.cons rfl cov3 (CovF.cons rfl cov57 (CovF.cons rfl cov57 (CovF.one rfl cov48))))))))
theorem cov24:Cov Tryz.prog 24 (Rp.slice (Rp.pair (Rp.int .i64) (Rp.pair (Rp.int .i64) qWt))):=Cov.slice Tryz.underlying24 (by kernel_rfl) cov89 (by decide)
theorem cov26:Cov Tryz.prog 26 (Rp.pair (Rp.int .i64) (Rp.pair (Rp.slice qBr) (Rp.pair (Rp.slice qPt) (Rp.slice (Rp.pair (Rp.int .i64) (Rp.pair (Rp.int .i64) qWt)))))):=Cov.struct (fs:=_) Tryz.underlying26 (by kernel_rfl) (CovF.cons rfl cov3 (CovF.cons rfl cov22 (CovF.cons rfl cov23 (CovF.one rfl cov24))))
theorem cov62:Cov Tryz.prog 62 qWt:=Cov.struct (fs:=_) Tryz.underlying62 (by kernel_rfl) (CovF.cons rfl cov3 (CovF.cons rfl cov3 (CovF.cons rfl cov3 (CovF.cons rfl cov57 (CovF.cons rfl cov57 (CovF.one rfl cov48))))))
theorem cov58:Cov Tryz.prog 58 (Rp.slice qWt):=Cov.slice Tryz.underlying58 (by kernel_rfl) cov62 (by decide)
theorem cov60:Cov Tryz.prog 60 qMs:=Cov.struct (fs:=_) Tryz.underlying60 (by kernel_rfl) (CovF.cons rfl cov3 (CovF.cons rfl cov3 (CovF.cons rfl cov57 (CovF.one rfl cov58))))
theorem cov27:Cov Tryz.prog 27 (Rp.slice qMs):=Cov.slice Tryz.underlying27 (by kernel_rfl) cov60 (by decide)
theorem cov29:Cov Tryz.prog 29 (Rp.pair (Rp.int .i64) (Rp.slice qMs)):=Cov.struct (fs:=_) Tryz.underlying29 (by kernel_rfl) (CovF.cons rfl cov3 (CovF.one rfl cov27))
def laid_topUndone:List (String×DataW Unit):=[("partbook/pitch.naturals",Rows.laid_partbook_pitch_naturals)]
set_option maxRecDepth 100000 in
theorem topUndone_met (os:Os) (args:Array Value):laidMetH Tryz.prog laid_topUndone ((World.doorLaid Tryz.prog 14 os).forCall (fun _ _=>0) ⟨#[],args,[]⟩).memory:=
 laidMetH_of_parts3 (fuel:=8) (laidMet_of_run' 8 (by kernel_rfl) (by kernel_rfl)) (by kernel_rfl) (by kernel_rfl)
set_option maxRecDepth 100000 in
theorem topUndone_facts {W:World} (hL:laidMetH Tryz.prog laid_topUndone W):GN W:=tab_at (tab_first (P:=Tryz.prog) (name:= "partbook/pitch.naturals") (k:=.i64) (zs:=naturals) (n:=7) (g:=0) (by kernel_rfl) (by kernel_rfl) Tryz.underlying265 Tryz.underlying3 (by kernel_rfl) (by kernel_rfl) rfl hL) (by kernel_rfl) (by decide)
set_option maxRecDepth 100000 in
theorem topUndone_contract (H:Type) (enc:TypeId×Value→H) (W:World) (base:Nat) (args:Array Value) (ds gs:List (DataW H)) (before:List MemPlace)
  (hval:∀ (j:Nat) t v,Tryz.f3.params[j]?=some t→args[j]?=some v→Value.okWide Tryz.prog W .any base t v)
  (hW:DataW.Whole enc Tryz.prog Tryz.f3.params.toList Rows.topUndoneSpec.vars false W args.toList ds gs before) (hL:laidMetH Tryz.prog laid_topUndone W) :
  Calls Tryz.prog 3 args W fun e W'=>∃ v,e=.returned v∧Rows.topUndoneSpec.post enc Tryz.prog Tryz.f3 false true false false W args v W':=by
 have hW':=hW
 obtain⟨p,q,hA0,hV,rfl,hfz,hnd⟩:=hW
 have hA:DataW.TrodAll enc Tryz.prog W 0 (fun _=>true) true Tryz.f3.params.toList args.toList ds p:=hA0
 rw[Tryz.params3] at hA hval
 obtain⟨v0,vs0,d0,ds0,p0,q0,hargs,rfl,rfl,h0,r0⟩:=trodAll_cons hA
 obtain⟨v1,vs1,d1,ds1,p1,q1,rfl,rfl,rfl,h1,r1⟩:=trodAll_cons r0
 obtain⟨rfl,rfl,rfl⟩:=trodAll_nil r1
 obtain rfl:args=#[v0,v1]:=by cases args;simp_all
 obtain⟨rfl,rfl⟩:=trodVars_none hV
 obtain⟨c0,x0,rfl,hx0⟩:=open_agg Tryz.underlying26 cov26 (hval 0 26 v0 rfl rfl) h0
 obtain⟨c1,x1,rfl,hx1⟩:=open_agg Tryz.underlying29 cov29 (hval 1 29 v1 rfl rfl) h1
 have hN:=topUndone_facts hL
 obtain⟨a0,e0,hs0⟩:=sc_openA hx0
 obtain⟨a1,e1,hl1⟩:=vw_openA hx1
 have hoff:¬ Drw.on:=id
 have h9:=top_spec hoff hN hs0 hl1
 rw[← e0,← e1] at h9
 refine Calls.mono (h9) fun e W' ⟨v,he,hb,hv⟩=>?_
 subst he;subst hv
 exact⟨_,rfl,law_post laidOut hW' hb rfl (by rw[Tryz.params3];simp only[List.mem_cons,List.not_mem_nil,or_false];rintro t (rfl | rfl)<;>first | exact rr26 | exact rr29) rfl Tryz.underlying4 rfl rfl rfl⟩
set_option maxRecDepth 100000 in
theorem topUndone_lifted (os:Os) (started:os.Started) (H:Type) (enc:TypeId×Value→H) :
  ReturnsInHanded {} Tryz.checked os 3 .any (fun w args=>(Rows.topUndoneSpec.pre enc Tryz.prog Tryz.f3 [] false w args∧laidMetH Tryz.prog laid_topUndone w)∧sizedMet enc Tryz.prog Tryz.f3 (OpenSpec.ofChange Rows.topUndoneSpec) false w args)
   (Rows.topUndoneSpec.post enc Tryz.prog Tryz.f3 false true false false):=by
 refine returnsInHanded_of_change_and (C:=Tryz.checked) (X:=fun w _=>laidMetH Tryz.prog laid_topUndone w) (fun _ _ _ hh h=>h.of_heap hh) ownNone started (by kernel_rfl) Tryz.func3
  (ChangeSpec.witness_shaped (enc:=enc) (C:=Tryz.checked) (os:=os) (X:=fun w _=>laidMetH Tryz.prog laid_topUndone w) false (World.doorLaid Tryz.prog 14 os) #[.agg #[.int .i64 0,.slice none 0 0,.slice none 0 0,.slice none 0 0],.agg #[.int .i64 0,.slice none 0 0]] 8 rfl (World.shaped_of_RefB (by kernel_rfl) (by kernel_rfl)) (by kernel_rfl) (by kernel_rfl) (by kernel_rfl) (topUndone_met os _)) ?_
 intro W base args ds gs before hval hW _ _ hL _
 exact topUndone_contract H enc W base args ds gs before hval hW hL
theorem topUndone_holds:Rows.TopUndoneSaid:=
 OpenClaim.holds_of_wide 3 Tryz.f3 rfl rfl rfl rfl rfl rfl rfl ⟨rfl,rfl,rfl,rfl,rfl⟩ rfl rfl rfl rfl rfl (by kernel_rfl) Tryz.func3 (by kernel_rfl)
  (of_decide_eq_true (by kernel_rfl)) (by unfold Func.isWrapper;first | (rw[if_pos (by decide +kernel)];kernel_rfl) | (rw[if_neg (by decide +kernel)];exact⟨rfl,rfl⟩))
  (fun os started H enc _=>topUndone_lifted os started H enc)
set_option maxRecDepth 100000 in
theorem topUndone_card:Rows.TopUndoneCardSaid:=
 Claim7.holds_tied_plain_at .later [] [.data] true (true,"ba655703ca650d22c1c1bdb3bb4d5450a2cc41cf10f740baa3d7596e698e814f") false
  topUndone_holds (fun _ h=>by cases h) (by kernel_rfl) (fun _ h=>by cases h) topUndone_row_tie rfl ⟨rfl,rfl⟩ (by kernel_rfl) rfl
  (fun f fn hf hfn=>by
   obtain rfl:f=3:=Option.some.inj ((show Tryz.prog.funcNamed "partbook/partbooktop.TopUndone"=some 3 by kernel_rfl).symm.trans hf) |>.symm
   obtain rfl:fn=Tryz.f3:=(Option.some.inj (Tryz.func3.symm.trans hfn)).symm
   exact⟨by kernel_rfl,fun j t ht=>by
    rw[Tryz.params3] at ht
    have hm:t∈[26,29]:=by simpa using Array.mem_of_getElem? ht
    have hall:([26,29].all fun u=>!Tryz.prog.wantsStandIn u)=true:=by kernel_rfl
    exact(show Tryz.prog.wantsStandIn t=false by simpa using List.all_eq_true.1 hall t hm)⟩)
  (by kernel_rfl)
end Go.Proofs.YtolmeekbjonbcaaGreatDoor
