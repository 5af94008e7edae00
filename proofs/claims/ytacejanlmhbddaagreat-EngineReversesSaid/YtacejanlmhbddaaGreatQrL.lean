/- Parts. -/
import Derived.Test.YtacejanlmhbddaaGreatQrK
set_option maxRecDepth 100000
set_option maxHeartbeats 1000000
set_option linter.all false
namespace Go.Proofs.YtacejanlmhbddaaGreat
open Go Go.VV Go.Proofs Go.RowKit Go.Proofs.Tryz
def aRf(ob:Nat)(rom:AB)(hl:rom.length<=100000000)(hb:bF rom)(he:errH rom=0)(pa:AC)(n pc:Nat)(ms:AE)(w:AI)(hst:St w ms [(ob,J (rom.map Z) 5)] w):
  aG prog 43 [.slice (Q_ ob) rom.length rom.length,.slice pa n pc] w ms (λv H=>∃q:MA,q.A.ob=ob/\q.Ok pa n pc/\v= .tuple #[pM q,.int .i64 0]/\H=hM q (lM rom)):=by
 refine aG.frame (F:=[]) (G:=[(ob,J (rom.map Z) 5)]) hst (λb hb=>by cases hb) (aDZ ob rom.length rom hl hb (be _) pa n pc w (aI (.head _) w hst)) ?_
 rintro v H w' (⟨h1,_⟩|⟨_,mb,ub,rb,tb,oT,hT,rfl,rfl⟩) hw
 ·exact absurd he h1
 have hn:=hw.nodup
 simp only[cw,cg,cq,dh,i3,ea,ei,or_false,not_or]at hn
 refine⟨_,St.perm_ix 5 [3,0,2,1,4] aD U (L':=hM ⟨pX mb ub rb tb ob rom.length [] (.slice pa n pc) (hdH rom).ram.toNat,tb,oT,.slice none 0 0⟩ (lM rom)) (by simp only[hM,pX,cn];rfl) hw,⟨pX mb ub rb tb ob rom.length [] (.slice pa n pc) (hdH rom).ram.toNat,tb,oT,.slice none 0 0⟩,U,⟨⟨?_,?_⟩,hT,U,U,_,_,_,U⟩,U,U⟩
 ·show rb∉[mb,ub]
  simp only[ea,ei,or_false,not_or]
  exact⟨λh=>hn.1.1 h.symm,λh=>hn.2.1.1 h⟩
 ·show ob∉[mb,ub]
  simp only[ea,ei,or_false,not_or]
  exact⟨λh=>hn.1.2.2.2 h.symm,λh=>hn.2.2.1.2 h.symm⟩
def aOq(ob:Nat)(rom:AB)(hl:rom.length<=100000000)(hb:bF rom)(he:errH rom≠0)(pa:AC)(n pc:Nat)(w:AI)(hr:aK w ob 0 (rom.map Z)):
  aG prog 43 [.slice (Q_ ob) rom.length rom.length,.slice pa n pc] w [] (λv H=>H=[]/\v= .tuple #[.pointer none,.int .i64 (errH rom)]):=
 (aDZ ob rom.length rom hl hb (be _) pa n pc w hr).mono λv H h=>by
  rcases h with⟨_,h1,h2⟩|⟨h1,_⟩
  ·exact⟨h2,h1⟩
  ·exact absurd h1 he
def aFf(g:Gx)(hg:g.Ok)(b:Nat)(cap asked done:Int)(c1 c2 c3 c4 c5 c6 pv wv tab:AH)(ob:Nat)(GP R:aF)(hP:Dm 114 g.plan g.pa g.pc GP)(w:AI)(hst:St w (((b,J [.int .i64 cap,c1,c2,c3,c4,c5,c6,pv,wv,.int .u32 asked,.int .u64 done,tab] 108)::(ob,J (g.rom.map Z) 5)::(GP++R)).map (·.1)) ((b,J [.int .i64 cap,c1,c2,c3,c4,c5,c6,pv,wv,.int .u32 asked,.int .u64 done,tab] 108)::(ob,J (g.rom.map Z) 5)::(GP++R)) w):aG prog 12 [P_ b,.slice (Q_ ob) g.rom.length g.rom.length,.slice g.pa g.plan.length g.pc] w (((b,J [.int .i64 cap,c1,c2,c3,c4,c5,c6,pv,wv,.int .u32 asked,.int .u64 done,tab] 108)::(ob,J (g.rom.map Z) 5)::(GP++R)).map (·.1)) (λv H=>v= .int .i64 0/\∃e:Db,e.Ok g 0 1/\e.b=b/\e.cap=cap/\e.asked=asked/\e.done=done/\e.pv=pv/\e.wv=wv/\e.tab=tab/\(∀x∈R,x∈e.D)/\H=e.H g 0):=by
 have hiv:=hg.inv 0
 have hrl:(lM g.rom).ram.length<=200000:=by have:=Ue g.rom;omega
 refine cG func12 hst ?_
 refine uS ?_
 refine ZCy ?_
 refine RX (gZ (F:=[(b,J [.int .i64 cap,c1,c2,c3,c4,c5,c6,pv,wv,.int .u32 asked,.int .u64 done,tab] 108)]) (A:=[(ob,J (g.rom.map Z) 5)]) (G:=GP++R) K_ U (λw h1 _=>aRf ob g.rom hg.len hg.byts hg.err g.pa g.plan.length g.pc _ w h1)) U ?_
 rintro _ _ ⟨_,⟨q,hob,hq,rfl,rfl⟩,rfl⟩
 rw[cw,cg]
 refine ZEp ?_
 refine ZEf ?_
 refine ZEO ?_
 refine ZD0 ?_
 refine ZDr ?_
 refine eC ?_
 refine ZBV ?_
 refine iO ?_
 refine ZE1 ?_
 refine RX (eN K_ U (aS (Hs.new_fn 32))) U ?_
 rintro _ _ ⟨G0,⟨b0,rfl,hH38⟩,rfl⟩
 refine eA (H':=(b,J [.int .i64 cap,.pointer none,.pointer none,.int .u64 0,c4,.pointer none,.map none,pv,wv,.int .u32 asked,.int .u64 done,tab] 108)::(hM q (lM g.rom)++(G0++(GP++R)))) (λ_ h=>St.fl [G0,[(b,J [.int .i64 cap,.pointer none,.pointer none,.int .u64 0,c4,.pointer none,.map none,pv,wv,.int .u32 asked,.int .u64 done,tab] 108)],hM q (lM g.rom),GP++R] [1,2,0,3] U h) ?_
 refine ZAm ?_
 refine W (bC (l':=[.int .i64 cap,(pM q),.pointer none,.int .u64 0,c4,.pointer none,.map none,pv,wv,.int .u32 asked,.int .u64 done,tab]) 0) U (jE ?_)
 refine W (bC (l':=[.int .i64 cap,(pM q),P_ b0,.int .u64 0,c4,.pointer none,.map none,pv,wv,.int .u32 asked,.int .u64 done,tab]) 0) U (eC ?_)
 refine ZBV ?_
 refine RX (gZ (F:=[(b,J [.int .i64 cap,(pM q),P_ b0,.int .u64 0,c4,.pointer none,.map none,pv,wv,.int .u32 asked,.int .u64 done,tab] 108)]) (A:=hM q (lM g.rom)) (G:=G0++(GP++R)) K_ U (Fe (aCL q (lM g.rom) hiv.wf hiv.rg hrl _))) U ?_
 rintro _ _ ⟨_,⟨b1,c0,sp0,rfl,hc0,rfl⟩,rfl⟩
 refine eA (H':=(b,J [.int .i64 cap,(pM q),P_ b0,.int .u64 0,c4,.pointer none,.map none,pv,wv,.int .u32 asked,.int .u64 done,tab] 108)::(hM q (lM g.rom)++(G0++((b1,J ((g.enc 0).map Z++sp0) 5)::(GP++R))))) (λ_ h=>St.fl [[(b,J [.int .i64 cap,(pM q),P_ b0,.int .u64 0,c4,.pointer none,.map none,pv,wv,.int .u32 asked,.int .u64 done,tab] 108)],[(b1,J ((g.enc 0).map Z++sp0) 5)],hM q (lM g.rom),G0,GP++R] [0,2,3,1,4] U h) ?_
 refine ZAm ?_
 refine W (bC (l':=[.int .i64 cap,(pM q),P_ b0,.int .u64 0,(.slice (Q_ b1) (g.enc 0).length c0),.pointer none,.map none,pv,wv,.int .u32 asked,.int .u64 done,tab]) 0) U (eC ?_)
 refine bW ?_
 refine RX (eN K_ U (aS (Tm.new_fn cap))) U ?_
 rintro _ _ ⟨_,⟨b2,rfl,rfl⟩,rfl⟩
 rw[cw,cg]
 refine RX (aAo .u64) U ?_
 rintro _ _ ⟨b3,rfl,rfl⟩
 refine eA (H':=(b,J [.int .i64 cap,(pM q),P_ b0,.int .u64 0,(.slice (Q_ b1) (g.enc 0).length c0),.pointer none,.map none,pv,wv,.int .u32 asked,.int .u64 done,tab] 108)::(b3,cY .u64 [] 0)::(hM q (lM g.rom)++(G0++((b2,J [.slice none 0 0,.int .i64 (capT cap)] 215)::(b1,J ((g.enc 0).map Z++sp0) 5)::(GP++R))))) (λ_ h=>St.fl [[(b3,_)],[(b2,J [.slice none 0 0,.int .i64 (capT cap)] 215)],[(b,J [.int .i64 cap,(pM q),P_ b0,.int .u64 0,(.slice (Q_ b1) (g.enc 0).length c0),.pointer none,.map none,pv,wv,.int .u32 asked,.int .u64 done,tab] 108)],hM q (lM g.rom),G0,(b1,J ((g.enc 0).map Z++sp0) 5)::(GP++R)] [2,0,3,4,1,5] U h) ?_
 refine ZAm ?_
 refine W (bC (l':=[.int .i64 cap,(pM q),P_ b0,.int .u64 0,(.slice (Q_ b1) (g.enc 0).length c0),P_ b2,.map none,pv,wv,.int .u32 asked,.int .u64 done,tab]) 0) U (jE ?_)
 refine W (bC (l':=[.int .i64 cap,(pM q),P_ b0,.int .u64 0,(.slice (Q_ b1) (g.enc 0).length c0),P_ b2,.map (some b3),pv,wv,.int .u32 asked,.int .u64 done,tab]) 0) U (jE ?_)
 have hE0:(⟨b,b0,b2,b3,b1,c0,sp0,cap,asked,done,q,(lM g.rom),List.replicate 32 Hs.r0,G0,[],[(b2,J [.slice none 0 0,.int .i64 (capT cap)] 215)],[],0,pv,wv,tab,(b1,J ((g.enc 0).map Z++sp0) 5)::(GP++R)⟩:Db).Ok g 0 0:=⟨be _,hq,pG.refl _,hH38,Hs.RingOk.start 32 (by rw[ct]),Hw (Tm.LJ.start b2 (capT cap)) (λ_ h=>yR),(λ_ h=>yR),⟨.head _,hc0⟩,sQ.start g _,rfl,GP,hP,λx hx=> .tail _ (lJ _ hx)⟩
 refine ZAm ?_
 refine RX (iB K_ U (kK (aED (⟨b,b0,b2,b3,b1,c0,sp0,cap,asked,done,q,(lM g.rom),List.replicate 32 Hs.r0,G0,[],[(b2,J [.slice none 0 0,.int .i64 (capT cap)] 215)],[],0,pv,wv,tab,(b1,J ((g.enc 0).map Z++sp0) 5)::(GP++R)⟩:Db) g hg 0 aD hE0))) U ?_
 rintro _ _ ⟨rfl,e,hE,hT,hdn,rfl⟩
 refine aH ?_
 exact EV U aJ ⟨U,e,hE,hT.b,hT.cap,hT.asked,hdn,hT.pv,hT.wv,hT.tab,λx hx=>hT.D x (.tail _ (bL _ hx)),U⟩
def aJl(rom:AB)(hl:rom.length<=100000000)(hb:bF rom)(he:errH rom≠0)(pa:AC)(n pc:Nat)(b:Nat)(cap asked done:Int)(c1 c2 c3 c4 c5 c6 pv wv tab:AH)(ob:Nat)(R:aF)(w:AI)(hr:aK w ob 0 (rom.map Z))(hob:ob∉((b,J [.int .i64 cap,c1,c2,c3,c4,c5,c6,pv,wv,.int .u32 asked,.int .u64 done,tab] 108)::R).map (·.1))(hst:St w (((b,J [.int .i64 cap,c1,c2,c3,c4,c5,c6,pv,wv,.int .u32 asked,.int .u64 done,tab] 108)::R).map (·.1)) ((b,J [.int .i64 cap,c1,c2,c3,c4,c5,c6,pv,wv,.int .u32 asked,.int .u64 done,tab] 108)::R) w):aG prog 12 [P_ b,.slice (Q_ ob) rom.length rom.length,.slice pa n pc] w (((b,J [.int .i64 cap,c1,c2,c3,c4,c5,c6,pv,wv,.int .u32 asked,.int .u64 done,tab] 108)::R).map (·.1)) (λv H=>v= .int .i64 (errH rom)/\H=(b,J [.int .i64 cap,.pointer none,.pointer none,.int .u64 0,c4,.pointer none,.map none,pv,wv,.int .u32 asked,.int .u64 done,tab] 108)::R):=by
 refine cG func12 hst ?_
 refine uS ?_
 refine ZCy ?_
 refine aO K_ (λw hw=>aOq ob rom hl hb he pa n pc w (bU hr hob w hw)) ?_
 refine ZEp ?_
 refine ZEf ?_
 refine ZEO ?_
 refine ZD0 ?_
 refine ZDr ?_
 refine eC ?_
 refine ZBV ?_
 refine fX true U U U (bne_iff_ne.2 he) ?_
 refine ZE1 ?_
 exact EV U aJ ⟨U,U⟩
def aD7(g:Gq)(w:AI)(hg:g.Ok w)(hp:g.prog.length<=100000000):aG prog 13 [.agg (cGq g).toArray] w [] (λv H=>∃b,v= .slice (Q_ b) (pB g).length (pB g).length/\H=[(b,J ((pB g).map Z) 5)]):=by
 refine aT func13 ?_
 refine Vq ?_
 refine ZBF λb0=>?_
 refine ZE1 ?_
 refine RX (eN K_ U (λw hw=>aCw g.kind 0 2 hg.kind aD aD g.pa g.pc g.prog hp hg.prog w (hg.np.later0 hw))) U ?_
 rintro _ _ ⟨G0,⟨b1,rfl,rfl⟩,rfl⟩
 refine ZA2 ?_
 exact EV U (cz _ _) ⟨b1,by rw[Yv],U⟩
def aFk(g:Gq)(w:AI)(hg:g.Ok w)(hp:g.plan.length<=1000000):aG prog 14 [.agg (cGq g).toArray] w [] (λv H=>∃pa pc,v= .slice pa g.plan.length pc/\Dm 114 g.plan pa pc H):=by
 refine aT func14 ?_
 refine Vq ?_
 refine ZBF λb0=>?_
 refine iT ?_
 refine mV ?_
 refine dK (σ:=Nat×AH×aF) [3,4,8,9,10,11,12,13,14,15,16,17,18,19] (λs=>[(3,s.2.1),(8,.int .i64 s.1)]) (λs=>s.2.2++[(b0,J (cGq g) 25)]) (λs=>s.1<=g.plan.length/\bS 114 2 s.2.1 s.1 (aM qN (g.plan.take s.1)) s.2.2) (λs=>g.plan.length-s.1) (0,.slice none 0 0,[]) ?_ ?_ ?_ ?_
 ·exact⟨aq _,.nil⟩
 ·exact .cons U (.cons U .nil)
 ·exact λ_ h=>h
 rintro⟨i,v0,G0⟩ y3 ⟨hi,hV0⟩
 dsimp only at hi hV0⊢
 obtain⟨a3,c0,rfl⟩:=hV0.slice
 refine ZBV ?_
 refine KC (λq0 z0=>?_) (λq0 z0=>?_)
 ·refine ZBZ ?_
  obtain⟨bx,ox,hqa,hrx⟩:=hg.nq.row (i:=i) I
  obtain⟨c,hc0⟩:∃c,g.plan[i]? =some c:=⟨_,ap I⟩
  refine ZCy ?_
  refine W (aW U U (bT (v:= .slice (some ⟨bx,ox,none⟩) g.plan.length g.qc) (b:=b0) (l:=cGq g) (bL _ (.head _)) (by rw[<-hqa];rfl))) U (ZBI ?_)
  refine Py ?_
  refine W (bJ U U U (λw hw=>(bU hrx aP w hw).nth' cChg_len hc0)) U (RX (fY (z:=[.int .u64 0,.int .u8 0]) (l:=qN c) (ps:=[(0,.agg (qN c).toArray)]) U U U U U U) U ?_)
  rintro _ _ ⟨b1,rfl,rfl⟩
  refine RX (lZ (A:=[(b1,_)]) (G:=G0) (R:=[(b0,J (cGq g) 25)]) (v:= .slice a3 i c0) (n:=i) (xs:=aM qN (g.plan.take i)) (m:=1) (T:=114) (s:=2) (by_:=16) (ys:=qN c) U U U U hV0 (λw hw=> .row _ _ _ _ _ U (aI (b:=b1) (.head _) w hw)) U I I) U ?_
  rintro v1 _ ⟨G1,hV1,_,rfl⟩
  obtain⟨a18,cx1,rfl⟩:=hV1.slice
  refine ZA2 ?_
  refine pU ?_
  exact⟨(i+1,_,G1),⟨aR,hV1.as U (by show _=aM qN (g.plan.take (i+1));rw[Tb hc0,xH])⟩,by show g.plan.length-(i+1)<g.plan.length-i;omega,.cons U (.cons U .nil),bB,λ_ h=>h.sub (fj (.cons _ aJ) _)⟩
 refine ZAm ?_
 obtain rfl:i=g.plan.length:=by omega
 rw[dj]at hV0
 refine ZBV ?_
 exact EV U (cz _ _) ⟨_,_,U,hV0,hg.plan,hp⟩
def aPd(w:AI):aG prog 41 [.int .u8 0,.int .u8 0,.int .u8 0,.slice none 0 0] w [] (λv H=>∃b,v= .slice (Q_ b) xG.length xG.length/\H=[(b,J (xG.map Z) 5)]):=
 (aCw 0 0 0 aD aD aD none 0 [] aD (λ_ h=>by cases h) w (Ns.nil _ _ _)).mono λ_ _ ⟨b,h1,h2⟩=>⟨b,by rw[h1,aDL],h2⟩
def X8(w:AI):aG prog 9 [] w [] (V_ (.bool true)):=by
 refine aT func9 ?_
 refine aH ?_
 refine RX (eN K_ U (aS (aCJ 9))) U ?_
 rintro _ _ ⟨G0,⟨b0,tb,oT,rfl,hT0,rfl⟩,rfl⟩
 refine aH ?_
 refine iO ?_
 refine ZAm ?_
 refine RX (eN K_ U (aS aPd)) U ?_
 rintro _ _ ⟨G1,⟨b1,rfl,rfl⟩,rfl⟩
 refine eA (H':=(b0,J (vZ 9 (P_ tb)) 108)::(b1,J (xG.map Z) 5)::([]++[(tb,oT)])) (λ_ h=>St.fl [[(b1,J (xG.map Z) 5)],[(b0,J (vZ 9 (P_ tb)) 108)],[],[(tb,oT)]] [1,0,2,3] U h) ?_
 refine RX (iB K_ U (λw hw=>aFf nU Mw b0 9 0 0 _ _ _ _ _ _ _ _ _ b1 [] [(tb,oT)] ⟨.nil,λ_ h=>yR,iH⟩ w (St.lentA hw))) U ?_
 rintro _ _ ⟨rfl,e,hE,hb,hcap,hask,hdn,hpv,hwv,htab,hR,rfl⟩
 have hF:e.Fine nU 0 1:=⟨hE,iH,iH,by rw[hdn];decide⟩
 refine iO ?_
 refine ZCy ?_
 refine RX (cB (F:=[]) (A:=Db.H e nU 0) K_ U (λw hw=>(by have h9:=W4 e nU Mw 0 1 hF 3 aD w (St.lentV hw);rw[hb]at h9;exact h9))) U ?_
 rintro _ _ ⟨_,⟨rfl,e1,hG0⟩,rfl⟩
 have hs1:=Jn hF.ok aD 3
 have hF1:=hF.goes hG0 aD aD ⟨iH,by rw[hdn];decide⟩
 obtain⟨hO1,hT1,hd1,rfl⟩:=hG0
 have hF1:e1.Fine nU 3 4:=hF1
 have hb1:e1.b=b0:=hT1.b.trans hb
 refine eA (H':=Db.H e1 nU 3) (λ_ h=>h) ?_
 refine ZA2 ?_
 refine ZB9 ?_
 rintro _ _ ⟨b2,rfl,rfl⟩
 refine W (bC (l':=cSt 3 0 0 false) 0) U (nI ?_)
 refine ZBV ?_
 refine RX (cB (F:=[(b2,J (cSt 3 0 0 false) 38)]) (A:=Db.H e1 nU 3) K_ U (λw hw=>(by have h9:=aDW e1 nU Mw 3 4 hF1 2 (.inl aD) aD w (St.lentV hw);rw[hb1]at h9;exact h9))) U ?_
 rintro _ _ ⟨_,⟨rfl,e2,hG1⟩,rfl⟩
 have hs2:0<=oM e1.ms 3 (3-min 2 3)/\oM e1.ms 3 (3-min 2 3)<=(1:Nat):=Jn hF1.ok aD 1
 have hF2:=hF1.goes hG1 aD aD (by have:=hF1.done;omega)
 obtain⟨hO2,hT2,hd2,rfl⟩:=hG1
 have hF2:e2.Fine nU 1 4:=hF2
 have hb2:e2.b=b0:=hT2.b.trans hb1
 refine eA (H':=(b2,J (cSt 3 0 0 false) 38)::Db.H e2 nU 1) (λ_ h=>h) ?_
 refine ZA2 ?_
 refine ZB9 ?_
 rintro _ _ ⟨b3,rfl,rfl⟩
 refine W (bC (l':=cSt 1 0 0 false) 0) U (nI ?_)
 refine ZBV ?_
 refine RX (cB (F:=[(b3,J (cSt 1 0 0 false) 38),(b2,J (cSt 3 0 0 false) 38)]) (A:=Db.H e2 nU 1) K_ U (λw hw=>(by have h9:=aDW e2 nU Mw 1 4 hF2 5 (.inl aD) aD w (St.lentV hw);rw[hb2]at h9;exact h9))) U ?_
 rintro _ _ ⟨_,⟨rfl,e3,hG2⟩,rfl⟩
 have hs3:0<=oM e2.ms 1 (1-min 5 1)/\oM e2.ms 1 (1-min 5 1)<=(0:Nat):=Jn hF2.ok aD 0
 have hF3:=hF2.goes hG2 aD aD (by have:=hF2.done;omega)
 obtain⟨hO3,hT3,hd3,rfl⟩:=hG2
 have hF3:e3.Fine nU 0 4:=hF3
 have hb3:e3.b=b0:=hT3.b.trans hb2
 refine eA (H':=(b3,J (cSt 1 0 0 false) 38)::(b2,J (cSt 3 0 0 false) 38)::Db.H e3 nU 0) (λ_ h=>h) ?_
 refine ZA2 ?_
 refine ZB9 ?_
 rintro _ _ ⟨b4,rfl,rfl⟩
 refine W (bC (l':=cSt 0 0 0 false) 0) U (nI ?_)
 refine ZBV ?_
 refine RX (cB (F:=[(b4,J (cSt 0 0 0 false) 38),(b3,J (cSt 1 0 0 false) 38),(b2,J (cSt 3 0 0 false) 38)]) (A:=Db.H e3 nU 0) K_ U (λw hw=>(by have h9:=aLc e3 nU 4 hF3 1 aD w (St.lentV hw);rw[hb3]at h9;exact h9))) U (ZBB ?_)
 refine eA (H':=(b4,J (cSt 0 0 0 false) 38)::(b3,J (cSt 1 0 0 false) 38)::(b2,J (cSt 3 0 0 false) 38)::Db.H e3 nU 0) (λ_ h=>h) ?_
 refine ZA2 ?_
 refine ZB9 ?_
 rintro _ _ ⟨b5,rfl,rfl⟩
 refine W (bC (l':=cSt 0 4 0 false) 0) U (nI ?_)
 refine aH ?_
 refine jN ?_
 refine ZAm ?_
 refine jN ?_
 refine ZBZ ?_
 refine jN ?_
 refine ZA2 ?_
 refine jN ?_
 refine ZAm ?_
 refine W (bJ U U U Cb) U (RS ?_)
 refine aEJ (ks:=[.int .u64,.int .i64,.int .i64,.bool]) U U aN aN U U U U (b:=true) U ?_
 refine ZBZ ?_
 refine jN ?_
 refine ZA2 ?_
 refine W (cZ K_ U (λw hw=>(by have h9:=aN6 e3.b e3.q.A.mb w (bT (b:=e3.b) (l:=Db.cs e3 nU 0) (.tail _ (.tail _ (.tail _ (.tail _ (.head _))))) rfl w hw);rw[hb3]at h9;exact h9))) U (jN ?_)
 exact pF
def xD(x:Wt)(v:AH):AA:=[.int .u16 x.lo,.int .u16 x.hi,.bool x.rd,.bool x.wr,v]
def aFK{G R:aF}{a x:Nat×Obj}:(G++a::x::R)[G.length+1]? =some x:=by simp
def aDM{G R:aF}{a x y:Nat×Obj}:(G++a::x::R).set (G.length+1) y=G++a::y::R:=by simp
def aHm(x:Wt)(w:AI)(hl:x.l.length<=60)(hE:eX w iJ x.a x.l):aG prog 32 [.agg (cWt x).toArray] w [] (λv H=>∃a2 c2,v= .agg (xD x (.slice a2 x.l.length c2)).toArray/\bS 171 2 (.slice a2 x.l.length c2) x.l.length (aM iJ x.l) H):=by
 refine aT func32 ?_
 refine Tx ?_
 refine tZ λb0 b1=>?_
 refine iT ?_
 refine RS ?_
 refine ZB9 ?_
 rintro _ _ ⟨b2,rfl,rfl⟩
 refine W (bC (l':=xD x (.slice none 0 0)) 0) U (nI ?_)
 refine aH ?_
 refine mV ?_
 refine dK (σ:=Nat×AC×Nat×aF) [4,17,18,19,20,21,22,23,24,25,26,27,28,29,30] (λs=>[(17,.int .i64 s.1)]) (λs=>s.2.2.2++[(b2,J (xD x (.slice s.2.1 s.1 s.2.2.1)) 71),(b1,J (xD ⟨0,0,false,false,none,0,[]⟩ (.slice none 0 0)) 71),(b0,J (cWt x) 61)]) (λs=>s.1<=x.l.length/\bS 171 2 (.slice s.2.1 s.1 s.2.2.1) s.1 (aM iJ (x.l.take s.1)) s.2.2.2) (λs=>x.l.length-s.1) (0,none,0,[]) ?_ ?_ ?_ ?_
 ·exact⟨aq _,.nil⟩
 ·exact .cons U .nil
 ·exact λ_ h=>h
 rintro⟨i,a3,c0,G0⟩ y3 ⟨hi,hV0⟩
 dsimp only at hi hV0⊢
 refine ZBV ?_
 refine KC (λq0 z0=>?_) (λq0 z0=>?_)
 ·refine ZBZ ?_
  obtain⟨y,hy⟩:∃y,x.l[i]? =some y:=⟨_,ap I⟩
  obtain⟨bq,oq,hxa,hrow⟩:=hE.row (i:=i) I
  refine ZBZ ?_
  refine DR [2,3,4,5,6,7] (bQ [0,2,4,6,8,10,12,15,17,18,21]) ?_
  refine ZBI ?_
  refine DL U U U (dQ (b:=b2) (l:=xD x (.slice a3 i c0)) (bL _ (.head _)) pE) U (ZBI ?_)
  refine DL U U U (dQ (v:= .slice (some ⟨bq,oq,none⟩) x.l.length x.c) (b:=b0) (l:=cWt x) (bL _ (.tail _ (.tail _ (.head _)))) (by rw[<-hxa];rfl)) U (ZBI ?_)
  refine DY U (fV (s:=2) i U U U U I) U (fZ U U U U (λw hw=>(Wz hrow aP w hw).part Oa hy 0 2 (v:=iJ y) U) U U ?_)
  refine DX U (fY (z:=[.int .i64 0,.int .i64 0]) (l:=iJ y) (ps:=[(0,.agg (iJ y).toArray)]) U U U U U U) U sC ?_
  rintro _ _ ⟨b3,rfl,rfl⟩
  refine DX U (lZ (A:=[(b3,_)]) (G:=G0) (R:=[(b2,J (xD x (.slice a3 i c0)) 71),(b1,J (xD ⟨0,0,false,false,none,0,[]⟩ (.slice none 0 0)) 71),(b0,J (cWt x) 61)]) (v:= .slice a3 i c0) (n:=i) (xs:=aM iJ (x.l.take i)) (m:=1) (T:=171) (s:=2) (by_:=16) (ys:=iJ y) U U U U hV0 (λw hw=> .row _ _ _ _ _ U (aI (b:=b3) (.head _) w hw)) U I I) U aY ?_
  rintro v0 _ ⟨G1,hV1,_,rfl⟩
  obtain⟨a28,cx1,rfl⟩:=hV1.slice
  refine ZBI ?_
  refine DZ U (bD (l':=xD x (.slice a28 (i+1) cx1)) (G1.length+1) U U U U U aFK (ah U) U) U aY ?_
  simp only[cw,cg,aDM]
  refine pT ?_
  exact⟨(i+1,a28,cx1,G1),⟨aR,hV1.as U (by show _=aM iJ (x.l.take (i+1));rw[Tb hy,xH])⟩,by show x.l.length-(i+1)<x.l.length-i;omega,.cons U .nil,bB,λ_ h=>h.sub (fj (.cons _ aJ) _)⟩
 refine ZAm ?_
 obtain rfl:i=x.l.length:=by omega
 rw[dj]at hV0
 refine ZBI ?_
 refine oG ?_
 refine W (bD (l':=xD x (.slice a3 x.l.length c0)) (G0.length+1) U U U U U aFK (ah U) U) U ?_
 simp only[cw,cg,aDM]
 refine ZAm ?_
 exact iM (λw hw=>eL U U U (aI (b:=b1) (l:=xD x (.slice a3 x.l.length c0)) (bL _ (.tail _ (.head _))) w hw)) (cz _ _) ⟨a3,c0,U,hV0⟩
def cOp(x:Wt):AA:=[.int .i64 0,.int .u16 0,.int .i64 0,.int .i64 0,.int .u16 0]++cWt x
def Hu(g:Gq)(x:Wt):Bool:=decide (x.l.length<=60/\g.prog.length<=2000/\g.plan.length<=20)
def aLy(g:Gq)(x:Wt)(b:Nat)(w:AI)(hrow:aK w b 0 (cOp x)):aG prog 10 [.agg (cGq g).toArray,.slice (Q_ b) 1 1] w [] (V_ (.bool (Hu g x))):=by
 refine aT func10 ?_
 refine Vq ?_
 refine ZBF λb0=>?_
 refine aH ?_
 refine mV ?_
 refine dK (σ:=Nat) [4,5,8,9,10,11,12,13,14,15,16,17,18,19] (λi=>[(8,.int .i64 i)]) (λ_=>[(b0,J (cGq g) 25)]) (λi=>i<=1/\(i=1->x.l.length<=60)) (λi=>1-i) 0 ?_ ?_ ?_ ?_
 ·exact⟨aq _,λh=>by cases h⟩
 ·exact .cons U .nil
 ·exact λ_ h=>h
 rintro i y2 ⟨hi,hl3⟩
 dsimp only at hi hl3⊢
 refine ZBV ?_
 refine KC (λq0 z0=>?_) (λq0 z0=>?_)
 ·refine bW ?_
  obtain rfl:i=0:=by omega
  refine ZA2 ?_
  refine RY (fV (s:=10) 0 U U U U I) U (ZAm ?_)
  refine W (aW U U (λw hw=>(bU hrow aP w hw) 9 _ U)) U (gK ?_)
  refine ZAm ?_
  refine KC (λq1 z1=>?_) (λq1 z1=>?_)
  ·refine ZBV ?_
   exact E0 U ⟨U,(M Value.bool (by unfold Hu;have h9:=df q1;exact(cu (λh=>aR)).symm))⟩
  refine ZAm ?_
  refine RW (v:=(.int .i64 ((1:Nat):Int))) U U U (ZAm ?_)
  exact⟨1,⟨be _,λ_=>by have h9:=dk q1;omega⟩,by show 1-1<1-0;omega,.cons U .nil,bB,λ_ h=>h⟩
 refine ZBV ?_
 refine gK ?_
 refine ZBI ?_
 refine KL (λq1 z1=>?_) (λq1 z1=>?_)
 ·refine ZAm ?_
  refine gK ?_
  refine ZAm ?_
  refine KL (λq2 z2=>?_) (λq2 z2=>?_)
  ·refine ZBI ?_
   refine gK ?_
   refine jN ?_
   refine ZBZ ?_
   obtain rfl:i=1:=by omega
   have hl9:=hl3 rfl
   exact E0 U ⟨U,(M Value.bool (by unfold Hu;have h8:=df q1;have h9:=df q2;exact(am I).symm))⟩
  refine ZCy ?_
  obtain rfl:i=1:=by omega
  have hl9:=hl3 rfl
  exact E0 U ⟨U,(M Value.bool (by unfold Hu;have h9:=dk q2;exact(cu (λh=>aR)).symm))⟩
 refine kD ?_
 obtain rfl:i=1:=by omega
 have hl9:=hl3 rfl
 exact E0 U ⟨U,(M Value.bool (by unfold Hu;have h9:=dk q1;exact(cu (λh=>aR)).symm))⟩
def Db.Ok.addD{d:Db}{g:Gx}{k n:Nat}(h:d.Ok g k n)(G:aF)(pv wv:AH):Db.Ok {d with pv:=pv,wv:=wv,D:=G++d.D} g k n:=
 ⟨h.le,h.q,h.m,h.hist,h.ring,Hw h.line (λ_ hx=>d8 _ hx),h.pk,⟨d8 _ h.first.1,h.first.2⟩,h.past.more (λ_ hx=>d8 _ hx),h.tms,
  (by obtain⟨GP,h8,h9⟩:=h.plan;exact⟨GP,h8,λx hx=>d8 _ (h9 x hx)⟩)⟩
def Db.Has.nil{d:Db}(hp:d.pv= .slice none 0 0)(hw:d.wv= .slice none 0 0):d.Has [] []:=
 ⟨aq _,aq _,⟨none,0,hp,λ_ _ _ _ _ _=>eX.nil _ _ _⟩,⟨none,0,hw,λ_ _ _ _ _ _=>eX.nil _ _ _⟩,λ_ h=>by cases h⟩
def aBA{α:Type}{c:α->AA}{x:α}{b:Nat}{sp:AA}{T:AJ}{w0 w:AI}{bs:AE}{H:aF}(hw:St w0 bs H w)(hm:(b,J (c x++sp) T)∈H):eX w c (Q_ b) [x]:=λ_=>
 ⟨b,0,rfl,by have h:=(aK.all (hw.holds _ hm)).left;show aK w b 0 (c x++aM c []);rw[show aM c ([]:List α)=[]from rfl,cn];exact h⟩
def Db.Has.addP{d:Db}{ws:List Wt}(h:d.Has [] ws)(p:Bp)(bp cp:Nat)(sp:AA)(T:AJ):
  ({d with pv:= .slice (Q_ bp) 1 cp,D:=[(bp,J (cBp p++sp) T)]++d.D}:Db).Has [p] ws:=by
 obtain⟨_,h2,_,⟨wa,wc,h5,h6⟩,h7⟩:=h
 exact⟨ah U,h2,⟨_,cp,U,λw0 w bs H9 hw hs=>aBA hw (hs _ (.head _))⟩,⟨wa,wc,h5,λw0 w bs H9 hw hs=>h6 w0 w bs H9 hw λx hx=>hs x (.tail _ hx)⟩,
  λx hx=>⟨(h7 x hx).1,λw0 w bs H9 hw hs=>(h7 x hx).2 w0 w bs H9 hw λy hy=>hs y (.tail _ hy)⟩⟩
def Db.Has.addW{d:Db}{ps:List Bp}(h:d.Has ps [])(x:Wt)(bp cp:Nat)(sp:AA)(T TC:AJ)(GC:aF)(hl:x.l.length<=1000000)(hV:bS TC 2 (.slice x.a x.l.length x.c) x.l.length (aM iJ x.l) GC):
  ({d with wv:= .slice (Q_ bp) 1 cp,D:=([(bp,J (cWt x++sp) T)]++GC)++d.D}:Db).Has ps [x]:=by
 obtain⟨h1,_,⟨pa,pc,h3,h4⟩,_,_⟩:=h
 refine⟨h1,ah U,⟨pa,pc,h3,λw0 w bs H9 hw hs=>h4 w0 w bs H9 hw λx hx=>hs x (.tail _ (d8 _ hx))⟩,⟨_,cp,U,λw0 w bs H9 hw hs=>aBA hw (hs _ (.head _))⟩,λy hy=>?_⟩
 rw[List.mem_singleton.1 hy]
 refine⟨hl,λw0 w bs H9 hw hs hpo=>?_⟩
 obtain⟨b,cap,sp2,h7,h8,h9,h10⟩:=hV.full I
 injection h7 with e1 e2 e3
 exact⟨b,0,e1,(aK.all (hw.holds _ (hs _ (.tail _ (gc _ (by rw[h8];exact .head _)))))).left⟩
def Gx.hit_kind(g:Gx)(ps:List Bp)(ws:List Wt)(j:Nat):(g.hit ps ws j).1=0\/(g.hit ps ws j).1=1\/(g.hit ps ws j).1=2:=by
 unfold Gx.hit vJ
 split
 ·exact .inr (.inl U)
 ·split
  ·exact .inr (.inr U)
  ·exact .inl U
section
variable {g:Gx}{ps:List Bp}{ws:List Wt}{n j:Nat}{y z:Int}{o:Bool}
def Gx.Stops.far(a:Nat)(ha:a<=n)(h:∀x,a<x->x<n->(g.hit ps ws x).1=0)(hs:g.Stops ps ws a (n-a) j y z o):j=n/\(y=3\/a<n):=by
 obtain⟨h1,h2,h3,h4⟩:=hs
 rcases h4 with⟨h5,h6,_⟩|⟨h5,h6,_⟩
 ·have h7:j=n:=by
   rcases du j n with h8|h8
   ·exact absurd (h j h5 h8) h6
   ·omega
  exact⟨h7,.inr I⟩
 ·exact⟨aR,.inl h6⟩
def Gx.last_far(x:Nat)(h1:g.lastN ps ws 0 (n-1)<x)(h2:x<n):(g.hit ps ws x).1=0:=Gx.lastN_none x h1 I I
def Gx.Stops.one{L:Nat}(h0:0<L)(h:(g.hit ps ws L).1≠0)(hs:g.Stops ps ws (L-1) 1 j y z o):j=L/\y=(g.hit ps ws L).1/\z=(g.hit ps ws L).2.1/\o=(g.hit ps ws L).2.2:=by
 obtain⟨h1,h2,h3,h4⟩:=hs
 rcases h4 with⟨h5,h6,h7,h8,h9⟩|⟨h5,h6,h7,h8,h9⟩
 ·obtain rfl:j=L:=by omega
  exact⟨U,h7,h8,h9⟩
 ·obtain rfl:j=L:=by omega
  exact absurd (h9 I) h
end
def aRq(b:Nat)(x y:Int)(hx:512<=x)(w:AI):aG prog 30 [P_ b,.agg #[.int .i64 x,.int .u16 y]] w [] (V_ (.int .i64 1)):=by
 refine aT func30 ?_
 refine ZAm ?_
 refine RX (eE (l:=[.int .i64 x,.int .u16 y]) U U) U (ZBF λb0=>?_)
 refine ZCy ?_
 refine iO ?_
 refine ZCy ?_
 refine wP ?_
 refine ZE1 ?_
 exact E0 U ⟨U,U⟩
def aPR(g:Gx)(a n:Nat):g.lastN [] [] a n=0:=by
 by_cases h:g.lastN [] [] a n=0
 ·exact h
 exact absurd U (Gx.lastN_hit h).1
def aQZ(d:Db)(g:Gx)(hg:g.Ok)(k n:Nat)(hf:d.Fine g k n)(hdl:d.done<90000000000000)(hpv:d.pv= .slice none 0 0)(hwv:d.wv= .slice none 0 0)(w:AI)(hst:St w ((d.H g k).map (·.1)) (d.H g k) w):aG prog 29 [P_ d.b] w ((d.H g k).map (·.1)) (λv H=>v= .tuple #[.agg (cSt 0 4 0 false).toArray,.int .i64 0]/\∃e,e.Ok g 0 n/\d.To e/\(d.done<=e.done/\e.done<=d.done+2000000)/\H=e.H g 0):=by
 have q0:=Tf d g hg k n hf hdl [] [] (Db.Has.nil hpv hwv) w hst
 rw[aPR]at q0
 exact q0
def aNq(d:Db)(g:Gx)(k n:Nat)(hd:d.Ok g k n)(hpv:d.pv= .slice none 0 0)(hwv:d.wv= .slice none 0 0)(p:Bp)(w:AI)(hst:St w ((d.H g k).map (·.1)) (d.H g k) w):aG prog 30 [P_ d.b,.agg (cBp p).toArray] w ((d.H g k).map (·.1)) (λv H=>∃(y:Int) (e:Db) (ps:List Bp),v= .int .i64 y/\e.Ok g k n/\e.Has ps []/\e.b=d.b/\e.asked=d.asked/\e.done=d.done/\e.wv=d.wv/\H=e.H g k):=by
 by_cases hx:p.bank<512
 ·obtain⟨b,hb,lb,mp,fa,fc,fs,cap,asked,done,q,m,ring,GH,ms,GL,l,c,pv,wv,tab,D⟩:=d
  dsimp only at hpv hwv
  subst hpv hwv
  have hst1:St w _ ([(b,J (cDb cap (pM q) (P_ hb) k (.slice (Q_ fa) (g.enc 0).length fc) lb mp (.slice none 0 0) (.slice none 0 0) asked done tab) 108)]++((mp,cY .u64 l c)::(hM q m++(GH++(GL++D))))) w:=hst
  refine aG.frame hst1 (ms2:=[b]) (λ_ hb=>kA (G:=[(b,_)]) hb) (aHC b cap (pM q) _ k _ lb mp _ asked done tab p.bank p.at_ hx w hst1.lentV) ?_
  rintro v H' w' ⟨rfl,bp,cp,sp,q0,q1,q2,rfl⟩ hw'
  have hd2:=hd.addD [(bp,J (cBp p++sp) 67)] (.slice (Q_ bp) 1 cp) (.slice none 0 0)
  exact⟨_,St.fl [[_],[_],[_],hM q m,GH,GL,D] [0,2,3,4,5,1,6] U hw',0,_,[p],U,hd2,(Db.Has.nil (d:=⟨b,hb,lb,mp,fa,fc,fs,cap,asked,done,q,m,ring,GH,ms,GL,l,c,.slice none 0 0,.slice none 0 0,tab,D⟩) U U).addP p bp cp sp 67,U,U,U,U,U⟩
 refine aG.frame (F:=[]) (G:=d.H g k) hst (λ_ hb=>by cases hb) (aRq d.b p.bank p.at_ I w) ?_
 rintro v H' w' ⟨rfl,rfl⟩ hw'
 exact⟨_,hw',1,d,[],U,hd,.nil hpv hwv,U,U,U,U,U⟩
def aO2(b:Nat)(x:Wt)(hx:badW x=true)(w:AI):aG prog 31 [P_ b,.agg (cWt x).toArray] w [] (V_ (.int .i64 1)):=by
 refine aT func31 ?_
 refine Tx ?_
 refine ZBF λb0=>?_
 refine ZCy ?_
 refine iO ?_
 refine ZA2 ?_
 refine mJ (σ:=Unit) [8,9,10,11,12,13,14,15,16,17,18,19,20,21,22,23,24,25,26,27,28,29] (λ_=>[(8,.bool true)]) (λ_=>[(b0,J (cWt x) 71)]) (λ_=>True) ?_ ?_
 ·refine aH ?_
  refine KL (λq0 z0=>?_) (λq0 z0=>?_)
  ·refine uV ?_
   exact⟨(),trivial,.cons (M Value.bool Mu) .nil,bB,λ_ h=>h⟩
  refine ZA2 ?_
  refine KL (λq1 z1=>?_) (λq1 z1=>?_)
  ·refine ZBV ?_
   refine KL (λq2 z2=>?_) (λq2 z2=>?_)
   ·refine ZCy ?_
    exact⟨(),trivial,.cons (M Value.bool Mu) .nil,bB,λ_ h=>h⟩
   refine ZAm ?_
   refine gK ?_
   refine ZBZ ?_
   exact⟨(),trivial,.cons (M Value.bool Mu) .nil,bB,λ_ h=>h⟩
  refine ZE1 ?_
  refine gK ?_
  refine ZBZ ?_
  exact⟨(),trivial,.cons (M Value.bool Mu) .nil,bB,λ_ h=>h⟩
 rintro _ y5 _
 refine aH ?_
 exact E0 U ⟨U,U⟩
def aJm(d:Db)(g:Gx)(k n:Nat)(hd:d.Ok g k n)(ps:List Bp)(hh:d.Has ps [])(hpv:d.pv=d.pv)(hwv:d.wv= .slice none 0 0)(x:Wt)(w:AI)(hst:St w ((d.H g k).map (·.1)) (d.H g k) w)(hS:uG w iJ x.a x.l)(hne:∀p,x.a=some p->p.block∉((d.H g k).map (·.1))):aG prog 31 [P_ d.b,.agg (cWt x).toArray] w ((d.H g k).map (·.1)) (λv H=>∃(y:Int) (e:Db) (ws:List Wt),v= .int .i64 y/\e.Ok g k n/\e.Has ps ws/\e.b=d.b/\e.asked=d.asked/\e.done=d.done/\H=e.H g k):=by
 by_cases hx:badW x=true
 ·refine aG.frame (F:=[]) (G:=d.H g k) hst (λ_ hb=>by cases hb) (aO2 d.b x hx w) ?_
  rintro v H' w' ⟨rfl,rfl⟩ hw'
  exact⟨_,hw',1,d,[],U,hd,hh,U,U,U,U⟩
 obtain⟨b,hb,lb,mp,fa,fc,fs,cap,asked,done,q,m,ring,GH,ms,GL,l,c,pv,wv,tab,D⟩:=d
 dsimp only at hpv hwv
 subst hwv
 have hl3:x.l.length<=1000000:=by
  have q0:=Bool.eq_false_iff.2 hx
  unfold badW at q0
  simp only[ib,ai]at q0
  omega
 have hst1:St w _ ([(b,J (cDb cap (pM q) (P_ hb) k (.slice (Q_ fa) (g.enc 0).length fc) lb mp pv (.slice none 0 0) asked done tab) 108)]++((mp,cY .u64 l c)::(hM q m++(GH++(GL++D))))) w:=hst
 refine aG.frame hst1 (ms2:=[b]) (λ_ hb=>kA (G:=[(b,_)]) hb) (aIn b cap (pM q) _ k _ lb mp _ asked done tab x (Bool.eq_false_iff.2 hx) w hst1.lentV hS (λp hp hb=>hne p hp (by rw[List.mem_singleton.1 hb];exact .head _))) ?_
 rintro v H' w' ⟨rfl,a2,c0,GC,bp,cp,sp,hV,q0,q1,q2,rfl⟩ hw'
 simp only[cw,cg]at hw'
 have hd2:=hd.addD ([(bp,J (cWt {x with a:=a2,c:=c0}++sp) 71)]++GC) pv (.slice (Q_ bp) 1 cp)
 exact⟨_,St.fl [[_],[_],GC,[_],hM q m,GH,GL,D] [0,3,4,5,6,1,2,7] U hw',0,_,[{x with a:=a2,c:=c0}],U,hd2,hh.addW {x with a:=a2,c:=c0} bp cp sp 71 171 GC hl3 hV,U,U,U,U⟩
def aL3{T n c:Nat}{a:AC}{l:List Cd}{G H:aF}{w0 w:AI}{ms:AE}(h:bS T 2 (.slice a n c) n (aM iJ l) G)(hw:St w0 ms H w)(hs:∀x∈G,x∈H):uG w iJ a l:=by
 obtain⟨a2,c0,q0,_,_,_,_,q1⟩:=h.slw Oa aD
 injection q0 with e1
 rw[e1];exact q1 w λx hx=>hw.holds x (hs x hx)
def aPu{T n c:Nat}{a:AC}{xs:AA}{G R:aF}{w0 w:AI}{ms:AE}(h:bS T 2 (.slice a n c) n xs G)(hw:St w0 ms (G++R) w)(p:Addr)(hp:a=some p):p.block∉R.map (·.1):=by
 rcases h.alt with⟨h1,_⟩|⟨b,cap,sp,h1,h2,h3,h4,h5⟩
 ·cases h1;cases hp
 cases h1;cases hp
 subst h2
 have hn:=hw.nodup
 rw[bz,dx]at hn
 exact λhb=>hn.2.2 _ (.head _) _ hb U
def aP9(d:Db)(g:Gx)(hg:g.Ok)(k n:Nat)(hf:d.Fine g k n)(hdl:d.done<90000000000000)(ps:List Bp)(ws:List Wt)(hh:d.Has ps ws)(w:AI)(hst:St w ((d.H g k).map (·.1)) (d.H g k) w):aG prog 29 [P_ d.b] w ((d.H g k).map (·.1)) (λv H=>∃(L:Nat) (y z:Int) (o:Bool),v= .tuple #[.agg (cSt (L:Nat) y z o).toArray,.int .i64 0]/\((L=0/\y=4)\/(0<L/\(g.hit ps ws L).1≠0/\y=(g.hit ps ws L).1/\z=(g.hit ps ws L).2.1/\o=(g.hit ps ws L).2.2/\(y=1\/y=2)))/\L<=k-1/\(∀x,L<x->x<k->(g.hit ps ws x).1=0)/\∃e,e.Ok g L n/\d.To e/\(d.done<=e.done/\e.done<=d.done+2000000)/\H=e.H g L):=
 (Tf d g hg k n hf hdl ps ws hh w hst).mono λv H ⟨hv,e,h1,h2,h3,h4⟩=>by
  have h5:=g.lastN_le ps ws 0 (k-1)
  refine⟨g.lastN ps ws 0 (k-1),_,_,_,hv,?_,aR,λx a b=>Gx.last_far x a b,e,h1,h2,h3,h4⟩
  by_cases h:g.lastN ps ws 0 (k-1)=0
  ·exact .inl ⟨h,ag h⟩
  have h6:=(Gx.lastN_hit h).1
  have h7:g.ry ps ws (g.lastN ps ws 0 (k-1))=(g.hit ps ws (g.lastN ps ws 0 (k-1))).1:=(ae h).trans (ae h)
  exact .inr ⟨Nat.pos_of_ne_zero h,h6,h7,ae h,ae h,by rw[h7];rcases Gx.hit_kind g ps ws (g.lastN ps ws 0 (k-1))with h8|h8;exact absurd h8 h6;exact h8⟩
set_option maxHeartbeats 2000000 in
def aLb(g:Gq)(cap:Int)(p:Bp)(x:Wt)(f:Int)(hf0:0<=f/\f<256)(w:AI)(hg:g.Ok w)(hX:eX w iJ x.a x.l):aG prog 6 [.agg (cGq g).toArray,.int .i64 cap,.agg (cBp p).toArray,.agg (cWt x).toArray,.int .u8 f] w [] (V_ (.bool true)):=by
 obtain⟨N,hN⟩:∃N:Nat,(N:Int)=f%100:=⟨(f%100).toNat,aR⟩
 have hN9:N<100:=by omega
 have hs0:0+min N 5000=N:=by omega
 have hmn:min N (max 1 (N+1)-1+5000)=N:=by omega
 have hmm:max (max 1 (N+1)) (N+1)=max 1 (N+1):=by omega
 refine aT func6 ?_
 refine Vq ?_
 refine ZBF λb0=>?_
 refine RX (eE (l:=cBp p) U U) U ?_
 rintro _ _ ⟨b1,rfl,rfl⟩
 refine RX (eE (l:=cWt x) U U) U ?_
 rintro _ _ ⟨b2,rfl,rfl⟩
 refine ZBV ?_
 refine aO K_ (aS X8) ?_
 refine ZAm ?_
 refine W (bJ U U U (aI (b:=b0) (l:=cGq g) aE)) U (W (bJ U U U (aI (b:=b2) (l:=cWt x) aE)) U (RY (qJ (l:=[.int .i64 0,.int .u16 0,.int .i64 0,.int .i64 0,.int .u16 0,.int .u16 x.lo,.int .u16 x.hi,.bool x.rd,.bool x.wr,.slice x.a x.l.length x.c]) (z:=[.int .i64 0,.int .u16 0,.int .i64 0,.int .i64 0,.int .u16 0,.int .u16 0,.int .u16 0,.bool false,.bool false,.slice none 0 0]) U aN U aN) U (RX (fY (z:=[.int .i64 0,.int .u16 0,.int .i64 0,.int .i64 0,.int .u16 0,.int .u16 0,.int .u16 0,.bool false,.bool false,.slice none 0 0]) (l:=[.int .i64 0,.int .u16 0,.int .i64 0,.int .i64 0,.int .u16 0,.int .u16 x.lo,.int .u16 x.hi,.bool x.rd,.bool x.wr,.slice x.a x.l.length x.c]) (ps:=[(0,.agg (List.toArray [.int .i64 0,.int .u16 0,.int .i64 0,.int .i64 0,.int .u16 0,.int .u16 x.lo,.int .u16 x.hi,.bool x.rd,.bool x.wr,.slice x.a x.l.length x.c]))]) U U U U aN aN) U ?_)))
 rintro _ _ ⟨b3,rfl,rfl⟩
 refine aO K_ (λw hw=>aLy g x b3 w (aI (b:=b3) (l:=cOp x) (.head _) w hw)) ?_
 refine ZA2 ?_
 refine KC (λq0 q0n=>?_) (λq0 q0n=>?_)
 ·refine ZAm ?_
  refine aO K_ (aS X8) ?_
  exact fD
 refine ZAm ?_
 have hf7:Hu g x=true:=by simpa using q0
 have hf8:=df hf7
 have hf9:aEW g=true:=am I
 refine ZAm ?_
 refine RX (eN K_ U (aS (aCJ cap))) U ?_
 rintro _ _ ⟨G0,⟨b4,tb,oT,rfl,hT0,rfl⟩,rfl⟩
 refine ZAm ?_
 refine mJ (σ:=Db×AC×Nat) [10,34,35,36,37,38,39,40] (λ_=>[]) (λs=>(b2,J (cWt x) 61)::(b1,J (cBp p) 58)::s.1.H (g.gx s.2.1 s.2.2) 0) (λs=>errH (pB g)=0/\s.1.Ok (g.gx s.2.1 s.2.2) 0 1/\s.1.b=b4/\s.1.cap=cap/\s.1.asked=0/\s.1.done=0/\s.1.pv= .slice none 0 0/\s.1.wv= .slice none 0 0) ?_ ?_
 ·refine ZBI ?_
  by_cases he9:errH (pB g)=0
  ·refine DR [2,3] (bQ [0,2,6,5,9,11,12]) ?_
   refine ZBI ?_
   refine Ua ?_
   refine Ua ?_
   refine DX U (eN K_ U (λw hw=>aD7 g w (hg.later hw) I)) U aBn ?_
   rintro _ _ ⟨_,⟨b5,rfl,rfl⟩,rfl⟩
   refine DX U (eN K_ U (λw hw=>aFk g w (hg.later hw) I)) U S4 ?_
   rintro _ _ ⟨Gp,⟨pa,pc,rfl,hP⟩,rfl⟩
   refine lE (H':=[(b2,J (cWt x) 61),(b1,J (cBp p) 58)]++((b4,J (vZ cap (P_ tb)) 108)::(b5,J ((pB g).map Z) 5)::(Gp++[(tb,oT)]))) (λ_ h=>St.fl [Gp,[(b5,J ((pB g).map Z) 5)],[(b4,J (vZ cap (P_ tb)) 108)],[(tb,oT)],[_],[(b2,J (cWt x) 61)],[(b1,J (cBp p) 58)],[_]] [5,6,2,1,0,3] U h) ?_
   refine DX U (cB (F:=[(b2,J (cWt x) 61),(b1,J (cBp p) 58)]) (A:=(b4,J (vZ cap (P_ tb)) 108)::(b5,J ((pB g).map Z) 5)::(Gp++[(tb,oT)])) K_ U (λw hw=>aFf (g.gx pa pc) (hg.gx he9 hf9 pa pc) b4 cap 0 0 _ _ _ _ _ _ _ _ _ b5 Gp [(tb,oT)] hP w (St.lentV hw))) U aY ?_
   rintro _ _ ⟨_,⟨rfl,e,hE,hb,hcap,hask,hdn,hpv,hwv,htab,hR,rfl⟩,rfl⟩
   refine vB false U U U U U ?_
   refine ZA2 ?_
   exact⟨(e,pa,pc),⟨he9,hE,hb,hcap,hask,hdn,hpv,hwv⟩,.nil,bB,λ_ h=>h⟩
  refine DR [2,3] (bQ [0,2,6,5,9,11,12]) ?_
  refine ZBI ?_
  refine Ua ?_
  refine Ua ?_
  refine DX U (eN K_ U (λw hw=>aD7 g w (hg.later hw) I)) U aBn ?_
  rintro _ _ ⟨_,⟨b5,rfl,rfl⟩,rfl⟩
  refine DX U (eN K_ U (λw hw=>aFk g w (hg.later hw) I)) U S4 ?_
  rintro _ _ ⟨Gp,⟨pa,pc,rfl,hP⟩,rfl⟩
  refine lE (H':=(b4,J (vZ cap (P_ tb)) 108)::[(b5,J ((pB g).map Z) 5)]) (λ_ h=>St.fl [Gp,[(b5,J ((pB g).map Z) 5)],[(b4,J (vZ cap (P_ tb)) 108)],[_,_,_,_,_]] [2,1] U h) ?_
  refine DX U (gZ (F:=[]) (A:=[(b4,J (vZ cap (P_ tb)) 108)]) (G:=[(b5,J ((pB g).map Z) 5)]) K_ U (λw q0 h2=>aJl (pB g) (by rw[Yv];decide) (aDC hg) he9 pa g.plan.length pc b4 cap 0 0 _ _ _ _ _ _ _ _ _ b5 [] w (aI (b:=b5) (.tail _ (.head _)) w h2) (St.notin (A:=[(b4,J (vZ cap (P_ tb)) 108)]) h2 (x:=(b5,J ((pB g).map Z) 5)) (.head _)) q0)) U aY (ZBB ?_)
  refine vB true U U U U (bne_iff_ne.2 he9) ?_
  refine ZCy ?_
  exact E0 U ⟨U,U⟩
 rintro⟨e,pa,pc⟩ y4 ⟨he9,hE,hb,hcap,hask,hdn,hpv,hwv⟩
 dsimp only at hE hb hcap hask hdn hpv hwv⊢
 subst hb
 have hgx:=hg.gx he9 hf9 pa pc
 generalize g.gx pa pc=gx at*
 have hF:e.Fine gx 0 1:=⟨hE,iH,iH,by rw[hdn];decide⟩
 refine ZA2 ?_
 refine RW (v:=(.int .u64 f)) U U (Hz I I) (RW (v:=(.int .u64 (N:Int))) U U (M _ ((cy I).trans hN.symm)) (aH ?_))
 refine RX (cB (F:=[(b2,J (cWt x) 61),(b1,J (cBp p) 58)]) (A:=Db.H e gx 0) K_ U (λw hw=>(by have h9:=W4 e gx hgx 0 1 hF N I w (St.lentV hw);rw[hs0]at h9;exact h9))) U ?_
 rintro _ _ ⟨_,⟨rfl,e1,hG0⟩,rfl⟩
 refine ZAa ?_
 have hF1:=hF.goes hG0 I I I
 obtain⟨hE1,hT1,hd1,rfl⟩:=hG0
 refine ZBZ ?_
 refine RX (cB (F:=[(b2,J (cWt x) 61),(b1,J (cBp p) 58)]) (A:=Db.H e1 gx N) K_ U (λw hw=>(by have h9:=aQZ e1 gx hgx N (max 1 (N+1)) hF1 I (hT1.pv.trans hpv) (hT1.wv.trans hwv) w (St.lentV hw);rw[hT1.b]at h9;exact h9))) U ?_
 rintro _ _ ⟨_,⟨rfl,e2,hE2,hT2,hd2,rfl⟩,rfl⟩
 refine ZAa ?_
 have hF2:e2.Fine gx 0 (max 1 (N+1)):=⟨hE2,aR,aR,aR⟩
 have hT12:=hT1.trans hT2
 refine ZA2 ?_
 refine ZB9 ?_
 rintro _ _ ⟨b5,rfl,rfl⟩
 refine W (bC (l':=cSt 0 4 0 false) 0) U (nI ?_)
 refine ZCy ?_
 refine iO ?_
 refine ZA2 ?_
 refine iO ?_
 refine ZA2 ?_
 refine iO ?_
 refine ZE1 ?_
 refine RX (cB (F:=[(b5,J (cSt 0 4 0 false) 38),(b2,J (cWt x) 61),(b1,J (cBp p) 58)]) (A:=Db.H e2 gx 0) K_ U (λw hw=>(by have h9:=aEe e2 gx hgx 0 (max 1 (N+1)) hF2 N I w (St.lentV hw);rw[hmn,hmm,hT12.b]at h9;exact h9))) U ?_
 rintro _ _ ⟨_,⟨rfl,e3,hG1⟩,rfl⟩
 refine ZAa ?_
 have hs3:=Jn hE2 I N
 have hF3:=hF2.goes hG1 I I I
 obtain⟨hE3,hT3,hd3,rfl⟩:=hG1
 have hT13:=hT12.trans hT3
 refine ZBZ ?_
 refine W (bJ U U U (aI (b:=b1) (l:=cBp p) (.tail _ (.tail _ (.head _))))) U (RX (cB (F:=[(b5,J (cSt 0 4 0 false) 38),(b2,J (cWt x) 61),(b1,J (cBp p) 58)]) (A:=Db.H e3 gx N) K_ U (λw hw=>(by have h9:=aNq e3 gx N (max 1 (N+1)) hE3 (hT13.pv.trans hpv) (hT13.wv.trans hwv) p w (St.lentV hw);rw[hT13.b]at h9;exact h9))) U ?_)
 rintro _ _ ⟨_,⟨y4,e4,ps,rfl,hE4,hH4,hb4,ha4,hd4,hw4,rfl⟩,rfl⟩
 refine ZAa ?_
 refine ZBZ ?_
 refine W (bJ U U U (aI (b:=b2) (l:=cWt x) (.tail _ (.head _)))) U (RX (eN K_ U (λw hw=>aHm x w I (hX.later0 hw))) U ?_)
 rintro _ _ ⟨G1,⟨a2,c0,rfl,hV0⟩,rfl⟩
 refine eA (H':=[(b5,J (cSt 0 4 0 false) 38),(b2,J (cWt x) 61),(b1,J (cBp p) 58)]++(G1++Db.H e4 gx N)) (λ_ h=>St.fl [G1,[(b5,J (cSt 0 4 0 false) 38),(b2,J (cWt x) 61),(b1,J (cBp p) 58)],Db.H e4 gx N] [1,0,2] U h) ?_
 refine eA (H':=([(b5,J (cSt 0 4 0 false) 38),(b2,J (cWt x) 61),(b1,J (cBp p) 58)]++G1)++Db.H e4 gx N) (λ_ h=>by rw[eG];exact h) ?_
 refine RX (cB (F:=[(b5,J (cSt 0 4 0 false) 38),(b2,J (cWt x) 61),(b1,J (cBp p) 58)]++G1) (A:=Db.H e4 gx N) K_ U (λw hw=>(by have h9:=aJm e4 gx N (max 1 (N+1)) hE4 ps hH4 rfl (hw4.trans (hT13.wv.trans hwv)) {x with a:=a2,c:=c0} w (St.lentV hw) (aL3 hV0 hw (λy hy=>bL _ (bL _ hy))) (aPu hV0 (R:=Db.H e4 gx N) (St.fl [Db.H e4 gx N,[(b5,J (cSt 0 4 0 false) 38),(b2,J (cWt x) 61),(b1,J (cBp p) 58)],G1] [2,0] rfl hw));rw[hb4]at h9;exact h9))) U ?_
 rintro _ _ ⟨_,⟨y5,e5,ws,rfl,hE5,hH5,hb5,ha5,hd5,rfl⟩,rfl⟩
 refine eA (H':=[(b5,J (cSt 0 4 0 false) 38),(b2,J (cWt x) 61),(b1,J (cBp p) 58)]++Db.H e5 gx N) (λ_ h=>St.fl [[(b5,J (cSt 0 4 0 false) 38),(b2,J (cWt x) 61),(b1,J (cBp p) 58)],G1,Db.H e5 gx N] [0,2] U h) ?_
 have hb6:e5.b=e.b:=hb5
 refine ZBZ ?_
 have hF5:e5.Fine gx N (max 1 (N+1)):=⟨hE5,aR,aR,aR⟩
 refine RX (cB (F:=[(b5,J (cSt 0 4 0 false) 38),(b2,J (cWt x) 61),(b1,J (cBp p) 58)]) (A:=Db.H e5 gx N) K_ U (λw hw=>(by have h9:=aP9 e5 gx hgx N (max 1 (N+1)) hF5 I ps ws hH5 w (St.lentV hw);rw[hb6]at h9;exact h9))) U ?_
 rintro _ _ ⟨_,⟨L,y6,z6,o6,rfl,hLy,hL0,hno,e6,hE6,hT4,hd6,rfl⟩,rfl⟩
 refine ZAa ?_
 have hF6:e6.Fine gx L (max 1 (N+1)):=⟨hE6,aR,aR,aR⟩
 have hb7:e6.b=e.b:=hT4.b.trans hb6
 have ha6:e6.asked=0:=hT4.asked.trans (ha5.trans (ha4.trans (hT13.asked.trans hask)))
 have hH6:=hH5.to hT4
 refine ZA2 ?_
 refine W (bC (l':=cSt ((L:Nat):Int) y6 z6 o6) 0) U (nI ?_)
 refine ZA2 ?_
 rcases hLy with⟨rfl,rfl⟩|⟨hL1,hL2,hL3,hL4,hL5,hk6⟩
 ·refine ZA2 ?_
  refine jN ?_
  refine aH ?_
  refine RX (cB (F:=[(b5,J (cSt ((0:Nat):Int) 4 z6 o6) 38),(b2,J (cWt x) 61),(b1,J (cBp p) 58)]) (A:=Db.H e6 gx 0) K_ U (λw hw=>(by have h9:=J3 e6 gx hgx 0 (max 1 (N+1)) hF6 N I ps ws hH6 ha6 w (St.lentV hw);rw[hb7]at h9;exact h9))) U ?_
  rintro _ _ ⟨_,⟨j,y7,z7,o7,rfl,hS,e7,hG2⟩,rfl⟩
  refine ZAa ?_
  have hS9:gx.Stops ps ws 0 (N-0) j y7 z7 o7:=by rw[show min N 5000=N-0 by omega]at hS;exact hS
  obtain⟨hjN,hy7⟩:=Gx.Stops.far 0 (aq _) hno hS9
  obtain rfl:N=j:=hjN.symm
  obtain⟨hE7,hT5,hd7,rfl⟩:=hG2
  have hb8:e7.b=e.b:=hT5.b.trans hb7
  refine ZA2 ?_
  refine ZB9 ?_
  rintro _ _ ⟨b6,rfl,rfl⟩
  refine W (bC (l':=cSt ((N:Nat):Int) y7 z7 o7) 0) U (nI ?_)
  refine ZA2 ?_
  by_cases hy3:y7=3
  ·refine ZAS ?_
   refine vB true U U U U U ?_
   refine ZBZ ?_
   refine DZ U (cZ K_ U (λw hw=>aDD)) U gV (Um ?_)
   refine ZCy ?_
   refine DY U (tD U U) U (vB true U U U U (am I) ?_)
   refine ZBZ ?_
   refine vB true U U U U (beq_iff_eq.2 hy3) ?_
   refine ZBZ ?_
   refine Um ?_
   refine kV ?_
   exact E0 U ⟨U,U⟩
  refine ZAS ?_
  refine vB true U U U U U ?_
  refine ZBZ ?_
  refine DZ U (cZ K_ U (λw hw=>aDD)) U gV (Um ?_)
  refine ZCy ?_
  refine DY U (tD U U) U (vB true U U U U (am I) ?_)
  refine ZBZ ?_
  refine vB false U U U U (beq_eq_false_iff_ne.2 hy3) ?_
  refine cL ?_
  refine Um ?_
  refine ZAm ?_
  refine vB true U U U U (am I) ?_
  refine aH ?_
  exact E0 U ⟨U,U⟩
 refine ZA2 ?_
 refine xJ ?_
 refine mJ (σ:=Unit) [128,129,130,131,132,133,134,135,136,137,138,139,140,141,142,143,144,145,146] (λ_=>[(146,.bool false)]) (λ_=>(b5,J (cSt ((L:Nat):Int) y6 z6 o6) 38)::(b2,J (cWt x) 61)::(b1,J (cBp p) 58)::e6.H gx L) (λ_=>True) ?_ ?_
 ·rcases hk6 with hk6|hk6
  ·refine ZBZ ?_
   refine qW ?_
   refine ZA2 ?_
   refine qW ?_
   refine ZBZ ?_
   refine fX false U U U (bne_eq_false_iff_eq.2 hk6) ?_
   refine ZCy ?_
   exact⟨(),trivial,.cons U .nil,bB,λ_ h=>h⟩
  refine ZBZ ?_
  refine qW ?_
  refine ZA2 ?_
  refine qW ?_
  refine ZBZ ?_
  refine fX true U U U (bne_iff_ne.2 I) ?_
  refine ZA2 ?_
  refine fX false U U U (bne_eq_false_iff_eq.2 hk6) ?_
  refine ZA2 ?_
  exact⟨(),trivial,.cons U .nil,bB,λ_ h=>h⟩
 rintro _ y18 _
 refine ZE1 ?_
 refine RW (v:=(.int .u64 ((N-L:Nat):Int))) U U (M _ ((qB I I).trans I)) (RX (cB (F:=[(b5,J (cSt ((L:Nat):Int) y6 z6 o6) 38),(b2,J (cWt x) 61),(b1,J (cBp p) 58)]) (A:=Db.H e6 gx L) K_ U (λw hw=>(by have h9:=J3 e6 gx hgx L (max 1 (N+1)) hF6 (N-L) I ps ws hH6 ha6 w (St.lentV hw);rw[hb7]at h9;exact h9))) U ?_)
 rintro _ _ ⟨_,⟨j,y7,z7,o7,rfl,hS,e7,hG2⟩,rfl⟩
 refine ZAa ?_
 have hS9:gx.Stops ps ws L (N-L) j y7 z7 o7:=by rw[show min (N-L) 5000=N-L by omega]at hS;exact hS
 obtain⟨hjN,hy7⟩:=Gx.Stops.far L I hno hS9
 obtain rfl:N=j:=hjN.symm
 rw[hmm]at hG2
 have hF7:=hF6.goes hG2 I I I
 obtain⟨hE7,hT5,hd7,rfl⟩:=hG2
 have hb8:e7.b=e.b:=hT5.b.trans hb7
 have hml:min (L-1) ((max 1 (N+1))-1+5000)=L-1:=by omega
 have hml2:max (max 1 (N+1)) (L-1+1)=(max 1 (N+1)):=by omega
 refine ZA2 ?_
 refine ZB9 ?_
 rintro _ _ ⟨b6,rfl,rfl⟩
 refine W (bC (l':=cSt ((N:Nat):Int) y7 z7 o7) 0) U (nI ?_)
 refine ZCy ?_
 refine RW (v:=(.int .u64 ((L-1:Nat):Int))) U U (M _ ((qB I I).trans I)) (RX (cB (F:=[(b6,J (cSt ((N:Nat):Int) y7 z7 o7) 38),(b5,J (cSt ((L:Nat):Int) y6 z6 o6) 38),(b2,J (cWt x) 61),(b1,J (cBp p) 58)]) (A:=Db.H e7 gx N) K_ U (λw hw=>(by have h9:=aEe e7 gx hgx N (max 1 (N+1)) hF7 (L-1) I w (St.lentV hw);rw[hml,hml2,hb8]at h9;exact h9))) U ?_)
 rintro _ _ ⟨_,⟨rfl,e8,hG3⟩,rfl⟩
 refine ZAa ?_
 have hs8:=Jn hE7 I (L-1)
 have hF8:=hF7.goes hG3 I I I
 obtain⟨hE8,hT6,hd8,rfl⟩:=hG3
 have hb9:e8.b=e.b:=hT6.b.trans hb8
 have ha8:e8.asked=0:=hT6.asked.trans (hT5.asked.trans ha6)
 have hH8:=(hH6.to hT5).to hT6
 refine ZBZ ?_
 refine RX (cB (F:=[(b6,J (cSt ((N:Nat):Int) y7 z7 o7) 38),(b5,J (cSt ((L:Nat):Int) y6 z6 o6) 38),(b2,J (cWt x) 61),(b1,J (cBp p) 58)]) (A:=Db.H e8 gx (L-1)) K_ U (λw hw=>(by have h9:=J3 e8 gx hgx (L-1) (max 1 (N+1)) hF8 1 I ps ws hH8 ha8 w (St.lentV hw);rw[hb9]at h9;exact h9))) U ?_
 rintro _ _ ⟨_,⟨j,y8,z8,o8,rfl,hS8,e9,hG4⟩,rfl⟩
 refine ZAa ?_
 have hS10:gx.Stops ps ws (L-1) 1 j y8 z8 o8:=hS8
 obtain⟨hj8,hy8,hz8,ho8⟩:=Gx.Stops.one hL1 hL2 hS10
 obtain rfl:L=j:=hj8.symm
 obtain rfl:y6=y8:=hL3.trans hy8.symm
 obtain rfl:z6=z8:=hL4.trans hz8.symm
 obtain rfl:o6=o8:=hL5.trans ho8.symm
 obtain⟨hE9,hT7,hd9,rfl⟩:=hG4
 refine ZA2 ?_
 refine ZB9 ?_
 rintro _ _ ⟨b7,rfl,rfl⟩
 refine W (bC (l':=cSt ((L:Nat):Int) y6 z6 o6) 0) U (nI ?_)
 refine ZCy ?_
 refine fX true U U U (beq_iff_eq.2 U) ?_
 refine ZBI ?_
 refine W (bJ U U U (aI (b:=b7) (l:=cSt ((L:Nat):Int) y6 z6 o6) (.head _))) U (W (bJ U U U (aI (b:=b5) (l:=cSt ((L:Nat):Int) y6 z6 o6) (.tail _ (.tail _ (.head _))))) U (aEJ (ks:=[.int .u64,.int .i64,.int .i64,.bool]) U U aN aN U U U U (b:=true) (by simp[pV,Lj,cSt]) ?_))
 exact pF
end Go.Proofs.YtacejanlmhbddaaGreat
