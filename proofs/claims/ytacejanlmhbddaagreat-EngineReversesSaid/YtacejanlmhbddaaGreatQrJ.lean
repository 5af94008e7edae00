/- Parts. -/
import Derived.Test.YtacejanlmhbddaaGreatQrI
set_option maxRecDepth 100000
set_option maxHeartbeats 1000000
set_option linter.all false
namespace Go.Proofs.YtacejanlmhbddaaGreat
open Go Go.VV Go.Proofs Go.RowKit Go.Proofs.Tryz
set_option maxHeartbeats 4000000 in
def aLT(A:Ad)(aa:AC)(an ac:Nat)(m:Mm)(h:m.Wf)(hr:m.cpu.r.Ok)(hrl:m.ram.length<=200000)(hon:fJ [(.slice aa an ac),A.plan,A.tab]=true)(a:AC)(c:Nat)(l:AB)(hby:bF l)(hlm:l.length<=900000)(hlc:l.length<=c)(ms:AE)(w:AI)(hst:St w ms [(A.ub,J (cU m.u) 247),(A.mb,J (cMm A (.slice aa an ac) m) 156),(A.rb,J (m.ram.map Z++A.rs) 5)] w)(hB:Ns w .u8 a l)(hpn:∀p,a=some p->p.block∉ms):aG prog 111 [P_ A.mb,.slice a l.length c] w ms (λv H=>v= .int .i64 (sT m l)/\∃A' aa' an' ac',Ad.Kept A A'/\H=[(A.ub,J (cU (uK m l).u) 247),(A.mb,J (cMm A' (.slice aa' an' ac') (uK m l)) 156),(A'.rb,J ((uK m l).ram.map Z++A'.rs) 5)]):=by
 have hea:=yJ h
 have hon0:fJ [.slice none 0 0,A.plan,A.tab]=true:=hon
 refine cG func111 hst ?_
 refine uS ?_
 refine aH ?_
 refine RX (cB (F:=[(A.ub,J (cU m.u) 247)]) (A:=[(A.mb,J (cMm A (.slice aa an ac) m) 156),(A.rb,J (m.ram.map Z++A.rs) 5)]) (R:=λv H=>∃b c sp,v= .slice (Q_ b) (fQ m).length c/\(fQ m).length<=c/\H=(b,J ((fQ m).map Z++sp) 5)::[(A.mb,J (cMm A (.slice aa an ac) m) 156),(A.rb,J (m.ram.map Z++A.rs) 5)]) K_ U (λw hw=>Ye A (.slice aa an ac) m h hr hrl _ w (St.lentV hw) (aI (b:=A.ub) (bL _ (.head _)) w hw) (St.apartT (G:=[]) hw))) U ?_
 rintro _ _ ⟨_,⟨b0,c0,sp0,rfl,hle12,rfl⟩,rfl⟩
 refine eA (H':=[(A.ub,J (cU m.u) 247),(A.mb,J (cMm A (.slice aa an ac) m) 156),(A.rb,J (m.ram.map Z++A.rs) 5)]) (λw hw=>hw.sub (.cons_cons _ (.cons _ aJ))) ?_
 refine gK ?_
 refine aH ?_
 refine mV ?_
 refine KC (λq0 z0=>?_) (λq0 z0=>?_)
 ·refine ZBV ?_
  have e9:=aPN (m:=m) (l:=l) I
  exact EV U aJ ⟨M _ e9,A,aa,an,ac,⟨U,U,U,U,U,U,U⟩,by rw[Yp e9 aD]⟩
 refine ZAm ?_
 have hln:l.length=(fQ m).length:=by omega
 refine ZAm ?_
 refine RX (eN K_ U (λw hw=>aLk A (.slice aa an ac) m h hrl hon w (aI (b:=A.mb) (.tail _ (.head _)) w hw) (aI (b:=A.ub) (.head _) w hw) (aK.left (aI (b:=A.rb) (.tail _ (.tail _ (.head _))) w hw)))) U ?_
 rintro _ _ ⟨_,⟨b1,b0,bc,cc,sp,rfl,hcc,rfl⟩,rfl⟩
 refine eC ?_
 refine ZBV ?_
 obtain⟨ba,oa,rfl,hrowa⟩:=hB.row (i:=0) I
 refine RX (eN K_ U (λw hw=>zQ ba oa c l I w (hB.later hpn hw))) U ?_
 rintro _ _ ⟨_,⟨b2,cx1,sp1,rfl,hc0,rfl⟩,rfl⟩
 refine eC ?_
 refine RY (qJ (l:=[(.slice (Q_ b2) l.length cx1),.bool true]) U U U U) U (RX (eE (l:=[(.slice (Q_ b2) l.length cx1),.bool true]) U U) U ?_)
 rintro _ _ ⟨b3,rfl,rfl⟩
 refine ZA2 ?_
 refine kO (L':=[(b0,J (cU (kZ jV (fM m.u))) 247),(A.ub,J (cU m.u) 247),(A.mb,J (cMm A (.slice aa an ac) m) 156),(A.rb,J (m.ram.map Z++A.rs) 5)]++((b3,J [(.slice (Q_ b2) l.length cx1),.bool true] 123)::(([(b2,J (l.map Z++sp1) 5)]++[(b1,J (cMm ({A with mb:=b1,ub:=b0,rb:=bc,rc:=cc,rs:=sp}:Ad) (.slice none 0 0) m) 156)])++[(bc,J (m.ram.map Z++sp) 5)]))) (λw hw=>St.perm_ix 8 [2,5,6,7,0,1,4,3] aD U U hw) ?_
 refine ZA2 ?_
 refine RX (cB (F:=[(b0,J (cU (kZ jV (fM m.u))) 247),(A.ub,J (cU m.u) 247),(A.mb,J (cMm A (.slice aa an ac) m) 156),(A.rb,J (m.ram.map Z++A.rs) 5)]) (A:=(b3,J [(.slice (Q_ b2) l.length cx1),.bool true] 123)::(([(b2,J (l.map Z++sp1) 5)]++[(b1,J (cMm ({A with mb:=b1,ub:=b0,rb:=bc,rc:=cc,rs:=sp}:Ad) (.slice none 0 0) m) 156)])++[(bc,J (m.ram.map Z++sp) 5)])) (R:=λv H=>v= .tuple #[]/\∃va' Gl',LineB 5 true va' (l.drop (8482+m.ram.length)) Gl'/\H=(b3,J [va',.bool true] 123)::((Gl'++[(b1,J (cMm ({A with mb:=b1,ub:=b0,rb:=bc,rc:=cc,rs:=sp}:Ad) (.slice none 0 0) (fH m l)) 156)])++[(bc,J ((fH m l).ram.map Z++sp) 5)])) K_ U (λw hw=>(aAk true b3 b1 bc m.ram.length cc hrl (.slice (Q_ b2) l.length cx1) [(b2,J (l.map Z++sp1) 5)] (cMm ({A with mb:=b1,ub:=b0,rb:=bc,rc:=cc,rs:=sp}:Ad) (.slice none 0 0) m,l) ⟨b2,0,cx1,_,U,hc0,U,λj v hv=>by rw[bj];exact kM hv⟩ ⟨aBS h hr,⟨hby,λ_=>(show 8482+m.ram.length<=l.length by omega),(show l.length+(8482+m.ram.length)<=1000000 by omega)⟩⟩ (m.ram.map Z++sp) (aCt h sp) (get_mid (A:=({A with mb:=b1,ub:=b0,rb:=bc,rc:=cc,rs:=sp}:Ad)) h.ln (j:=15) U) _ w (St.lentV hw)).mono λv H ⟨e1,va',Gl',e2,e3⟩=>⟨e1,va',Gl',(by rw[aBD l hby h.ln I,aCM sp I]at e2;exact e2),(by rw[aBD l hby h.ln I,aCM sp I,aHQ h hln]at e3;exact e3)⟩)) U ?_
 rintro _ _ ⟨_,⟨rfl,va0,G0,hV0,rfl⟩,rfl⟩
 obtain⟨cb,off,c2,all,rfl,hle23,rfl,hall⟩:=hV0.read
 refine eA (H':=[(b0,J (cU (kZ jV (fM m.u))) 247),(A.ub,J (cU m.u) 247),(A.mb,J (cMm A (.slice aa an ac) m) 156),(A.rb,J (m.ram.map Z++A.rs) 5),(b3,J [(.slice (some ⟨cb,off,none⟩) (l.drop (8482+m.ram.length)).length c2),.bool true] 123),(cb,J all 5),(b1,J (cMm ({A with mb:=b1,ub:=b0,rb:=bc,rc:=cc,rs:=sp}:Ad) (.slice none 0 0) (fH m l)) 156),(bc,J ((fH m l).ram.map Z++sp) 5)]) (λ_ h=>h) ?_
 refine ZA2 ?_
 refine DR [4,5,6,7] (bQ [0,2,4,6,8,10,12,14,17,18,20,22,26,25,29,30,32]) ?_
 refine ZA2 ?_
 have hln9:=(aBd h hby (show 8482<=l.length by omega)).ln
 have hln1:dV (fH m l):=⟨hln9.bd,hln9.work,hln9.high⟩
 refine DL U U U (dQ (v:=P_ b0) aE (get_mid (A:=({A with mb:=b1,ub:=b0,rb:=bc,rc:=cc,rs:=sp}:Ad)) (m:=(fH m l)) (acc:=(.slice none 0 0)) hln1 (j:=14) U)) U (ZA2 ?_)
 refine DL U U U (dQ (v:=(.slice (some ⟨cb,off,none⟩) (l.drop (8482+m.ram.length)).length c2)) aE U) U (DX U (gZ (F:=[]) (A:=[(b0,J (cU (kZ jV (fM m.u))) 247)]) (G:=[(A.ub,J (cU m.u) 247),(A.mb,J (cMm A (.slice aa an ac) m) 156),(A.rb,J (m.ram.map Z++A.rs) 5),(b3,J [(.slice (some ⟨cb,off,none⟩) (l.drop (8482+m.ram.length)).length c2),.bool true] 123),(cb,J all 5),(b1,J (cMm ({A with mb:=b1,ub:=b0,rb:=bc,rc:=cc,rs:=sp}:Ad) (.slice none 0 0) (fH m l)) 156),(bc,J ((fH m l).ram.map Z++sp) 5)]) (R:=λv H=>v= .int .i64 (lU (l.drop (8482+m.ram.length)))/\H=[(b0,J (cU (kZ (kZ jV (fM m.u)) (l.drop (8482+m.ram.length)))) 247)]) K_ U (λw hw hw2=>Zc b0 (kZ jV (fM m.u)) (aOE Oj (enc_byts h.u.wf)) w hw (some ⟨cb,off,none⟩) c2 (l.drop (8482+m.ram.length)) (vY hby _) hle23 (Ns.of (aAN (aI (b:=cb) (bL _ (.tail _ (.tail _ (.tail _ (.tail _ (.head _)))))) w hw2) hall)) (λp hp=>by cases hp;exact λe=>St.apartT (A:=[(b0,J (cU (kZ jV (fM m.u))) 247)]) (x:=(cb,J all 5)) (G:=_) (St.perm_ix 8 [0,5,1,2,3,4,6,7] aD rfl rfl hw2) (show _∈[_]from List.mem_singleton.2 e)))) U aY (ZBB ?_))
 refine lE (H':=[(b0,J (cU (kZ (kZ jV (fM m.u)) (l.drop (8482+m.ram.length)))) 247),(A.ub,J (cU m.u) 247),(A.mb,J (cMm A (.slice aa an ac) m) 156),(A.rb,J (m.ram.map Z++A.rs) 5),(b3,J [(.slice (some ⟨cb,off,none⟩) (l.drop (8482+m.ram.length)).length c2),.bool true] 123),(cb,J all 5),(b1,J (cMm ({A with mb:=b1,ub:=b0,rb:=bc,rc:=cc,rs:=sp}:Ad) (.slice none 0 0) (fH m l)) 156),(bc,J ((fH m l).ram.map Z++sp) 5)]) (λ_ h=>h) ?_
 refine ZBI ?_
 refine KE (λq1 z1=>?_) (λq1 z1=>?_)
 ·refine ZAm ?_
  refine Hy U U U ?_
  refine Hy U U U ?_
  refine bW ?_
  have e9:=aQM (m:=m) (l:=l) hln mY
  exact EV U (.cons _ (.cons_cons _ (.cons_cons _ (.cons_cons _ (ed _))))) ⟨M _ e9,A,aa,an,ac,⟨U,U,U,U,U,U,U⟩,by rw[Yp e9 aD]⟩
 refine ZAm ?_
 have hd0:lU (l.drop (8482+m.ram.length))=0:=by simpa using q1
 have e39:kZ (kZ jV (fM m.u)) (l.drop (8482+m.ram.length))=(fH m l).u:=K7 hd0.symm
 rw[e39]
 have hw1:(fH m l).Wf:=aNI h hby hln hd0
 have hr1:(fH m l).cpu.r.Ok:=aRR hby
 have hl1:(fH m l).ram.length=m.ram.length:=Xp h hln
 refine DX U (cB (F:=[(b0,J (cU (fH m l).u) 247),(A.ub,J (cU m.u) 247),(A.mb,J (cMm A (.slice aa an ac) m) 156),(A.rb,J (m.ram.map Z++A.rs) 5),(b3,J [(.slice (some ⟨cb,off,none⟩) (l.drop (8482+m.ram.length)).length c2),.bool true] 123),(cb,J all 5)]) (A:=[(b1,J (cMm ({A with mb:=b1,ub:=b0,rb:=bc,rc:=cc,rs:=sp}:Ad) (.slice none 0 0) (fH m l)) 156),(bc,J ((fH m l).ram.map Z++sp) 5)]) (R:=λv H=>∃b9 c9 s9,v= .slice (Q_ b9) (fQ (fH m l)).length c9/\(fQ (fH m l)).length<=c9/\H=(b9,J ((fQ (fH m l)).map Z++s9) 5)::[(b1,J (cMm ({A with mb:=b1,ub:=b0,rb:=bc,rc:=cc,rs:=sp}:Ad) (.slice none 0 0) (fH m l)) 156),(bc,J ((fH m l).ram.map Z++sp) 5)]) K_ U (λw hw=>Ye ({A with mb:=b1,ub:=b0,rb:=bc,rc:=cc,rs:=sp}:Ad) (.slice none 0 0) (fH m l) hw1 hr1 I _ w (St.lentV hw) (aI (b:=b0) (bL _ (.head _)) w hw) (St.apartT (A:=[(b1,J (cMm ({A with mb:=b1,ub:=b0,rb:=bc,rc:=cc,rs:=sp}:Ad) (.slice none 0 0) (fH m l)) 156),(bc,J ((fH m l).ram.map Z++sp) 5)]) (x:=(b0,J (cU (fH m l).u) 247)) hw))) U aY ?_
 rintro _ _ ⟨_,⟨b4,c3,sp2,rfl,hle39,rfl⟩,rfl⟩
 refine eC ?_
 refine DZ U (cZ K_ U (λw hw=>aHE _ _ c3 c (fQ (fH m l)) l (by rw[yJ hw1];omega) I w (Ns.of (aK.left (aI (b:=b4) aE w hw))) (hB.later hpn hw))) U aY (ZA2 ?_)
 refine KC (λq2 z2=>?_) (λq2 z2=>?_)
 ·refine ZBV ?_
  have e9:=aQ5 (m:=m) (l:=l) hln (by simpa using q2)
  exact EV U (.cons _ (.cons_cons _ (.cons_cons _ (.cons_cons _ (ed _))))) ⟨M _ e9,A,aa,an,ac,⟨U,U,U,U,U,U,U⟩,by rw[Yp e9 aD]⟩
 refine aH ?_
 refine W (aW U U (bT (v:=P_ A.ub) aE (get_mid (A:=A) (m:=m) (acc:=(.slice aa an ac)) h.ln (j:=14) U))) U (ZE1 ?_)
 refine W (aW U U (bT (v:=(.slice (some ⟨cb,off,none⟩) (l.drop (8482+m.ram.length)).length c2)) aE U)) U (eA (H':=[(A.ub,J (cU m.u) 247)]++([(cb,J all 5),(b0,J (cU (fH m l).u) 247),(A.mb,J (cMm A (.slice aa an ac) m) 156),(b3,J [(.slice (some ⟨cb,off,none⟩) (l.drop (8482+m.ram.length)).length c2),.bool true] 123),(b4,J ((fQ (fH m l)).map Z++sp2) 5),(b1,J (cMm ({A with mb:=b1,ub:=b0,rb:=bc,rc:=cc,rs:=sp}:Ad) (.slice none 0 0) (fH m l)) 156),(A.rb,J (m.ram.map Z++A.rs) 5),(bc,J ((fH m l).ram.map Z++sp) 5)])) (λw hw=>St.perm_ix 9 [1,5,0,2,4,6,7,3,8] aD U U hw) ?_)
 refine RX (gZ (F:=[]) (A:=[(A.ub,J (cU m.u) 247)]) (G:=[(cb,J all 5),(b0,J (cU (fH m l).u) 247),(A.mb,J (cMm A (.slice aa an ac) m) 156),(b3,J [(.slice (some ⟨cb,off,none⟩) (l.drop (8482+m.ram.length)).length c2),.bool true] 123),(b4,_),(b1,J (cMm ({A with mb:=b1,ub:=b0,rb:=bc,rc:=cc,rs:=sp}:Ad) (.slice none 0 0) (fH m l)) 156),(A.rb,J (m.ram.map Z++A.rs) 5),(bc,J ((fH m l).ram.map Z++sp) 5)]) (R:=λv H=>v= .int .i64 (lU (l.drop (8482+m.ram.length)))/\H=[(A.ub,J (cU (kZ m.u (l.drop (8482+m.ram.length)))) 247)]) K_ U (λw hw hw2=>Zc A.ub m.u h.u.wf w hw (some ⟨cb,off,none⟩) c2 (l.drop (8482+m.ram.length)) (vY hby _) hle23 (Ns.of (aAN (aI (b:=cb) (bL _ (.head _)) w hw2) hall)) (λp hp=>by cases hp;exact λe=>St.apartT (A:=[(A.ub,J (cU m.u) 247)]) (x:=(cb,J all 5)) (G:=_) hw2 (show _∈[_]from List.mem_singleton.2 e)))) U (ZBB ?_)
 have e53:kZ m.u (l.drop (8482+m.ram.length))=(fH m l).u:=K7 hd0.symm
 rw[e53]
 refine eC ?_
 refine aH ?_
 refine W (bJ U U (by rw[cMm_len hw1.ln];rfl) (aI (b:=b1) (l:=cMm ({A with mb:=b1,ub:=b0,rb:=bc,rc:=cc,rs:=sp}:Ad) (.slice none 0 0) (fH m l)) aE)) U (ZBI ?_)
 refine W (bD (l':=cMm ({A with mb:=b1,ub:=b0,rb:=bc,rc:=cc,rs:=sp}:Ad) (.slice none 0 0) (fH m l)) 3 U U U (by rw[cMm_len hw1.ln];rfl) (aCP (A:=({A with mb:=b1,ub:=b0,rb:=bc,rc:=cc,rs:=sp}:Ad)) hon0) U (by rw[cMm_len h.ln,cMm_len hw1.ln];exact ah rfl) (Dp (by rw[cMm_len h.ln,cMm_len hw1.ln]))) U (eC ?_)
 refine ZCy ?_
 refine W (bD (l':=cMm ({A with rb:=bc,rc:=cc,rs:=sp}:Ad) (.slice none 0 0) (fH m l)) 3 U U U U U U (by rw[cMm_len hw1.ln];exact ah rfl) (aFE hw1.ln A.ub)) U (eC ?_)
 refine aH ?_
 have e9:=Q9 (m:=m) (l:=l) hln hd0 (by simpa using q2)
 exact EV U (.cons_cons _ (.cons _ (.cons _ (.cons_cons _ (.cons _ (.cons _ (.cons _ (.cons _ aJ)))))))) ⟨M _ e9,({A with rb:=bc,rc:=cc,rs:=sp}:Ad),none,0,0,⟨U,U,U,U,U,U,U⟩,by rw[aFm e9];rfl⟩
set_option maxHeartbeats 2000000 in
def aFl(a:AC)(c:Nat)(l:AB)(hl:l.length<=100000000)(hb:bF l)(hlc:l.length<=c)(w:AI)(hB:Ns w .u8 a l):aG prog 87 [.slice a l.length c] w [] (V_ (.tuple #[.agg (cHd (if errH l=0 then hdH l else zHd)).toArray,.int .i64 (errH l)])):=by
 refine aT func87 ?_
 refine ZAm ?_
 refine RX (gJ (l:=cHd zHd) U) U (ZBF λb0=>?_)
 refine ZBZ ?_
 refine RY (De (l:=[.int .i64 0,.int .i64 2048,.int .i64 8192,.int .i64 32768,.int .i64 131072,.int .i64 65536]) (z:=[.int .i64 0,.int .i64 0,.int .i64 0,.int .i64 0,.int .i64 0,.int .i64 0]) (ps:=[(0,.int .i64 0),(1,.int .i64 2048),(2,.int .i64 8192),(3,.int .i64 32768),(4,.int .i64 131072),(5,.int .i64 65536)]) U U U aN) U (RX (gJ (l:=(List.replicate 6 (0:Int)).map (Value.int .i64)) U) U ?_)
 rintro _ _ ⟨b1,rfl,rfl⟩
 refine W (bC (l':=sizesH.map (Value.int .i64)) 0) U (eC ?_)
 refine ZBV ?_
 refine gK ?_
 refine ZAm ?_
 refine KC (λq0 z0=>?_) (λq0 z0=>?_)
 ·refine ZAm ?_
  refine RS ?_
  refine W (bC (l':=cHd zHd) 1) U (eC ?_)
  refine ZA2 ?_
  have e9:errH l=2:=by unfold errH;rw[ag I]
  exact aU (λw hw=>fN U U U (aI (b:=b0) (l:=cHd zHd) aE w hw) U) ⟨U,Je⟩
 refine ZBI ?_
 refine mJ (σ:=Nat) [5,6,15,16,17,18,19,20,21,22] (λb=>[(5,P_ b),(6,.bool (sortH (l.getD 327 0)).isSome)]) (λb=>[(b,J (cSrt ((sortH (l.getD 327 0)).getD (0,false,false))) 275),(b1,J (sizesH.map (Value.int .i64)) 273),(b0,J (cHd zHd) 151)]) (λ_=>True) ?_ ?_
 ·obtain⟨ba,oa,rfl,hra⟩:=hB.row (i:=0) I
  have hb7:=hb.get 327
  have hb8:=hb.get 328
  have hb9:=hb.get 329
  have hb4:=hb.get 334
  have hb5:=hb.get 335
  have hcut:cut1 oa 308 c=oa+308:=tH I
  have hl15:((l.drop 308).take 15).length=15:=by rw[fT,dM];omega
  refine DR [0,8] (.step true 1 (.step true 2 (.step true 3 (.fork 0 (.fork 4 (.step true 5 (.step true 6 (.step true 7 (.step false 8 (.step false 9 (.step true 10 .done)))))) (.fork 8 (.step false 4 (.step true 5 (.step true 6 (.step true 7 (.step false 9 (.step true 10 .done)))))) .stop)) (.fork 8 (.step false 0 (.step false 4 (.step true 5 (.step true 6 (.step true 7 (.step false 9 (.step true 10 .done))))))) .stop))))) ?_
  refine ZBI ?_
  refine DY U (eF (n:=l.length) 327 U U U U I) U (DL U U U (gS (hra _ _ (gD (j:=327) I)) aP) U (nN ?_ ?_))
  ·refine DX U (eN K_ U (aS aA9)) U Dw ?_
   rintro _ _ ⟨_,⟨b2,rfl,rfl⟩,rfl⟩
   refine ZAa ?_
   refine nN ?_ ?_
   ·refine V7 ?_
    refine tC ?_
    refine ZAm ?_
    refine DX U (gJ (l:=cSrt (0,false,false)) U) U sC ?_
    rintro _ _ ⟨b3,rfl,rfl⟩
    refine DZ U Zb U aY (jE ?_)
    exact⟨b3,trivial,.cons U (.cons U .nil),bB,λ_ h=>A7⟩
   refine nN ?_ ?_
   ·refine DX U (gJ (l:=cSrt (0,false,false)) U) U sC ?_
    rintro _ _ ⟨b3,rfl,rfl⟩
    refine V7 ?_
    refine tC ?_
    refine ZAm ?_
    refine DZ U Zb U aY (jE ?_)
    exact⟨b3,trivial,.cons U (.cons U .nil),bB,λ_ h=>A7⟩
   exact xE
  refine nN ?_ ?_
  ·refine DX U (gJ (l:=cSrt (0,false,false)) U) U sC ?_
   rintro _ _ ⟨b2,rfl,rfl⟩
   refine DX U (eN K_ U (aS aA9)) U Dw ?_
   rintro _ _ ⟨_,⟨b3,rfl,rfl⟩,rfl⟩
   refine ZAa ?_
   refine DZ U (aER (k:= .u8) (l:=sortE) (c:=19) (b:=b3) (z:= .agg (cSrt (0,false,false)).toArray) U U U U aE) U aY ?_
   rw[sort_ask]
   refine tC ?_
   refine ZAm ?_
   refine DZ U Zb U aY (jE ?_)
   exact⟨b2,trivial,.cons U (.cons U .nil),bB,λ_ h=>A7⟩
  exact xE
 rintro b2 y4 _
 obtain⟨ba,oa,rfl,hra⟩:=hB.row (i:=0) I
 have hb7:=hb.get 327
 have hb8:=hb.get 328
 have hb9:=hb.get 329
 have hb4:=hb.get 334
 have hb5:=hb.get 335
 have hcut:cut1 oa 308 c=oa+308:=tH I
 have hl15:((l.drop 308).take 15).length=15:=by rw[fT,dM];omega
 refine ZBI ?_
 refine DR [3,4,5,6,7] (bQ [0,2,4,6,8,10,12,14,16]) ?_
 refine ZBI ?_
 refine DY U (eF (n:=l.length) 328 U U U U I) U (DL U U U (gS (hra _ _ (gD (j:=328) I)) aP) U (ZBI ?_))
 refine DY U (eF (n:=l.length) 329 U U U U I) U (DL U U U (gS (hra _ _ (gD (j:=329) I)) aP) U (DW (v:=(.int .i64 (l.getD 329 0))) U (gF U U U) U (uW I I) (aH ?_)))
 refine DR [3,4] (bQ [0,2,4,6,9,10,12]) ?_
 refine ZBI ?_
 refine DY U (eF (n:=l.length) 333 U U U U I) U (DL U U U (gS (hra _ _ (gD (j:=333) I)) aP) U (ZBI ?_))
 refine DZ U (cZ K_ U (λw hw=>aG9 (some ⟨ba,oa,none⟩) c l hl hb w (hB.later0 hw) I)) U gV ?_
 rw[ae (show ¬l.length<336 by omega)]
 refine ZA2 ?_
 refine KC (λq1 z1=>?_) (λq1 z1=>?_)
 ·refine ZAm ?_
  refine Kh ?_
  refine eC ?_
  refine ZA2 ?_
  have e9:errH l=4:=by unfold errH;rw[ae I,ag mY]
  exact aU (λw hw=>fN U U U (aI (b:=b0) (l:=cHd zHd) aE w hw) U) ⟨U,Je⟩
 refine aH ?_
 refine KC (λq2 z2=>?_) (λq2 z2=>?_)
 ·refine ZAm ?_
  refine Kh ?_
  refine eC ?_
  refine ZA2 ?_
  have e9:errH l=5:=by unfold errH;rw[ae I,ae mY];rw[show sortH (l.getD 327 0)=none from by cases hh:sortH (l.getD 327 0)with|none=>rfl|some s=>(rw[hh]at q2;cases q2)]
  exact aU (λw hw=>fN U U U (aI (b:=b0) (l:=cHd zHd) aE w hw) U) ⟨U,Je⟩
 refine ZBI ?_
 obtain⟨s9,hs0⟩:∃s,sortH (l.getD 327 0)=some s:=by
  cases hh:sortH (l.getD 327 0)with
  |none=>rw[hh]at q2;cases q2
  |some s=>exact⟨s,rfl⟩
 refine ZA2 ?_
 refine KL (λq3 z3=>?_) (λq3 z3=>?_)
 ·refine ZE1 ?_
  refine Kh ?_
  refine eC ?_
  refine ZA2 ?_
  exact Y8
 refine ZBV ?_
 refine KC (λq4 z4=>?_) (λq4 z4=>?_)
 ·refine ZAm ?_
  refine Kh ?_
  refine eC ?_
  refine ZA2 ?_
  exact Y8
 refine ZA2 ?_
 refine gK ?_
 refine ZBI ?_
 refine RW (v:=(.int .i64 (32768*2^(l.getD 328 0).toNat))) (iK U U I) U (M _ (aES (.inr U) ⟨aR,aR⟩)) (ZA2 ?_)
 refine KC (λq5 z5=>?_) (λq5 z5=>?_)
 ·refine ZAm ?_
  refine Kh ?_
  refine eC ?_
  refine ZA2 ?_
  have e9:errH l=6:=by unfold errH;rw[ae I,ae mY];rw[hs0];dsimp only;rw[ae I,ag (by simpa using q5)]
  exact aU (λw hw=>fN U U U (aI (b:=b0) (l:=cHd zHd) aE w hw) U) ⟨U,Je⟩
 refine ZBI ?_
 refine mJ (σ:=Nat) [9,57,58,59,60,61,62,63,64,65,66,67,68,69,70,71] (λb=>[(9,P_ b)]) (λb=>[(b,J (cHd ⟨(nameH ((l.drop 308).take 15)),((sortH (l.getD 327 0)).getD (0,false,false)).1,((sortH (l.getD 327 0)).getD (0,false,false)).2.1,((sortH (l.getD 327 0)).getD (0,false,false)).2.2,2*2^(l.getD 328 0).toNat,(sizesH.getD (l.getD 329 0).toNat 0),false⟩) 151),(b0,J (cHd zHd) 151)]) (λ_=>True) ?_ ?_
 ·refine DR [2,5,6,7,8,9,10,11,12,13,15] (.step true 0 (.step true 1 (.step true 3 (.step true 4 (.step true 5 (.step true 6 (.step true 7 (.step true 8 (.step true 9 (.step true 10 (.step true 11 (.step true 12 (.step true 13 (.fork 2 (.step true 14 (.step false 15 (.step false 16 .done))) (.fork 15 (.step false 2 (.step true 14 (.step false 16 .done))) .stop))))))))))))))) ?_
  refine ZBI ?_
  refine DW (v:=(.slice (some ⟨ba,oa+308,none⟩) ((l.drop 308).take 15).length (c-308))) U (nM 308 323 U U U U U U aD I) U (by rw[hcut,hl15]) (ZCy ?_)
  refine DW (v:=(.int .i64 (2*2^(l.getD 328 0).toNat))) U (iK U U I) U (M _ (aES (.inl U) ⟨aR,aR⟩)) (ZBI ?_)
  refine DY U (eB (l.getD 329 0).toNat U U U I I) U (DL U U U (dQ (v:= .int .i64 (sizesH.getD (l.getD 329 0).toNat 0)) aE (by rw[bj];exact gD (by show _<6;omega))) U (nN ?_ ?_))
  ·refine ZCO ?_
   refine DX U (gJ (l:=cHd zHd) U) U sC ?_
   rintro _ _ ⟨b3,rfl,rfl⟩
   refine ZB4 ?_
   exact V8
  refine nN ?_ ?_
  ·refine DX U (gJ (l:=cHd zHd) U) U sC ?_
   rintro _ _ ⟨b3,rfl,rfl⟩
   refine ZCO ?_
   refine ZB4 ?_
   exact V8
  exact xE
 rintro b3 y14 _
 refine ZCy ?_
 refine KC (λq6 z6=>?_) (λq6 z6=>?_)
 ·refine ZAm ?_
  refine W (bC (l':=cHd ⟨(nameH ((l.drop 308).take 15)),((sortH (l.getD 327 0)).getD (0,false,false)).1,((sortH (l.getD 327 0)).getD (0,false,false)).2.1,((sortH (l.getD 327 0)).getD (0,false,false)).2.2,2*2^(l.getD 328 0).toNat,512,false⟩) 0) U (jE ?_)
  refine kO (L':=[(b3,J (cHd ⟨(nameH ((l.drop 308).take 15)),((sortH (l.getD 327 0)).getD (0,false,false)).1,((sortH (l.getD 327 0)).getD (0,false,false)).2.1,((sortH (l.getD 327 0)).getD (0,false,false)).2.2,2*2^(l.getD 328 0).toNat,xV ((sortH (l.getD 327 0)).getD (0,false,false)).1 (l.getD 329 0),false⟩) 151),(b0,J (cHd zHd) 151)]) (λ_ h=>h.as (by rw[show xV ((sortH (l.getD 327 0)).getD (0,false,false)).1 (l.getD 329 0)=512 from ag (by simpa using q6)])) ?_
  refine DR [5,6,7,8,10,11] (bQ [0,2,4,6,8,10,12,14,16,18,20,23,24,26,29]) ?_
  refine ZBI ?_
  refine DY U (eF (n:=l.length) 334 U U U U I) U (ZEj ?_)
  refine ZBI ?_
  refine DY U (eF (n:=l.length) 335 U U U U I) U (Xl ?_)
  refine DW (v:=(.int .u16 (l.getD 334 0*256+l.getD 335 0))) U (dE U U) U (M _ (Az hb4 hb5)) (ZBI ?_)
  refine ZEP ?_
  refine ZAm ?_
  refine DZ U (bC (l':=cHd (hdH l)) 0) U aY (eC ?_)
  refine ZA2 ?_
  refine W (bJ U U U (aI (b:=b3) (l:=cHd (hdH l)) aE)) U (W (bC (l':=cHd (hdH l)) 1) U (eC ?_))
  refine ZA2 ?_
  exact ZCE
 refine ZAm ?_
 refine kO (L':=[(b3,J (cHd ⟨(nameH ((l.drop 308).take 15)),((sortH (l.getD 327 0)).getD (0,false,false)).1,((sortH (l.getD 327 0)).getD (0,false,false)).2.1,((sortH (l.getD 327 0)).getD (0,false,false)).2.2,2*2^(l.getD 328 0).toNat,xV ((sortH (l.getD 327 0)).getD (0,false,false)).1 (l.getD 329 0),false⟩) 151),(b0,J (cHd zHd) 151)]) (λ_ h=>h.as (by rw[<-aGl (k:=((sortH (l.getD 327 0)).getD (0,false,false)).1) (by simpa using q6) ⟨hb9.1,aR⟩])) ?_
 refine DR [5,6,7,8,10,11] (bQ [0,2,4,6,8,10,12,14,16,18,20,23,24,26,29]) ?_
 refine ZBI ?_
 refine DY U (eF (n:=l.length) 334 U U U U I) U (ZEj ?_)
 refine ZBI ?_
 refine DY U (eF (n:=l.length) 335 U U U U I) U (Xl ?_)
 refine DW (v:=(.int .u16 (l.getD 334 0*256+l.getD 335 0))) U (dE U U) U (M _ (Az hb4 hb5)) (ZBI ?_)
 refine ZEP ?_
 refine ZAm ?_
 refine DZ U (bC (l':=cHd (hdH l)) 0) U aY (eC ?_)
 refine ZA2 ?_
 refine W (bJ U U U (aI (b:=b3) (l:=cHd (hdH l)) aE)) U (W (bC (l':=cHd (hdH l)) 1) U (eC ?_))
 refine ZA2 ?_
 exact ZCE
set_option maxHeartbeats 2000000 in
def aDZ(ob oc:Nat)(rom:AB)(hl:rom.length<=100000000)(hb:bF rom)(hc:rom.length<=oc)(pa:AC)(pl pc:Nat)(w:AI)(hr:aK w ob 0 (rom.map Z)):aG prog 43 [.slice (Q_ ob) rom.length oc,.slice pa pl pc] w [] (λv H=>(errH rom≠0/\v= .tuple #[.pointer none,.int .i64 (errH rom)]/\H=[])\/(errH rom=0/\∃mb ub rb tb oT,kJ tb (.int .u32 0) [(tb,oT)]/\v= .tuple #[P_ mb,.int .i64 0]/\H=[((mb,ub,rb,tb,oT).1,J (cMm (pX (mb,ub,rb,tb,oT).1 (mb,ub,rb,tb,oT).2.1 (mb,ub,rb,tb,oT).2.2.1 (mb,ub,rb,tb,oT).2.2.2.1 ob oc [] (.slice pa pl pc) (hdH rom).ram.toNat) (.slice none 0 0) (lM rom)) 156),((mb,ub,rb,tb,oT).2.2.1,J ((lM rom).ram.map Z) 5),((mb,ub,rb,tb,oT).2.1,J (cU jV) 247),((mb,ub,rb,tb,oT).2.2.2.1,(mb,ub,rb,tb,oT).2.2.2.2)])):=by
 have hram:=Yb rom
 refine aT func43 ?_
 refine aH ?_
 by_cases he9:errH rom=0
 ·refine ZAm ?_
  refine aO K_ (λw hw=>aFl (Q_ ob) oc rom hl hb hc w (Ns.of (bU hr aP w hw))) ?_
  rw[ag he9]
  refine ZA2 ?_
  refine RX (gJ (l:=cHd zHd) U) U (ZBF λb0=>?_)
  refine W (bC (l':=cHd (hdH rom)) 0) U (eC ?_)
  refine aH ?_
  refine fX false U U U (by simpa using he9) ?_
  refine ZA2 ?_
  refine mJ (σ:=Nat×Nat×Nat×Nat×Obj) [8,17,18,19,20,21,22,23,24,25,26] (λq=>[(8,P_ q.1)]) (λq=>[(q.1,J (cMm (pX q.1 q.2.1 q.2.2.1 q.2.2.2.1 ob oc [] (.slice pa pl pc) (hdH rom).ram.toNat) (.slice none 0 0) (newM0 rom)) 156),(q.2.2.1,J ((newM0 rom).ram.map Z) 5),(q.2.1,J (cU jV) 247),(q.2.2.2.1,q.2.2.2.2)]++[(b0,J (cHd (hdH rom)) 151)]) (λq=>kJ q.2.2.2.1 (.int .u32 0) [(q.2.2.2.1,q.2.2.2.2)]) ?_ ?_
  ·refine DR [3,4,5,6,7] (.step true 0 (.step true 1 (.step true 2 (.step true 5 (.step true 6 (.fork 3 (.fork 4 (.step false 7 (.step true 8 (.step false 9 (.step true 10 .done)))) (.fork 7 (.step false 4 (.step true 8 (.step false 9 (.step true 10 .done)))) .stop)) (.fork 7 (.step false 3 (.step false 4 (.step true 8 (.step false 9 (.step true 10 .done))))) .stop))))))) ?_
   refine ZAm ?_
   refine fZ U U U U (jR (b:=b0) (l:=cHd (hdH rom)) aE) U U ?_
   refine ZBI ?_
   refine DL U U U (dQ (v:= .int .i64 (hdH rom).ram) aE U) U (nN ?_ ?_)
   ·refine DX U (eN K_ U (aS L6)) U Dw ?_
    rintro _ _ ⟨_,⟨b1,rfl,hT0⟩,rfl⟩
    obtain⟨o20,rfl⟩:=hT0.one
    refine ZAa ?_
    refine nN ?_ ?_
    ·refine DX U (eN K_ U (aS new_fn)) U Dw ?_
     rintro _ _ ⟨_,⟨b2,rfl,rfl⟩,rfl⟩
     refine ZAa ?_
     refine Ya ?_
     rintro _ _ ⟨b3,rfl,rfl⟩
     refine DW (v:=(.agg (cMm (pX 0 b2 b3 b1 ob oc [] (.slice pa pl pc) (hdH rom).ram.toNat) (.slice none 0 0) (newM0 rom)).toArray)) U (qJ (l:=Px (pX 0 b2 b3 b1 ob oc [] (.slice pa pl pc) (hdH rom).ram.toNat) (.slice none 0 0) (newM0 rom) (hdH rom).ram.toNat) (z:=Hi) (ps:=[(1,.slice (Q_ ob) rom.length oc),(2,.slice pa pl pc),(3,.agg (cHd (hdH rom)).toArray),(4,P_ b1),(5,P_ b2),(6,.slice (Q_ b3) (hdH rom).ram.toNat (hdH rom).ram.toNat)]) U aN U aN) U B3 (DX U (eE (l:=cMm (pX 0 b2 b3 b1 ob oc [] (.slice pa pl pc) (hdH rom).ram.toNat) (.slice none 0 0) (newM0 rom)) U U) U aY ?_)
     rintro _ _ ⟨b4,rfl,rfl⟩
     refine ZAm ?_
     exact⟨(b4,b2,b3,b1,o20),hT0,.cons U .nil,bB,λ_ h=>St.perm_ix 5 [0,1,2,3,4] aD U E1 h⟩
    refine nN ?_ ?_
    ·refine Ya ?_
     rintro _ _ ⟨b2,rfl,rfl⟩
     refine DX U (eN K_ U (aS new_fn)) U Dw ?_
     rintro _ _ ⟨_,⟨b3,rfl,rfl⟩,rfl⟩
     refine ZAa ?_
     refine DW (v:=(.agg (cMm (pX 0 b3 b2 b1 ob oc [] (.slice pa pl pc) (hdH rom).ram.toNat) (.slice none 0 0) (newM0 rom)).toArray)) U (qJ (l:=Px (pX 0 b3 b2 b1 ob oc [] (.slice pa pl pc) (hdH rom).ram.toNat) (.slice none 0 0) (newM0 rom) (hdH rom).ram.toNat) (z:=Hi) (ps:=[(1,.slice (Q_ ob) rom.length oc),(2,.slice pa pl pc),(3,.agg (cHd (hdH rom)).toArray),(4,P_ b1),(5,P_ b3),(6,.slice (Q_ b2) (hdH rom).ram.toNat (hdH rom).ram.toNat)]) U aN U aN) U B3 (DX U (eE (l:=cMm (pX 0 b3 b2 b1 ob oc [] (.slice pa pl pc) (hdH rom).ram.toNat) (.slice none 0 0) (newM0 rom)) U U) U aY ?_)
     rintro _ _ ⟨b4,rfl,rfl⟩
     refine ZAm ?_
     exact⟨(b4,b3,b2,b1,o20),hT0,.cons U .nil,bB,λ_ h=>St.perm_ix 5 [0,2,1,3,4] aD U E1 h⟩
    exact xE
   refine nN ?_ ?_
   ·refine Ya ?_
    rintro _ _ ⟨b1,rfl,rfl⟩
    refine DX U (eN K_ U (aS L6)) U Dw ?_
    rintro _ _ ⟨_,⟨b2,rfl,hT0⟩,rfl⟩
    obtain⟨o20,rfl⟩:=hT0.one
    refine ZAa ?_
    refine DX U (eN K_ U (aS new_fn)) U Dw ?_
    rintro _ _ ⟨_,⟨b3,rfl,rfl⟩,rfl⟩
    refine ZAa ?_
    refine DW (v:=(.agg (cMm (pX 0 b3 b1 b2 ob oc [] (.slice pa pl pc) (hdH rom).ram.toNat) (.slice none 0 0) (newM0 rom)).toArray)) U (qJ (l:=Px (pX 0 b3 b1 b2 ob oc [] (.slice pa pl pc) (hdH rom).ram.toNat) (.slice none 0 0) (newM0 rom) (hdH rom).ram.toNat) (z:=Hi) (ps:=[(1,.slice (Q_ ob) rom.length oc),(2,.slice pa pl pc),(3,.agg (cHd (hdH rom)).toArray),(4,P_ b2),(5,P_ b3),(6,.slice (Q_ b1) (hdH rom).ram.toNat (hdH rom).ram.toNat)]) U aN U aN) U B3 (DX U (eE (l:=cMm (pX 0 b3 b1 b2 ob oc [] (.slice pa pl pc) (hdH rom).ram.toNat) (.slice none 0 0) (newM0 rom)) U U) U aY ?_)
    rintro _ _ ⟨b4,rfl,rfl⟩
    refine ZAm ?_
    exact⟨(b4,b3,b1,b2,o20),hT0,.cons U .nil,bB,λ_ h=>St.perm_ix 5 [0,3,1,2,4] aD U E1 h⟩
   exact xE
  rintro⟨mb,ub,rb,tb,oT⟩ y4 hT
  dsimp only at hT⊢
  refine ZA2 ?_
  refine W (bJ U U U (aI (b:=b0) (l:=cHd (hdH rom)) aE)) U (aO K_ (aS (aKq _ _ _ _ _ _ _)) ?_)
  refine ZA2 ?_
  refine W (bD (l':=cMm (pX (mb,ub,rb,tb,oT).1 (mb,ub,rb,tb,oT).2.1 (mb,ub,rb,tb,oT).2.2.1 (mb,ub,rb,tb,oT).2.2.2.1 ob oc [] (.slice pa pl pc) (hdH rom).ram.toNat) (.slice none 0 0) (J2 rom)) 0 U U U U U U (by rw[cMm_len (Mr rom)];exact ah rfl) (Q3 _)) U (eC ?_)
  refine ZBZ ?_
  refine RS ?_
  refine ZBZ ?_
  refine W (bD (l':=cMm (pX (mb,ub,rb,tb,oT).1 (mb,ub,rb,tb,oT).2.1 (mb,ub,rb,tb,oT).2.2.1 (mb,ub,rb,tb,oT).2.2.2.1 ob oc [] (.slice pa pl pc) (hdH rom).ram.toNat) (.slice none 0 0) (lM rom)) 0 U U U U U U (by rw[cMm_len (m:=J2 rom) ⟨(Mr rom).bd,(Mr rom).work,(Mr rom).high⟩];exact ah rfl) ((Bb (ah U)).trans U)) U (eC ?_)
  refine ZE1 ?_
  exact iM (λ_ _=>dX U U) (.cons_cons _ (.cons_cons _ (.cons_cons _ (.cons_cons _ (ed _))))) (.inr ⟨he9,mb,ub,rb,tb,oT,hT,U,U⟩)
 refine ZAm ?_
 refine aO K_ (λw hw=>aFl (Q_ ob) oc rom hl hb hc w (Ns.of (bU hr aP w hw))) ?_
 rw[ae he9]
 refine ZA2 ?_
 refine RX (gJ (l:=cHd zHd) U) U (ZBF λb0=>?_)
 refine W (bC (l':=cHd zHd) 0) U (eC ?_)
 refine aH ?_
 refine fX true U U U (by simpa using he9) ?_
 refine bW ?_
 exact iM (λ_ _=>dX U U) (ed _) (.inl ⟨he9,U,U⟩)
structure MA where
 A:Ad
 tb:Nat
 oT:Obj
 va:AH
def pM(q:MA):AH:=P_ q.A.mb
def hM(q:MA)(m:Mm):aF:=[(q.tb,q.oT),(q.A.mb,J (cMm q.A q.va m) 156),(q.A.ub,J (cU m.u) 247),(q.A.rb,J (m.ram.map Z++q.A.rs) 5),(q.A.ob,J (m.rom.map Z++q.A.sp) 5)]
structure MA.Ok(q:MA)(pa:AC)(n pc:Nat):Prop where
 apart:q.A.rb∉[q.A.mb,q.A.ub]/\q.A.ob∉[q.A.mb,q.A.ub]
 tab:kJ q.tb (.int .u32 0) [(q.tb,q.oT)]
 at_:q.A.tab=P_ q.tb
 plan:q.A.plan= .slice pa n pc
 va:∃aa an ac,q.va= .slice aa an ac
structure Dm(T:Nat)(plan:List gG)(pa:AC)(pc:Nat)(G:aF):Prop where
 vec:bS T 2 (.slice pa plan.length pc) plan.length (aM qN plan) G
 ok:∀c∈plan,sE c
 few:plan.length<=1000000
section
variable {w0 w:AI}{ms:AE}{H:aF}{q:MA}{m:Mm}
def Cj(hw:St w0 ms H w)(hs:∀x∈hM q m,x∈H):aK w q.A.mb 0 (cMm q.A q.va m)/\aK w q.A.ub 0 (cU m.u)/\aK w q.A.rb 0 (m.ram.map Z)/\aK w q.A.ob 0 (m.rom.map Z):=
 ⟨aI (hs _ (.tail _ (.head _))) w hw,aI (hs _ (.tail _ (.tail _ (.head _)))) w hw,(aI (hs _ (.tail _ (.tail _ (.tail _ (.head _))))) w hw).left,(aI (hs _ (.tail _ (.tail _ (.tail _ (.tail _ (.head _)))))) w hw).left⟩
def Dm.els{T:Nat}{plan:List gG}{pa:AC}{pc:Nat}{G:aF}(h:Dm T plan pa pc G)(hw:St w0 ms H w)(hs:∀x∈G,x∈H):eX w qN pa plan:=by
 obtain⟨a,cp,e,_,_,h1⟩:=h.vec.gives cChg_len aD
 cases e
 exact h1.els hw hs
end
def aIA{R:Mm}{D:Prop}(q:MA)(pa:AC)(pc:Nat)(plan:List gG)(hq:q.Ok pa plan.length pc)(hpo:∀c∈plan,sE c)(hpl:plan.length<=1000000)(m:Mm)(h:nR R D m)(ms:AE)(w:AI)(hst:St w ms (hM q m) w)(hE:eX w qN pa plan)(hpn:∀p,pa=some p->p.block∉ms):
  aG prog 72 [pM q] w ms (λv H=>∃oT va G,(MA.mk q.A q.tb oT va).Ok pa plan.length pc/\v= .tuple #[.agg (cDd (eP plan m).1).toArray,va]/\bS 298 3 va (eP plan m).2.acc.length (aM cAc (eP plan m).2.acc) G/\H=G++hM ⟨q.A,q.tb,oT,va⟩ (eP plan m).2):=by
 refine aG.turn (aM5 q.A hq.apart q.tb (.int .u32 0) q.oT hq.tab hq.at_ plan pa pc hq.plan hpo hpl m h.wf h.rg q.va ms w hst hE hpn) ?_
 rintro v H w' ⟨va,oT,G,rfl,hV,hT,rfl⟩ hw
 obtain⟨aa,ac,rfl⟩:=hV.slice
 exact⟨_,hw.perm (show List.Perm ([(q.tb,oT)]++(G++_)) (G++([(q.tb,oT)]++_))by rw[<-eG,<-eG];exact dz _ bf),oT,_,G,⟨hq.apart,hT,hq.at_,hq.plan,_,_,_,U⟩,U,hV,U⟩
def aCL(q:MA)(m:Mm)(h:m.Wf)(hr:m.cpu.r.Ok)(hrl:m.ram.length<=200000)(ms:AE)(w:AI)(hst:St w ms (hM q m) w):
  aG prog 22 [pM q] w ms (λv H=>∃b c sp,v= .slice (Q_ b) (fQ m).length c/\(fQ m).length<=c/\H=(b,J ((fQ m).map Z++sp) 5)::hM q m):=by
 have hw1:St w ms ([(q.A.mb,J (cMm q.A q.va m) 156),(q.A.rb,J (m.ram.map Z++q.A.rs) 5)]++[(q.tb,q.oT),(q.A.ub,J (cU m.u) 247),(q.A.ob,J (m.rom.map Z++q.A.sp) 5)]) w:=St.perm_ix 5 [1,3,0,2,4] aD rfl rfl hst
 have hn:=hw1.nodup
 rw[bz,dx]at hn
 refine aG.frame hw1 (ms2:=[q.A.mb,q.A.rb]) (λb hb=>kA (G:=[(q.A.mb,J (cMm q.A q.va m) 156),(q.A.rb,_)]) hb) (Ye q.A q.va m h hr hrl [q.A.mb,q.A.rb] w hw1.lentV (Cj hst (λ_ hx=>hx)).2.1 (λhb=>hn.2.2 _ hb _ (.tail _ (.head _)) U)) ?_
 rintro v H w' ⟨b,c,sp,rfl,hc,rfl⟩ hw
 exact⟨_,St.perm_ix 6 [0,3,1,4,2,5] aD U U hw,b,c,sp,U,hc,U⟩
def aNr{pa:AC}{n pc:Nat}(q:MA)(hq:q.Ok pa n pc)(m:Mm)(h:m.Wf)(hr:m.cpu.r.Ok)(hrl:m.ram.length<=200000)(a:AC)(c:Nat)(l:AB)(hby:bF l)(hlm:l.length<=900000)(hlc:l.length<=c)(ms:AE)(w:AI)(hst:St w ms (hM q m) w)(hB:Ns w .u8 a l)(hpn:∀p,a=some p->p.block∉(hM q m).map (·.1)):
  aG prog 111 [pM q,.slice a l.length c] w ms (λv H=>v= .int .i64 (sT m l)/\∃A' va,(MA.mk A' q.tb q.oT va).Ok pa n pc/\A'.mb=q.A.mb/\H=hM ⟨A',q.tb,q.oT,va⟩ (uK m l)):=by
 obtain⟨A,tb,oT,va⟩:=q
 obtain⟨aa,an,ac,rfl⟩:=hq.va
 have hw1:St w ms ([(A.ub,J (cU m.u) 247),(A.mb,J (cMm A (.slice aa an ac) m) 156),(A.rb,J (m.ram.map Z++A.rs) 5)]++[(tb,oT),(A.ob,J (m.rom.map Z++A.sp) 5)]) w:=St.perm_ix 5 [2,1,3,0,4] aD rfl rfl hst
 have hon:fJ [.slice aa an ac,A.plan,A.tab]=true:=by rw[show A.plan=_ from hq.plan,show A.tab=_ from hq.at_];rfl
 refine aG.frame hw1 (ms2:=[A.ub,A.mb,A.rb]) (λb hb=>kA (G:=[(A.ub,J (cU m.u) 247),(A.mb,J (cMm A (.slice aa an ac) m) 156),(A.rb,_)]) hb) (aLT A aa an ac m h hr hrl hon a c l hby hlm hlc [A.ub,A.mb,A.rb] w hw1.lentV hB (λp hp hb=>hpn p hp ((show ∀x∈[A.ub,A.mb,A.rb],x∈[tb,A.mb,A.ub,A.rb,A.ob]by simp) _ hb))) ?_
 rintro v H w' ⟨rfl,⟨mb',ub',rb',ob',oc',sp',rc',rs',plan',tab'⟩,aa',an',ac',⟨h1,h2,h3,h4,h5,h6,h7⟩,rfl⟩ hw
 dsimp only at h1 h2 h3 h4 h5 h6 h7
 subst h1 h2 h3 h4 h5 h6 h7
 have hn:=hw.nodup
 have hrom:(uK m l).rom=m.rom:=by unfold uK;split<;>rfl
 simp only[cw,cg,cq,dh,i3,ea,ei,or_false,not_or]at hn
 refine⟨_,St.perm_ix 5 [3,1,0,2,4] aD U (by rw[<-hrom];rfl) hw,U,⟨A.mb,A.ub,rb',A.ob,A.oc,A.sp,rc',rs',A.plan,A.tab⟩,.slice aa' an' ac',⟨⟨by simp only[ea,ei,or_false,not_or];exact⟨λh=>hn.2.1.1 h.symm,λh=>hn.1.2.1 h.symm⟩,hq.apart.2⟩,hq.tab,hq.at_,hq.plan,_,_,_,U⟩,U,U⟩
def putP(n:Nat):AB:=if n<128 then [(n:Int)]else((n%128+128:Nat):Int)::putP (n/128)
termination_by n
decreasing_by omega
def P1{n:Nat}(h:n<128):putP n=[(n:Int)]:=by rw[putP,ag h]
def Mk{n:Nat}(h:¬n<128):putP n=((n%128+128:Nat):Int)::putP (n/128):=by rw[putP,ae h]
def aOg{n:Int}(h:0<=n):bI .u8 (n%256) 128=n%128+128:=by
 have key:=eI (p:=λx=>bI .u8 x 128=x%128+128) eW (c:=n%256) I I
 rw[key];omega
def bN :AB->AB->Nat
 |x::a,y::b=>if x=y then bN a b+1 else 0
 |_,_=>0
def Dr :∀(a b:AB),bN a b<=b.length
 | [],b=>aq _
 |_::_,[]=>be 0
 |x::a,y::b=>by
  have:=Dr a b
  unfold bN
  split
  ·simp only[eZ];omega
  ·exact aq _
def aFG :∀{a b:AB} {i:Nat},i<=bN a b->i<b.length->i<a.length->a.getD i 0=b.getD i 0->i+1<=bN a b
 | [],_,_,_,_,h,_=>by simp at h
 |_::_,[],_,_,h,_,_=>by simp at h
 |x::a,y::b,0,_,_,_,h=>by
  have:x=y:=h
  unfold bN;rw[ag this];omega
 |x::a,y::b,i+1,h,hb,ha,he=>by
  unfold bN at h⊢
  split at h
  ·have:=aFG (a:=a) (b:=b) (i:=i) I (by simpa using hb) (by simpa using ha) he
   rename_i hxy
   rw[ag hxy];omega
  ·omega
def X3 :∀{a b:AB} {i:Nat},i<=bN a b->i<b.length->i<a.length->a.getD i 0≠b.getD i 0->i=bN a b
 | [],_,_,_,_,h,_=>by simp at h
 |_::_,[],_,_,h,_,_=>by simp at h
 |x::a,y::b,0,_,_,_,h=>by
  have:x≠y:=h
  unfold bN;rw[ae this]
 |x::a,y::b,i+1,h,hb,ha,he=>by
  unfold bN at h⊢
  split at h
  ·have:=X3 (a:=a) (b:=b) (i:=i) I (by simpa using hb) (by simpa using ha) he
   rename_i hxy
   rw[ag hxy];omega
  ·omega
def likeN_drop :∀(a b:AB),bN (a.drop (bN a b)) (b.drop (bN a b))=0
 | [],_=>by simp only[List.drop_nil];cases(List.drop (bN [] _) _)<;>rfl
 |_::_,[]=>rfl
 |x::a,y::b=>by
  by_cases h:x=y
  ·have e:bN (x::a) (y::b)=bN a b+1:=ag h
   rw[e]
   exact likeN_drop a b
  ·have e:bN (x::a) (y::b)=0:=ae h
   rw[e]
   exact e
def aDy :∀{a b:AB},a.length=b.length->a.take (bN a b)=b.take (bN a b)
 | [],[],_=>rfl
 |x::a,y::b,h=>by
  by_cases hx:x=y
  ·have e:bN (x::a) (y::b)=bN a b+1:=ag hx
   rw[e,List.take_succ_cons,List.take_succ_cons,hx,aDy (by simpa using h)]
  ·have e:bN (x::a) (y::b)=0:=ae hx
   rw[e];rfl
def oth(a b:AB):Nat:=
 if h:b=[]then 0 else if 4<=bN a b\/bN a b=b.length then 0 else bN a b+1+oth (a.drop (bN a b+1)) (b.drop (bN a b+1))
termination_by b.length
decreasing_by
 have:=List.length_pos_iff.2 h
 rw[dM];omega
def aRk(a:AB):oth a []=0:=by rw[oth,dif_pos rfl]
def oth_stop{a b:AB}(h:4<=bN a b\/bN a b=b.length):oth a b=0:=by
 rw[oth]
 by_cases hb:b=[]
 ·rw[dif_pos hb]
 ·rw[dif_neg hb,ag h]
def aAH{a b:AB}(hb:b≠[])(h:¬(4<=bN a b\/bN a b=b.length)):oth a b=bN a b+1+oth (a.drop (bN a b+1)) (b.drop (bN a b+1)):=by
 rw[oth,dif_neg hb,ae h]
def Vs(a b:AB):oth a b<=b.length:=by
 rw[oth]
 split
 ·exact aq _
 ·split
  ·exact aq _
  ·rename_i hb h
   have h1:=Dr a b
   have h2:=Vs (a.drop (bN a b+1)) (b.drop (bN a b+1))
   rw[dM]at h2
   omega
termination_by b.length
decreasing_by
 rename_i hb _
 have:=List.length_pos_iff.2 hb
 rw[dM];omega
def Gy{a b:AB}(hb:b≠[])(h:bN a b=0):1<=oth a b:=by
 have:=List.length_pos_iff.2 hb
 rw[aAH hb I];omega
def dO(a b:AB):AB:=
 putP (bN a b)++(if h:b.drop (bN a b)=[]then []else
  putP (oth (a.drop (bN a b)) (b.drop (bN a b)))++((b.drop (bN a b)).take (oth (a.drop (bN a b)) (b.drop (bN a b)))++
   dO ((a.drop (bN a b)).drop (oth (a.drop (bN a b)) (b.drop (bN a b)))) ((b.drop (bN a b)).drop (oth (a.drop (bN a b)) (b.drop (bN a b))))))
termination_by b.length
decreasing_by
 have h1:=Gy h (likeN_drop a b)
 have h2:=List.length_pos_iff.2 h
 rw[dM]at h2
 rw[dM,dM];omega
def Pi{a b:AB}(h:b.drop (bN a b)=[]):dO a b=putP (bN a b):=by
 rw[dO,dif_pos h,cn]
def Uj{a b:AB}(h:b.drop (bN a b)≠[]):dO a b=putP (bN a b)++(putP (oth (a.drop (bN a b)) (b.drop (bN a b)))++((b.drop (bN a b)).take (oth (a.drop (bN a b)) (b.drop (bN a b)))++
      dO ((a.drop (bN a b)).drop (oth (a.drop (bN a b)) (b.drop (bN a b)))) ((b.drop (bN a b)).drop (oth (a.drop (bN a b)) (b.drop (bN a b)))))):=by
  conv=>lhs;rw[dO]
  rw[dif_neg h]
def xB(n:Nat):1<=(putP n).length/\(putP n).length<=n/128+1:=by
 rw[putP]
 split
 ·simp
 ·have h:=xB (n/128)
  simp only[eZ];omega
termination_by n
decreasing_by omega
def Uq(n:Nat):bF (putP n):=by
 rw[putP]
 split
 ·intro x hx
  rw[List.mem_singleton.1 hx];omega
 ·intro x hx
  rcases List.mem_cons.1 hx with rfl|hx
  ·omega
  ·exact Uq (n/128) x hx
termination_by n
decreasing_by omega
def Vn(a b:AB):(dO a b).length<=3*b.length+1:=by
 have hl:=Dr a b
 have hp:=(xB (bN a b)).2
 by_cases h:b.drop (bN a b)=[]
 ·rw[Pi h];omega
 ·rw[Uj h]
  have h1:=Gy h (likeN_drop a b)
  have h2:=Vs (a.drop (bN a b)) (b.drop (bN a b))
  have h3:=(xB (oth (a.drop (bN a b)) (b.drop (bN a b)))).2
  have h4:=Vn ((a.drop (bN a b)).drop (oth (a.drop (bN a b)) (b.drop (bN a b)))) ((b.drop (bN a b)).drop (oth (a.drop (bN a b)) (b.drop (bN a b))))
  simp only[bX,fT,dM]at*
  omega
termination_by b.length
decreasing_by
 have h1:=Gy h (likeN_drop a b)
 have h2:=List.length_pos_iff.2 h
 rw[dM]at h2
 rw[dM,dM];omega
def aE2(a:AB){b:AB}(hb:bF b):bF (dO a b):=by
 have happ:∀{x y:AB},bF x->bF y->bF (x++y):=λh1 h2 z hz=>(List.mem_append.1 hz).elim (h1 z) (h2 z)
 by_cases h:b.drop (bN a b)=[]
 ·rw[Pi h];exact Uq _
 ·rw[Uj h]
  have hd:bF (b.drop (bN a b)):=λx hx=>hb x (dm hx)
  exact happ (Uq _) (happ (Uq _) (happ (λx hx=>hd x (dd hx)) (aE2 _ λx hx=>hd x (dm hx))))
termination_by b.length
decreasing_by
 have h1:=Gy h (likeN_drop a b)
 have h2:=List.length_pos_iff.2 h
 rw[dM]at h2
 rw[dM,dM];omega
end Go.Proofs.YtacejanlmhbddaaGreat
namespace Go.Proofs.YtacejanlmhbddaaGreat.Tm
open Go Go.VV
structure Mark where
 t:Int
 a:AC
 c:Nat
 l:AB
def cm(m:Mark):AA:=[.int .u64 m.t,.slice m.a m.l.length m.c]
def qK(m:Mark):(cm m).length=2:=rfl
def Rise(ms:List Mark):Prop:=ms.Pairwise (λx y=>x.t<y.t)/\∀m∈ms,0<=m.t/\m.t<=4611686018427387904
def Rise.sub{a b:List Mark}(h:Rise b)(hs:a.Sublist b):Rise a:=⟨h.1.sublist hs,λm hm=>h.2 m (hs.subset hm)⟩
def Rise.nil :Rise []:=⟨.nil,λ_ h=>by cases h⟩
def thinR(last:Int):Int->List Mark->List Mark
 |_,[]=>[]
 |_,[m]=>[m]
 |behind,m::p::r=>if behind-p.t<=2+last-behind then thinR last behind (p::r)else m::thinR last m.t (p::r)
def thinL(ms:List Mark):List Mark:=
 match ms.reverse with
 | []=>[]
 |z::r=>(z::thinR z.t z.t r).reverse
def cutL(cap:Nat)(ms:List Mark):List Mark:=ms.take 1++ms.drop (1+(ms.length-cap))
def M1(last:Int):∀(r:List Mark) (b:Int),(thinR last b r).Sublist r
 | [],_=>List.Sublist.refl _
 | [m],_=>List.Sublist.refl _
 |m::p::r,b=>by
  unfold thinR
  split
  ·exact(M1 last (p::r) b).cons m
  ·exact(M1 last (p::r) m.t).cons_cons m
def aE7(ms:List Mark):(thinL ms).Sublist ms:=by
 unfold thinL
 cases h:ms.reverse with
 |nil=>simp
 |cons z r=>
  have:ms=(z::r).reverse:=by rw[<-h,List.reverse_reverse]
  rw[this]
  exact((M1 z.t r z.t).cons_cons z).reverse
def aKs(cap:Nat)(ms:List Mark):(cutL cap ms).Sublist ms:=by
 unfold cutL
 have:ms=ms.take 1++ms.drop 1:=(dp 1 ms).symm
 conv=>rhs;rw[this]
 refine(List.Sublist.refl _).append ?_
 rw[<-bi]
 exact List.drop_sublist _ _
def jH(ms:List Mark)(x:Int):Nat:=(ms.filter (λm=>decide (m.t<x))).length
def wV(ms:List Mark)(x:Int):Nat:=(ms.filter (λm=>decide (m.t<=x))).length
def aAS(ms:List Mark)(x:Int):jH ms x<=ms.length:=g9 _ _
def I5(ms:List Mark)(x:Int):wV ms x<=ms.length:=g9 _ _
def Mb{ms:List Mark}(h:ms.Pairwise (λx y=>x.t<y.t))(x:Int):∀{k:Nat} (hk:k<ms.length),ms[k].t<x↔k<jH ms x:=by
 induction ms with
 |nil=>intro k hk;simp at hk
 |cons m ms ih=>
  intro k hk
  rw[List.pairwise_cons]at h
  unfold jH
  by_cases hm:m.t<x
  ·rw[List.filter_cons_of_pos (by simpa using hm)]
   cases k with
   |zero=>simp[hm]
   |succ k=>
    have:=ih h.2 (k:=k) (by simpa using hk)
    simp only[List.getElem_cons_succ,eZ,Nat.add_lt_add_iff_right]
    exact this
  ·rw[List.filter_cons_of_neg (by simpa using hm)]
   have h0:ms.filter (λm=>decide (m.t<x))=[]:=by
    rw[List.filter_eq_nil_iff]
    intro y hy
    have:=h.1 y hy
    simp;omega
   rw[h0]
   cases k with
   |zero=>simp;omega
   |succ k=>
    have:=h.1 (ms[k]'(by simpa using hk)) (fi _)
    simp;omega
def Qk{ms:List Mark}(h:ms.Pairwise (λx y=>x.t<y.t))(x:Int):∀{k:Nat} (hk:k<ms.length),ms[k].t<=x↔k<wV ms x:=by
 intro k hk
 have h1:=Mb h (x+1) hk
 have h2:jH ms (x+1)=wV ms x:=by
  unfold jH wV
  congr 2
  funext m
  simp only[decide_eq_decide]
  omega
 rw[h2]at h1
 rw[<-h1]
 omega
def aOw(ms:List Mark)(x:Int):jH ms x<=wV ms x:=by
 unfold jH wV
 induction ms with
 |nil=>simp
 |cons m ms ih=>
  simp only[ka]
  split<;>split<;>simp_all<;>omega
def wD(ms:List Mark)(x:Int):Bool:=decide (jH ms x<wV ms x)
def aJ0{ms:List Mark}(h:ms.Pairwise (λx y=>x.t<y.t))(x:Int)(hk:jH ms x<ms.length):ms[jH ms x].t=x↔wD ms x=true:=by
 have h1:=Mb h x hk
 have h2:=Qk h x hk
 simp only[wD,ak]
 omega
def aN5{ms:List Mark}{x:Int}(hk:¬jH ms x<ms.length):wD ms x=false:=by
 have:=I5 ms x
 simp only[wD,ai]
 omega
def aDA{ms:List Mark}(h:ms.Pairwise (λx y=>x.t<y.t))(x:Int):wV ms x=jH ms x+(if wD ms x then 1 else 0):=by
 have h0:=aOw ms x
 have hl:=I5 ms x
 simp only[wD,ak]
 split
 ·rename_i hlt
  have hk:jH ms x<ms.length:=by omega
  by_cases h2:jH ms x+1<wV ms x
  ·exfalso
   have hk2:jH ms x+1<ms.length:=by omega
   have a1:=Mb h x hk
   have a2:=Qk h x hk2
   have a3:=(List.pairwise_iff_getElem.1 h) _ _ hk hk2 I
   omega
  ·omega
 ·omega
def bef(ms:List Mark)(x:Int):Int:=(wV ms x:Int)-1
def m0 :Mark:=⟨0,none,0,[]⟩
def tm(ms:List Mark)(k:Nat):Int:=(ms.getD k m0).t
def tV{ms:List Mark}{k:Nat}(hk:k<ms.length):ms[k].t=tm ms k:=by simp[tm,hk]
def Iq{ms:List Mark}{k:Nat}(hk:k<ms.length):ms[k]=ms.getD k m0:=by simp[hk]
def yG(w:AI)(b:Nat)(cap:Int)(ms:List Mark):Prop:=
 ∃a c,w.cell? ⟨b,0,none⟩=some (.slice a ms.length c)/\ms.length<=c/\w.cell? ⟨b,1,none⟩=some (.int .i64 cap)/\eX w cm a ms
def yG.later0{w0 w:AI}{H:aF}{b:Nat}{cap:Int}{ms:List Mark}(h:yG w0 b cap ms)(hw:St w0 [] H w):yG w b cap ms:=by
 obtain⟨a,c,h0,hc,h1,hE⟩:=h
 exact⟨a,c,dN h0 aP w hw,hc,dN h1 aP w hw,hE.later0 hw⟩
def zG(w:AI)(a:AC)(l:AB):Prop:=(a=none/\l=[])\/∃b off,a=some ⟨b,off,none⟩/\aK w b off (l.map (.int .u8))
def zG.later0{w0 w:AI}{H:aF}{a:AC}{l:AB}(h:zG w0 a l)(hw:St w0 [] H w):zG w a l:=by
 rcases h with h|⟨b,off,ha,hr⟩
 ·exact .inl h
 ·exact .inr ⟨b,off,ha,bU hr aP w hw⟩
abbrev Bm(l:AB)(v:AH)(G:aF):Prop:=bS 5 1 v l.length (l.map (.int .u8)) G
def Bm.slice{l:AB}{v:AH}{G:aF}(h:Bm l v G):∃a c,v= .slice a l.length c/\l.length<=c/\∀(w0 w:AI) (ms:AE) (H:aF),St w0 ms H w->(∀x∈G,x∈H)->zG w a l:=by
 unfold Bm at h
 generalize hx:l.map Z=xs at h
 generalize hn:l.length=n at h⊢
 cases h with
 |nil=>exact⟨none,0,rfl,be _,λ_ _ _ _ _ _=> .inl ⟨rfl,db hn⟩⟩
 |row b _ cap _ sp h1 h2 h3 h4=>
  refine⟨_,cap,U,h4,λw0 w ms H hw hs=> .inr ⟨b,0,U,?_⟩⟩
  rw[hx]
  exact(aK.all (hw.holds _ (hs _ (.head _)))).left
def aFp(w:AI)(ms:List Mark):Prop:=∀m∈ms,m.l.length<=m.c/\m.l.length<=140737488355328/\zG w m.a m.l
def wZ(D:aF)(ms:List Mark):Prop:=∀m∈ms,m.l.length<=m.c/\m.l.length<=140737488355328/\∀(w0 w:AI) (ms:AE) (H:aF),St w0 ms H w->(∀x∈D,x∈H)->zG w m.a m.l
def wZ.sub{D:aF}{a b:List Mark}(h:wZ D b)(hs:a.Sublist b):wZ D a:=λm hm=>h m (hs.subset hm)
def wZ.more{D D':aF}{ms:List Mark}(h:wZ D ms)(hs:∀x∈D,x∈D'):wZ D' ms:=λm hm=>⟨(h m hm).1,(h m hm).2.1,λw0 w ms H hw hx=>(h m hm).2.2 w0 w ms H hw λx hx'=>hx x (hs x hx')⟩
def wZ.datW{D H:aF}{ms:List Mark}{w0 w:AI}{bs:AE}(h:wZ D ms)(hw:St w0 bs H w)(hs:∀x∈D,x∈H):aFp w ms:=λm hm=>⟨(h m hm).1,(h m hm).2.1,(h m hm).2.2 w0 w bs H hw hs⟩
def Jl{w:AI}{b off:Nat}{ms:List Mark}(hr:aK w b off (aM cm ms)){k:Nat}(hk:k<ms.length):w.cell? ⟨b,off+k*2+0,none⟩=some (.int .u64 (tm ms k)):=by
 have:=aK.nth qK hr hk 0 _ rfl
 rw[tV hk]at this
 exact this
def aIJ{w:AI}{b off:Nat}{ms:List Mark}(hr:aK w b off (aM cm ms)){k:Nat}(hk:k<ms.length):
  w.cell? ⟨b,off+k*2+1,none⟩=some (.slice (ms.getD k m0).a (ms.getD k m0).l.length (ms.getD k m0).c):=by
 have:=aK.nth qK hr hk 1 _ rfl
 rw[Iq hk]at this
 exact this
def Bs{w:AI}{b off:Nat}{ms:List Mark}(hr:aK w b off (aM cm ms)){k:Nat}(hk:k<ms.length):aK w b (off+k*2) (cm (ms.getD k m0)):=by
 have:=aK.nth qK hr hk
 rw[Iq hk]at this
 exact this
def iG(ms:List Mark):Int:=if ms.length=0 then 0 else tm ms (ms.length-1)
def aIq{ms:List Mark}(h:ms.length=0):(Value.tuple #[.int .u64 (iG ms),.bool (decide (ms.length≠0))])= .tuple #[.int .u64 0,.bool false]:=by simp[iG,h]
def aKZ{ms:List Mark}(h:ms.length≠0):(Value.tuple #[.int .u64 (iG ms),.bool (decide (ms.length≠0))])= .tuple #[.int .u64 (tm ms (ms.length-1)),.bool true]:=by simp[iG,h]
def K9{ms:List Mark}(h:ms.length≠0):tm ms (ms.length-1)=iG ms:=by simp[iG,h]
def cmpI(a b:Int):Int:=if a<b then -1 else if a>b then 1 else 0
def aJk{a b:Int}(h:decide (a<b)=true):(-1:Int)=cmpI a b:=by simp at h;simp[cmpI,h]
def aPX{a b:Int}(h:decide (a<b)=false)(h2:decide (b<a)=true):(1:Int)=cmpI a b:=by simp at h h2;simp[cmpI,h2];omega
def aJ9{a b:Int}(h:decide (a<b)=false)(h2:decide (b<a)=false):(0:Int)=cmpI a b:=by simp at h h2;simp[cmpI];omega
def aJB{lo hi:Nat}(h:hi<=1000000000)(hl:lo<=hi):IntKind.i64.wrap ((IntKind.u64.wrap (IntKind.i64.wrap ((lo:Int)+(hi:Int)))).fdiv (2^min (1:Int).toNat 64))=(((lo+hi)/2:Nat):Int):=by
 rw[bZ (n:=(lo:Int)+hi) I I,qB I I]
 have:(2:Int)^min (1:Int).toNat 64=2:=by decide
 rw[this,eu _ I,bZ I I]
 omega
def aPJ{ms:List Mark}(hR:Rise ms){x:Int}{k:Nat}(hk:k<ms.length)(h:decide (cmpI (tm ms k) x<0)=true):k<jH ms x:=by
 rw[<-Mb hR.1 x hk,tV hk]
 simp[cmpI]at h
 split at h
 ·assumption
 ·split at h<;>omega
def aLL{ms:List Mark}(hR:Rise ms){x:Int}{k:Nat}(hk:k<ms.length)(h:decide (cmpI (tm ms k) x<0)=false):jH ms x<=k:=by
 have:=Mb hR.1 x hk
 rw[tV hk]at this
 by_cases h2:tm ms k<x
 ·simp[cmpI,h2]at h
 ·omega
def aHg{ms:List Mark}(hR:Rise ms){x:Int}(hk:jH ms x<ms.length):(cmpI (tm ms (jH ms x)) x==0)=wD ms x:=by
 have h1:=aJ0 hR.1 x hk
 rw[tV hk]at h1
 have h2:cmpI (tm ms (jH ms x)) x=0↔tm ms (jH ms x)=x:=by
  unfold cmpI
  split
  ·constructor<;>intro<;>omega
  ·split
   ·constructor<;>intro<;>omega
   ·constructor<;>intro<;>omega
 rw[ep,cj,h2,h1]
def aOu{ms:List Mark}(hR:Rise ms){x:Int}(h:wD ms x=true):((jH ms x:Nat):Int)=bef ms x:=by
 rw[bef,aDA hR.1,h];simp
def aNJ{ms:List Mark}(hR:Rise ms)(hl:ms.length<1000000000){x:Int}(h:wD ms x=false):IntKind.i64.wrap (((jH ms x:Nat):Int)-1)=bef ms x:=by
 have:=aAS ms x
 rw[bZ I I,bef,aDA hR.1,h];simp
def N1{ms:List Mark}{x:Int}(h:¬bef ms x<0):(bef ms x).toNat<ms.length/\((bef ms x).toNat:Int)=bef ms x:=by
 have:=I5 ms x
 unfold bef at*
 omega
def befM(ms:List Mark)(x:Int):Mark:=if bef ms x<0 then m0 else ms.getD (bef ms x).toNat m0
def aDO{ms:List Mark}{x:Int}(h:bef ms x<0):befM ms x=m0:=by simp[befM,h]
def Kj{ms:List Mark}{x:Int}(h:¬bef ms x<0):ms.getD (bef ms x).toNat m0=befM ms x:=by simp[befM,h]
def befM_mem{ms:List Mark}{x:Int}(h:¬bef ms x<0):befM ms x∈ms:=by
 have:=(N1 h).1
 rw[<-Kj h]
 simp[this]
def times(ms:List Mark):AB:=ms.map (·.t)
def times_len(ms:List Mark):(times ms).length=ms.length:=by simp[times]
def aL6{ms:List Mark}{k:Nat}(hk:k<ms.length):(times (ms.take (k+1))).map (Value.int .u64)=(times (ms.take k)).map (.int .u64)++[.int .u64 (tm ms k)]:=by
 rw[fu hk,times,bz,bz,tm_get' hk]
 rfl
where tm_get' {ms:List Mark} {k:Nat} (hk:k<ms.length):[ms[k]].map (·.t)=[tm ms k]:=by simp[tm,hk]
def E9{ms:List Mark}(hR:Rise ms){k:Nat}(hk:k<ms.length):tm ms k<=iG ms:=by
 rw[iG,ae I]
 rcases du k (ms.length-1)with h|h
 ·have:=(List.pairwise_iff_getElem.1 hR.1) k (ms.length-1) hk I h
  rw[tV hk,tV I]at this
  omega
 ·have:k=ms.length-1:=by omega
  subst this;exact iu _
def aQr{ms:List Mark}(hR:Rise ms){x:Int}(h:¬bef ms x<0):(befM ms x).t<=x/\0<=(befM ms x).t/\(befM ms x).t<=iG ms/\iG ms<=4611686018427387904:=by
 obtain⟨h1,h2⟩:=N1 h
 have h3:=(Qk hR.1 x h1).2 (by unfold bef at *; omega)
 have h4:=hR.2 ms[(bef ms x).toNat] (fi _)
 have h5:=E9 hR h1
 have h6:iG ms<=4611686018427387904:=by
  rw[iG,ae I,<-tV I]
  exact(hR.2 _ (fi _)).2
 rw[<-Kj h]
 rw[tV h1]at h3 h4
 unfold tm at h3 h4 h5
 exact⟨h3,h4.1,h5,h6⟩
def aO6{ms:List Mark}{x:Int}(h:bef ms x<0):Value.tuple #[.int .u64 0,.slice none 0 0,.bool false]= .tuple #[.int .u64 (befM ms x).t,.slice none 0 0,.bool (decide (0<=bef ms x))]:=by
 rw[aDO h];simp[m0];exact h
def aNd{ms:List Mark}{x:Int}(h:¬bef ms x<0)(dv:AH):Value.tuple #[.int .u64 (tm ms (bef ms x).toNat),dv,.bool true]= .tuple #[.int .u64 (befM ms x).t,dv,.bool (decide (0<=bef ms x))]:=by
 rw[<-Kj h];simp[tm];omega
def St.pick{w0 w:AI}{ms:AE}{L:aF}(ix:AE)(h:St w0 ms L w)(hp:decide ix.Nodup=true):St w0 ms (ix.filterMap (L[·]?)) w:=by
 have hp:=df hp
 have hmem:∀x∈ix.filterMap (L[·]?),x∈L:=λx hx=>by
  obtain⟨i,_,hi⟩:=List.mem_filterMap.1 hx
  exact cr hi
 refine⟨h.os,h.tape,h.output,h.size,h.block,?_,λx hx=>h.own x (hmem x hx),λx hx=>h.holds x (hmem x hx)⟩
 rw[List.map_filterMap]
 refine List.Pairwise.filterMap _ ?_ hp
 intro a a' haa b hb b' hb' hbb
 obtain⟨x,hx,rfl⟩:=Option.map_eq_some_iff.1 hb
 obtain⟨x',hx',rfl⟩:=Option.map_eq_some_iff.1 hb'
 obtain⟨h1,rfl⟩:=List.getElem?_eq_some_iff.1 hx
 obtain⟨h2,rfl⟩:=List.getElem?_eq_some_iff.1 hx'
 have hn:=List.pairwise_iff_getElem.1 h.nodup
 rcases Nat.lt_trichotomy a a' with h3|h3|h3
 ·exact hn a a' (by simpa using h1) (by simpa using h2) h3 (by simpa using hbb)
 ·exact haa h3
 ·exact hn a' a (by simpa using h2) (by simpa using h1) h3 (by simpa using hbb.symm)
def St.lend{w0 w:AI}{ms:AE}{F G:aF}(h:St w0 ms (F++G) w):St w (F.map (·.1)) F w:=
 St.lent (by have:=h.nodup;rw[bz,dx]at this;exact this.1) λx hx=>h.holds x (by simp[hx])
def Jb(ms:List Mark)(sp:AA){k:Nat}(hk:k<ms.length)(x:Mark):aV (aM cm ms++sp) (0+k*2) (cm x)=aM cm (ms.set k x)++sp:=by
 have h1:ms=ms.take k++ms[k]::ms.drop (k+1):=Km hk
 have hl:(ms.take k).length=k:=by rw[fT];omega
 have h2:=F3 qK (ms.take k) (ms.drop (k+1)) ms[k] x sp
 rw[hl,<-h1]at h2
 rw[h2,dt,ag hk]
def aEC(ms:List Mark)(sp:AA){k:Nat}(hk:k<ms.length)(x:Mark):0+k*2+(cm x).length<=(aM cm ms++sp).length:=by
 rw[bX,gH qK,qK];omega
def Ap(ms cur:List Mark)(i:Nat):Prop:=cur.length=ms.length/\∀k,k<ms.length->cur.getD k m0=if k<i\/ms.length<=k+i then ms.getD (ms.length-1-k) m0 else ms.getD k m0
def Ap.zero(ms:List Mark):Ap ms ms 0:=⟨rfl,λk hk=>by rw[ae I]⟩
def aCb(l:List Mark)(i k:Nat)(x:Mark)(hi:i<l.length):(l.set i x).getD k m0=if k=i then x else l.getD k m0:=by
 simp only[gU,jv]
 by_cases h:i=k
 ·subst h;simp[hi]
 ·rw[ae h,ae (Ne.symm h)]
def Ap.step{ms cur:List Mark}{i:Nat}(h:Ap ms cur i)(hi:i+i+1<ms.length):
  Ap ms ((cur.set i (cur.getD (ms.length-1-i) m0)).set (ms.length-1-i) (cur.getD i m0)) (i+1):=by
 obtain⟨hl,hk⟩:=h
 refine⟨by simp[hl],λk hkl=>?_⟩
 rw[aCb _ _ _ _ (by simp[hl];omega),aCb _ _ _ _ I]
 have h1:=hk i I
 have h2:=hk (ms.length-1-i) I
 rw[ae I]at h1 h2
 by_cases e1:k=ms.length-1-i
 ·rw[ag e1,ag I,h1];congr 1;omega
 ·rw[ae e1]
  by_cases e2:k=i
  ·rw[ag e2,ag I,h2,e2]
  ·rw[ae e2,hk k hkl]
   by_cases e3:k<i\/ms.length<=k+i
   ·rw[ag e3,ag I]
   ·rw[ae e3,ae I]
def Ap.last{ms cur:List Mark}{i:Nat}(h:Ap ms cur i)(hi:ms.length<=i+i+1):cur=ms.reverse:=by
 obtain⟨hl,hk⟩:=h
 apply j0 zC
 intro k h1 h2
 have h3:=hk k I
 rw[List.getElem_reverse,Iq,Iq,h3]
 by_cases e:k<i\/ms.length<=k+i
 ·rw[ag e]
 ·rw[ae e];congr 1;omega
def aE6{n i:Nat}(h:i<=n)(hn:n<1000000000):IntKind.i64.wrap ((n:Int)-1-(i:Int)-1)=(n:Int)-1-((i+1:Nat):Int):=by
 rw[bZ I I];omega
def Ty{n:Nat}(h:n≠0)(hn:n<1000000000):IntKind.i64.wrap ((n:Int)-1)=((n-1:Nat):Int):=by
 rw[bZ I I];omega
def aGM{m a b:Nat}(h:b=a+1)(ha:a<m)(hm:m<1000000000):IntKind.i64.wrap ((m:Int)-1-(a:Int)-1)=(m:Int)-1-(b:Int):=by
 subst h;exact aE6 I hm
def rr(ms:List Mark)(j:Nat):List Mark:=ms.dropLast.reverse.drop j
def Pm{ms:List Mark}{j:Nat}(h:j+1<ms.length):rr ms j=ms.getD (ms.length-1-1-j) m0::rr ms (j+1):=by
 unfold rr
 have hl:j<ms.dropLast.reverse.length:=by simp;omega
 rw[fv hl,List.getElem_reverse,List.getElem_dropLast,Iq]
 simp only[ig]
def aC6{ms:List Mark}{j:Nat}(h:ms.length<=j+1):rr ms j=[]:=by
 unfold rr
 apply gq
 simp;omega
def aAz{ms:List Mark}(h:ms.length≠0):thinL ms=(ms.getD (ms.length-1) m0::thinR (iG ms) (iG ms) (rr ms 0)).reverse:=by
 obtain⟨A,a,rfl⟩:=N7 (l:=ms) I
 simp[thinL,rr,iG,tm]
structure Kept(ms K:List Mark)(j q:Nat):Prop where
 pos:0<K.length
 small:K.length<=j+1
 last:K.getD (K.length-1) m0=ms.getD q m0
 hi:q<ms.length
 lo:ms.length<=q+j+1
 rest:ms.getD (ms.length-1) m0::thinR (iG ms) (iG ms) (rr ms 0)=K++thinR (iG ms) (tm ms q) (rr ms j)
def Kept.zero{ms:List Mark}(h:ms.length≠0):Kept ms [ms.getD (ms.length-1) m0] 0 (ms.length-1):=
 ⟨kQ,kQ,kQ,aR,aR,by rw[K9 h];rfl⟩
def aGS{ms:List Mark}(hR:Rise ms){i j:Nat}(hij:i<=j)(hj:j<ms.length):tm ms i<=tm ms j:=by
 rcases du i j with h|h
 ·have:=(List.pairwise_iff_getElem.1 hR.1) i j I hj h
  rw[tV I,tV hj]at this;omega
 ·have:i=j:=by omega
  subst this;exact iu _
def Ut{ms:List Mark}(hR:Rise ms){j:Nat}(hj:j<ms.length):0<=tm ms j/\tm ms j<=4611686018427387904:=by
 have:=hR.2 _ (fi hj)
 rw[tV hj]at this;exact this
def X2{ms:List Mark}(hR:Rise ms){p q:Nat}(hpq:p<=q)(hq:q<ms.length):IntKind.u64.wrap (tm ms q-tm ms p)=tm ms q-tm ms p:=by
 have h1:=aGS hR hpq hq
 have h2:=Ut hR hq
 have h3:=Ut hR (j:=p) I
 exact qB I I
def aDI{ms:List Mark}(hR:Rise ms){q:Nat}(hq:q<ms.length):IntKind.u64.wrap (IntKind.u64.wrap (2+iG ms)-tm ms q)=2+iG ms-tm ms q:=by
 have h1:=E9 hR hq
 have h2:=Ut hR hq
 have h3:=Ut hR (j:=ms.length-1) I
 rw[K9 I]at h3
 rw[qB (n:=2+iG ms) I I,qB I I]
def Kept.skip{ms K:List Mark}{j q:Nat}(h:Kept ms K j q)(hR:Rise ms)(hj:j+2<ms.length)
  (hc:decide (IntKind.u64.wrap (tm ms q-tm ms (ms.length-1-1-j-1))<=IntKind.u64.wrap (IntKind.u64.wrap (2+iG ms)-tm ms q))=true):Kept ms K (j+1) q:=by
 have hlo:=h.lo
 rw[X2 hR I h.hi,aDI hR h.hi,ak]at hc
 refine⟨h.pos,by have:=h.small;omega,h.last,h.hi,aR,?_⟩
 rw[h.rest,Pm I,Pm (j:=j+1) I]
 have e:ms.length-1-1-j-1=ms.length-1-1-(j+1):=by omega
 rw[e]at hc
 conv=>lhs;unfold thinR
 rw[ag (show tm ms q-(ms.getD (ms.length-1-1-(j+1)) m0).t<=_ from hc)]
def Kept.keep{ms K:List Mark}{j q:Nat}(h:Kept ms K j q)(hR:Rise ms)(hj:j+1<ms.length)
  (hc:j+2<ms.length->decide (IntKind.u64.wrap (tm ms q-tm ms (ms.length-1-1-j-1))<=IntKind.u64.wrap (IntKind.u64.wrap (2+iG ms)-tm ms q))=false):
  Kept ms (K++[ms.getD (ms.length-1-1-j) m0]) (j+1) (ms.length-1-1-j):=by
 have hlo:=h.lo
 refine⟨kQ,by have:=h.small;simp;omega,kQ,aR,aR,?_⟩
 rw[h.rest,Pm hj]
 rcases du (j+2) ms.length with h2|h2
 ·have hc:=hc h2
  rw[X2 hR I h.hi,aDI hR h.hi,ai]at hc
  rw[Pm (j:=j+1) I]
  have e:ms.length-1-1-j-1=ms.length-1-1-(j+1):=by omega
  rw[e]at hc
  conv=>lhs;unfold thinR
  rw[ae (show ¬tm ms q-(ms.getD (ms.length-1-1-(j+1)) m0).t<=_ from hc),eG]
  rfl
 ·rw[aC6 (j:=j+1) I]
  simp[thinR]
def Kept.done{ms K:List Mark}{j q:Nat}(h:Kept ms K j q)(hj:ms.length<=j+1):thinL ms=K.reverse:=by
 rw[aAz (by have:=h.hi;omega),h.rest,aC6 hj]
 simp[thinR]
def Kept.behind{ms K:List Mark}{j q:Nat}(h:Kept ms K j q):tm K (K.length-1)=tm ms q:=by
 unfold tm;rw[h.last]
def aIw{ms:List Mark}(h:ms.length≠0){w:AI}{b off:Nat}(hr:aK w b off (aM cm ms)):w.cell? ⟨b,off+(ms.length-1)*2+0,none⟩=some (.int .u64 (iG ms)):=by
 rw[<-K9 h];exact Jl hr I
def Kept.at_{ms K:List Mark}{j q:Nat}(h:Kept ms K j q){w:AI}{b off:Nat}(hr:aK w b off (aM cm K)):w.cell? ⟨b,off+(K.length-1)*2+0,none⟩=some (.int .u64 (tm ms q)):=by
 rw[<-h.behind];exact Jl hr (by have:=h.pos;omega)
def Lc{T s:Nat}{v:AH}{n:Nat}{xs:AA}{G:aF}(h:bS T s v n xs G)(hn:n≠0):
  ∃b cap sp,v= .slice (Q_ b) n cap/\G=[(b,J (xs++sp) T)]/\(xs++sp).length=cap*s/\n<=cap/\cap<=maxLen:=by
 cases h with
 |nil=>exact absurd rfl hn
 |row b _ cap _ sp h1 h2 h3 h4=>exact⟨b,cap,sp,rfl,rfl,h2,h4,h3⟩
def Ro{b cap:Nat}{ms:List Mark}{sp:AA}(h2:(aM cm ms++sp).length=cap*2)(h4:ms.length<=cap)(h3:cap<=maxLen):
  bS 228 2 (.slice (Q_ b) ms.length cap) ms.length (aM cm ms) [(b,J (aM cm ms++sp) 228)]:=
 .row b _ cap _ sp (gH qK ms) h2 h3 h4
def uJ(b:Nat)(cap:Int)(ms:List Mark)(H:aF):Prop:=∃v G,H=(b,J [v,.int .i64 cap] 215)::G/\bS 228 2 v ms.length (aM cm ms) G
def aIc{v:AH}{ms:List Mark}{G:aF}(h:bS 228 2 v ms.length (aM cm ms) G)(hn:ms.length≠0):
  ∃b cap sp,v= .slice (Q_ b) ms.length cap/\G=[(b,J (aM cm ms++sp) 228)]/\(aM cm ms++sp).length=cap*2/\ms.length<=cap/\cap<=maxLen:=Lc h hn
abbrev Am(lb bx bm m c:Nat)(rec:Loop)(ms:List Mark)(sp:AA)(T:aF):aF:=
 (lb,.loop rec)::(bx,J [.slice (Q_ bm) m c] 213)::(bm,J (aM cm ms++sp) 228)::T
structure TS where
 j:Nat
 K:List Mark
 b:Nat
 c:Nat
 sp:AA
 q:Nat
def TS.ok(ms:List Mark)(s:TS):Prop:=Kept ms s.K s.j s.q/\(aM cm s.K++s.sp).length=s.c*2/\s.K.length<=s.c/\s.c<=maxLen
abbrev Od(b4 b3 b1 b:Nat)(lT:Int)(line:AA)(s:TS):aF:=
 [(b4,J [.slice (Q_ s.b) s.K.length s.c] 213),(b3,J [.int .u64 lT] 36),(b1,J [P_ b] 95),(b,J line 215),(s.b,J (aM cm s.K++s.sp) 228)]
def aAV{b c n:Nat}:Value.slice (some ⟨b,nG 0 0 2 c,none⟩) (n-0) (c-0)= .slice (Q_ b) n c:=by simp[nG]
def gE(X Y vs:AA){off:Nat}(h:X.length<=off):aV (X++Y) off vs=X++aV Y (off-X.length) vs:=by
 unfold aV
 rw[j2,iz,dq h,d5 I,cg,eG,eG,eG]
 have:off+vs.length-X.length=off-X.length+vs.length:=by omega
 rw[this]
def aAu(ms:List Mark)(j:Nat):aM cm ms=aM cm (ms.take j)++aM cm (ms.drop j):=by rw[<-vM,dp]
def aHF{w:AI}{b j c:Nat}{ms:List Mark}{sp:AA}(hr:aK w b 0 (aM cm ms++sp))(hj:j<=ms.length)(hc:ms.length<=c):aK w b (nG 0 j 2 c) (aM cm (ms.drop j)):=by
 have h1:=hr.cut (l:=j) (k:=ms.length-j) (s:=2) (c:=c) I
 have hl:(aM cm (ms.take j)).length=j*2:=by rw[gH qK,fT];congr 1;omega
 have hl2:(aM cm (ms.drop j)).length=(ms.length-j)*2:=by rw[gH qK,dM]
 rw[aAu ms j,eG,<-hl,f3,<-hl2,io]at h1
 exact h1
def aJn(ms:List Mark)(sp zs:AA){j:Nat}(h1:1<=ms.length)(hj:j<=ms.length):
  ∃sp',aV (aV (aM cm ms++sp) (1*2) (aM cm (ms.drop j))) ((1+(ms.length-j))*2) zs=aM cm (ms.take 1++ms.drop j)++sp':=by
 have hl:(aM cm (ms.take 1)).length=1*2:=by rw[gH qK,fT];congr 1;omega
 have hl2:(aM cm (ms.drop j)).length=(ms.length-j)*2:=by rw[gH qK,dM]
 rw[aAu ms 1,eG,gE _ _ _ I,hl,j4]
 have:aV (aM cm (ms.drop 1)++sp) 0 (aM cm (ms.drop j))=aM cm (ms.drop j)++(aM cm (ms.drop 1)++sp).drop (0+(aM cm (ms.drop j)).length):=by simp[aV]
 rw[this,<-eG,<-vM,gE _ _ _ (by rw[vM,bX,hl,hl2];omega)]
 exact⟨_,U⟩
def Vy(ms:List Mark)(sp:AA){j:Nat}(hj:j<=ms.length)(h1:1<=j):1*2+(aM cm (ms.drop j)).length<=(aM cm ms++sp).length:=by
 rw[gH qK,bX,gH qK,dM];omega
def aJV{b l c n k m:Nat}(h:l<c)(hk:n-l=k)(hm:l*2=m):Value.slice (some ⟨b,nG 0 l 2 c,none⟩) (n-l) (c-l)= .slice (some ⟨b,m,none⟩) k (c-l):=by
 rw[nG,ae I,hk,bj,hm]
def aLf(ms:List Mark):fJ (aM cm ms)=true:=by
 refine List.all_eq_true.2 λx hx=>?_
 obtain⟨m,_,hm⟩:=List.mem_flatMap.1 hx
 simp only[cm,ea,ei,or_false]at hm
 rcases hm with rfl|rfl<;>rfl
def Vv{ms:List Mark}{mk:Mark}(h:Rise ms)(h0:0<=mk.t)(h1:mk.t<=4611686018427387904)(hl:ms.length≠0->iG ms<mk.t):Rise (ms++[mk]):=by
 refine⟨List.pairwise_append.2 ⟨h.1,kQ,?_⟩,?_⟩
 ·intro a ha b hb
  have:b=mk:=by simpa using hb
  subst this
  obtain⟨k,hk,rfl⟩:=gj ha
  have h2:=E9 h hk
  have:=hl I
  rw[tV hk];omega
 ·intro m hm
  rcases List.mem_append.1 hm with hm|hm
  ·exact h.2 m hm
  ·have:m=mk:=by simpa using hm
   subst this;exact⟨h0,h1⟩
def rP(ms:List Mark)(t:Int):Int:=if 4611686018427387904<t then 1 else if ms.length=0 then(if t=0 then 0 else 1)else if t<=iG ms then 10 else 0
def addM(cap:Nat)(ms:List Mark)(mk:Mark):List Mark:=cutL cap (thinL (ms++[mk]))
def Q6{ms:List Mark}(h:ms.length≠0):1<=(thinL ms).length:=by rw[aAz h];simp
def aFo(ms:List Mark):(thinL ms).length<=ms.length:=(aE7 ms).length_le
def E6{cap:Nat}{ms:List Mark}(h:ms.length<=cap):cutL cap ms=ms:=by
 rw[cutL,show ms.length-cap=0 by omega,gt,dp]
def aDb{ms:List Mark}{t:Int}(h:4611686018427387904<t):rP ms t=1:=by simp[rP,h]
def R9{ms:List Mark}{t:Int}(h:¬4611686018427387904<t)(hz:ms.length=0)(ht:t≠0):rP ms t=1:=by simp[rP,h,hz,ht]
def T0{ms:List Mark}{t:Int}(h:¬4611686018427387904<t)(hz:ms.length≠0)(ht:t<=iG ms):rP ms t=10:=by simp[rP,h,hz,ht]
def Oq{ms:List Mark}{t:Int}(h:¬4611686018427387904<t)(h2:ms.length=0->t=0)(h3:ms.length≠0->¬t<=iG ms):rP ms t=0:=by
 unfold rP
 rw[ae h]
 split
 ·rw[ag (h2 ‹_›)]
 ·rw[ae (h3 ‹_›)]
def BytS(w:AI)(bs:AE)(a:AC)(l:AB):Prop:=(a=none/\l=[])\/∃b off,a=some ⟨b,off,none⟩/\b∉bs/\aK w b off (l.map (.int .u8))
def BytS.later{w0 w:AI}{bs:AE}{H:aF}{a:AC}{l:AB}(h:BytS w0 bs a l)(hw:St w0 bs H w):zG w a l:=by
 rcases h with h|⟨b,off,ha,hb,hr⟩
 ·exact .inl h
 ·exact .inr ⟨b,off,ha,bU hr hb w hw⟩
def uJ.lineW{b:Nat}{cap:Int}{ms:List Mark}{G H:aF}{w0 w:AI}{bs:AE}(h:uJ b cap ms G)(hw:St w0 bs H w)(hs:∀x∈G,x∈H):yG w b cap ms:=by
 obtain⟨v,G',rfl,hV⟩:=h
 obtain⟨a,c,rfl,hl,hc,hE⟩:=hV.gives qK aD
 refine⟨a,c,?_,hc,?_,hE.els hw λx hx=>hs x (.tail _ hx)⟩
 ·rw[tI (hw.holds _ (hs _ (.head _)))];rfl
 ·rw[tI (hw.holds _ (hs _ (.head _)))];rfl
def aLm(b:Nat)(cap:Int)(ms:List Mark)(t:Int)(l:AB)(G:aF)(v:AH)(H:aF):Prop:=
 v= .int .i64 (rP ms t)/\((rP ms t≠0/\H=G)\/(rP ms t=0/\∃mk G' D',mk.t=t/\mk.l=l/\mk.l.length<=mk.c/\H=G'++D'/\uJ b cap (addM cap.toNat ms mk) G'/\Bm l (.slice mk.a l.length mk.c) D'))
def aBf{b b9 c9:Nat}{cap:Int}{ms tt:List Mark}{mk:Mark}{sp8:AA}(hT:thinL (ms++[mk])=tt)(ho:cap.toNat<tt.length)(h2:1<=cap.toNat)(hcl:tt.length<=c9)(hmx:c9<=maxLen)
  (hsp:(aM cm (tt.take 1++tt.drop (1+(tt.length-cap.toNat)))++sp8).length=c9*2):
  uJ b cap (addM cap.toNat ms mk) [(b,J [.slice (Q_ b9) (1+(tt.length-(1+(tt.length-cap.toNat)))) c9,.int .i64 cap] 215),(b9,J (aM cm (tt.take 1++tt.drop (1+(tt.length-cap.toNat)))++sp8) 228)]:=by
 have hl:(tt.take 1++tt.drop (1+(tt.length-cap.toNat))).length=1+(tt.length-(1+(tt.length-cap.toNat))):=by
  rw[bX,fT,dM];omega
 refine⟨_,_,U,?_⟩
 unfold addM cutL
 rw[hT,<-hl]
 exact Ro hsp (by rw[hl];omega) hmx
end Go.Proofs.YtacejanlmhbddaaGreat.Tm
namespace Go.Proofs.YtacejanlmhbddaaGreat.Tm
open Go Go.VV Go.Proofs Go.Proofs.Tryz
def new_fn(n:Int)(w:AI):
  aG prog 45 [.int .i64 n] w [] (λv H=>∃b,v=P_ b/\H=[(b,J [.slice none 0 0,.int .i64 (max 2 (min n 256))] 215)]):=by
 refine aT func45 ?_
 refine gL ?_
 refine RY (tD U U) U (RY (Ec U U) U (RS ?_))
 refine RX (eE U U) U ?_
 rintro _ _ ⟨b7,rfl,rfl⟩
 refine bY ?_
 exact EV U aJ ⟨_,U,U⟩
def last_fn(b:Nat)(cap:Int)(ms:List Mark)(hlen:ms.length<1000000000)(w:AI)(hL:yG w b cap ms):
  aG prog 53 [P_ b] w [] (V_ (.tuple #[.int .u64 (iG ms),.bool (decide (ms.length≠0))])):=by
 obtain⟨a,c,q0,qc,q1,hE⟩:=hL
 refine aT func53 ?_
 refine jJ ?_
 refine W (aW U U (dN q0 aP)) U (RY gT U (bY ?_))
 refine KC (λh1 h1n=>?_) (λh1 h1n=>?_)
 ·refine eD ?_
  exact aU (λ_ _=>dX U U) ⟨U,by rw[aIq aL]⟩
 refine aX ?_
 obtain⟨br,off,rfl,hr⟩:=hE aL
 refine DR [4,5,6,7,8,9] (bQ [0,2,4,6,8,10,12,14,16,18,20,22,24,26,28]) ?_
 refine bY ?_
 refine DL U U U (gS q0 aP) U (bY ?_)
 refine DL U U U (gS q0 aP) U (DY U gT U (DW (v:=(.int .i64 ((ms.length-1:Nat):Int))) U U U (by simp only[Value.int.injEq,true_and];rw[bZ I I];(try simp only[ak,ai,cj,av,co,aw,ne_eq]at *);omega) (DY U (fV (ms.length-1) U U U U aL) U ?_)))
 refine bG ?_
 refine DL U U U (gS (Jl hr aL) aP) U (eV ?_)
 exact aU (λ_ _=>dX U U) ⟨U,by rw[aKZ aL]⟩
def S5(m:Mark)(x:Int)(w:AI):
  aG prog 181 [.agg (cm m).toArray,.int .u64 x] w [] (V_ (.int .i64 (cmpI m.t x))):=by
 refine aT func181 ?_
 refine aX ?_
 refine RX (eE U U) U ?_
 rintro _ _ ⟨b2,rfl,rfl⟩
 refine fG ?_
 refine KC (λh1 h1n=>?_) (λh1 h1n=>?_)
 ·refine cT ?_
  exact E0 U ⟨U,M _ (aJk h1)⟩
 refine mG ?_
 refine KC (λh2 h2n=>?_) (λh2 h2n=>?_)
 ·refine cT ?_
  exact E0 U ⟨U,M _ (aPX h1 h2)⟩
 refine eD ?_
 exact E0 U ⟨U,M _ (aJ9 h1 h2)⟩
def aKk(a:AC)(c:Nat)(ms:List Mark)(hR:Rise ms)(hlen:ms.length<1000000000)(x:Int)(w:AI)(hE:eX w cm a ms):
  aG prog 180 [.slice a ms.length c,.int .u64 x,.func (.func 181) #[] #[]] w [] (V_ (.tuple #[.int .i64 (jH ms x),.bool (wD ms x)])):=by
 refine aT func180 ?_
 refine mG ?_
 refine RY gT U (cL ?_)
 refine yC (σ:=Nat×Nat) [9,10,11,15,16,17,18,19,20,21,22,23,24,25,26,27,28,29,30,31,32,33,34] (λs=>[(9,.int .i64 s.1),(10,.int .i64 s.2)]) (λs=>s.1<=jH ms x/\jH ms x<=s.2/\s.2<=ms.length) (λs=>s.2-s.1) (0,ms.length) ?_ ?_ ?_
 ·exact⟨aq _,aAS _ _,be _⟩
 ·exact .cons U (.cons U .nil)
 rintro⟨lo,hi⟩ y ⟨hlo,hcl,hhi⟩
 simp only at hlo hcl hhi⊢
 refine gL ?_
 refine KC (λh1 h1n=>?_) (λh1 h1n=>?_)
 ·refine bW ?_
  refine RW (v:=(.int .i64 (((lo+hi)/2:Nat):Int))) U U (M _ (aJB aL aL)) (bY ?_)
  obtain⟨br,off,rfl,hr⟩:=hE aL
  refine eV ?_
  refine RY (fV ((lo+hi)/2) U U U U aL) U (W (bJ U U U (bU (Bs hr aL) aP)) U (bG ?_))
  refine W (uT (A:=[]) (B:=[]) U K_ U (aS (S5 _ x))) U (aX ?_)
  refine KC (λh2 h2n=>?_) (λh2 h2n=>?_)
  ·refine cT ?_
   exact⟨((lo+hi)/2+1,hi),⟨aPJ hR aL h2,hcl,hhi⟩,gO,.cons (M _ (eU I)) (.cons U .nil),bB,λ_ h=>h⟩
  refine eV ?_
  exact⟨(lo,(lo+hi)/2),⟨hlo,aLL hR aL h2,gO⟩,gO,.cons U (.cons U .nil),bB,λ_ h=>h⟩
 refine aX ?_
 obtain rfl:lo=jH ms x:=by(try simp only[ak,ai,cj,av,co,aw,ne_eq]at *);omega
 refine cT ?_
 refine KL (λh3 h3n=>?_) (λh3 h3n=>?_)
 ·refine bY ?_
  obtain⟨br,off,rfl,hr⟩:=hE aL
  refine RY (fV (jH ms x) U U U U aL) U (W (bJ U U U (bU (Bs hr aL) aP)) U (bG ?_))
  refine W (uT (A:=[]) (B:=[]) U K_ U (aS (S5 _ x))) U (eD ?_)
  exact aU (λ_ _=>dX U U) ⟨U,by rw[show(cmpI (ms.getD (jH ms x) m0).t x==0)=wD ms x from aHg hR aL]⟩
 refine kD ?_
 exact aU (λ_ _=>dX U U) ⟨U,by rw[aN5 (ms:=ms) (x:=x) aL]⟩
def aF1(b:Nat)(cap:Int)(ms:List Mark)(hR:Rise ms)(hlen:ms.length<1000000000)(x:Int)(w:AI)(hL:yG w b cap ms):
  aG prog 143 [P_ b,.int .u64 x] w [] (V_ (.int .i64 (bef ms x))):=by
 obtain⟨a,c,q0,qc,q1,hE⟩:=hL
 refine aT func143 ?_
 refine uV ?_
 refine W (aW U U (dN q0 aP)) U (bG ?_)
 refine aO K_ (λw hw=>aKk a c ms hR hlen x w (hE.later0 hw)) ?_
 refine iT ?_
 refine KC (λh1 h1n=>?_) (λh1 h1n=>?_)
 ·refine eD ?_
  exact E0 U ⟨U,M _ (aOu hR h1)⟩
 refine mG ?_
 exact E0 U ⟨U,M _ (aNJ hR hlen h1)⟩
def zQ(a:AC)(c:Nat)(l:AB)(hl:l.length<=140737488355328)(w:AI)(hN:zG w a l):
  aG prog 137 [.slice a l.length c] w [] (λv H=>Bm l v H):=by
 refine aT func137 ?_
 refine eD ?_
 rcases hN with⟨rfl,rfl⟩|⟨ab,ao,rfl,hr⟩
 ·refine cL ?_
  exact E0 U .nil
 refine mG ?_
 refine RX (Gj (el:=5) (n:=1) U) U ?_
 rintro _ _ ⟨b5,rfl,rfl⟩
 refine bG ?_
 refine RX (lZ (A:=[]) (G:=[(b5,J [] 5)]) (R:=[]) (v:= .slice (Q_ b5) 0 0) (n:=0) (xs:=[]) (m:=l.length) (by_:=1) (ys:=l.map (.int .u8)) U U U U (.row b5 0 0 [] [] U U aD (be 0)) (λw hw=> .row _ _ _ _ _ (by simp:(l.map Z).length=l.length*1) (bU hr aP w hw)) (kX _ _) I I) U ?_
 rintro v7 _ ⟨G7,hV7,hnil7,rfl⟩
 refine tE (v:=v7) U U U ?_
 refine aX ?_
 exact iM (λ_ _=>Jw U) (cz _ _) (by rw[bj]at hV7;exact hV7)
def Before_fn(b:Nat)(cap:Int)(ms:List Mark)(hR:Rise ms)(hlen:ms.length<1000000000)(x:Int)(w:AI)(hL:yG w b cap ms)(hD:aFp w ms):
  aG prog 95 [P_ b,.int .u64 x] w [] (λv H=>∃dv,v= .tuple #[.int .u64 (befM ms x).t,dv,.bool (decide (0<=bef ms x))]/\Bm (befM ms x).l dv H):=by
 obtain⟨a,c,q0,qc,q1,hE⟩:=hL
 refine aT func95 ?_
 refine cL ?_
 refine aO K_ (λw hw=>aF1 b cap ms hR hlen x w (yG.later0 ⟨a,c,q0,qc,q1,hE⟩ hw)) ?_
 refine mG ?_
 refine KC (λh1 h1n=>?_) (λh1 h1n=>?_)
 ·refine gL ?_
  exact aU (λ_ _=>aDe U U U) ⟨_,aO6 aL,by rw[aDO aL];exact .nil⟩
 refine aX ?_
 obtain⟨hb1,hb2⟩:=N1 (ms:=ms) (x:=x) aL
 obtain⟨br,off,rfl,hr⟩:=hE I
 have hM:=hD (ms.getD (bef ms x).toNat m0) (by rw[Kj aL];exact befM_mem aL)
 refine DR [4,8,9,10,11,12,13,14,15,16] (bQ [0,2,4,6,8,10,12,14,16,18,20,22,24,26,28,30,33,34,36,38]) ?_
 refine bY ?_
 refine DL U U U (gS q0 aP) U (bG ?_)
 refine DY U (fV (bef ms x).toNat U U U hb2.symm hb1) U (bG ?_)
 refine DL U U U (gS (Jl hr hb1) aP) U (bY ?_)
 refine DL U U U (gS q0 aP) U (bG ?_)
 refine DY U (fV (bef ms x).toNat U U U hb2.symm hb1) U (bG ?_)
 refine DL U U U (gS (aIJ hr hb1) aP) U (DX U (eN K_ U (λw hw=>zQ _ _ (ms.getD (bef ms x).toNat m0).l (hM.2.1) w (hM.2.2.later0 hw))) U (by intro _ _ _ hK x hx;obtain⟨G29,hV29,rfl⟩:=hK;repeat(first|exact hx|exact lJ _ hx|refine bL _ ?_|refine .tail _ ?_)) ?_)
 rintro v29 _ ⟨G29,hV29,rfl⟩
 refine bG ?_
 refine aBB (v:=v29) U U U U ?_
 refine bY ?_
 exact iM (λ_ _=>aFu U U U) (cz _ _) ⟨v29,aNd aL v29,by rw[<-Kj aL];exact hV29⟩
def marks_fn(b:Nat)(cap:Int)(ms:List Mark)(hlen:ms.length<1000000000)(w:AI)(hL:yG w b cap ms):
  aG prog 52 [P_ b] w [] (λv H=>bS 36 1 v ms.length ((times ms).map (.int .u64)) H):=by
 obtain⟨a,c,q0,qc,q1,hE⟩:=hL
 refine aT func52 ?_
 refine By ?_
 refine W (aW U U (dN q0 aP)) U (RY gT U (bY ?_))
 refine dK (σ:=Nat×AH×aF) [3,5,13,14,15,16,17,18,19,20,21,22] (λs=>[(3,s.2.1),(13,.int .i64 s.1)]) (λs=>s.2.2++[]) (λs=>s.1<=ms.length/\bS 36 1 s.2.1 s.1 ((times (ms.take s.1)).map (.int .u64)) s.2.2) (λs=>ms.length-s.1) (0,.slice none 0 0,[]) ?_ ?_ ?_ ?_
 ·exact⟨aq _,.nil⟩
 ·exact .cons U (.cons U .nil)
 ·exact λ_ h=>h
 rintro⟨k,v,G⟩ y ⟨hk,hV⟩
 simp only at hk hV⊢
 refine cT ?_
 refine KC (λh1 h1n=>?_) (λh1 h1n=>?_)
 ·refine eV ?_
  obtain⟨br,off,rfl,hr⟩:=hE aL
  refine bG ?_
  refine RY (fV k U U U U aL) U (W (bJ U U U (bU (Bs hr aL) aP)) U (RX (gJ U) U ?_))
  rintro _ _ ⟨b5,rfl,rfl⟩
  refine W iF U (aX ?_)
  refine Nc (v:=v) U U U ?_
  refine aX ?_
  refine RX (fY U U U U U U) U ?_
  rintro _ _ ⟨b20,rfl,rfl⟩
  refine RX (lZ (A:=[_,_]) (G:=G) (R:=[]) (v:=v) (n:=k) (m:=1) (by_:=8) U U U U hV (λw hw=> .row _ _ _ _ _ U (aI aE w hw)) U I I) U ?_
  rintro v21 _ ⟨G',hV',hnil,rfl⟩
  refine tE (v:=v21) U U U ?_
  refine cT ?_
  exact⟨(k+1,v21,G'),⟨gO,by simp only;rw[aL6 aL];exact hV'⟩,gO,.cons U (.cons (M _ (eU I)) .nil),bB,(λ_ h=>h.sub Jk)⟩
 refine bY ?_
 refine Nc (v:=v) U U U ?_
 refine tE (v:=v) U U U ?_
 refine aX ?_
 obtain rfl:k=ms.length:=by(try simp only[ak,ai,cj,av,co,aw,ne_eq]at *);omega
 rw[dj]at hV
 exact iM (λ_ _=>Jw U) (cz _ _) hV
def Tf(b c:Nat)(ms:List Mark)(sp:AA)(hlen:ms.length<1000000000)(w:AI)(hb:w.heap[b]? =some (J (aM cm ms++sp) 228)):
  aG prog 178 [.slice (Q_ b) ms.length c] w [b] (λv H=>v= .tuple #[]/\H=[(b,J (aM cm ms.reverse++sp) 228)]):=by
 refine yM func178 U U U (St.lent1 hb) ?_
 refine bY ?_
 refine RY gT U (cT ?_)
 refine dK (σ:=Nat×List Mark) [2,3,7,8,9,10,11,12,13,14,15,16,17,18,19,20,21,22,23,24,25,26,27] (λs=>[(2,.int .i64 s.1),(3,.int .i64 ((ms.length:Int)-1-s.1))]) (λs=>[(b,J (aM cm s.2++sp) 228)]) (λs=>s.1<=ms.length/\Ap ms s.2 s.1) (λs=>ms.length-s.1) (0,ms) ?_ ?_ ?_ ?_
 ·exact⟨aq _,.zero ms⟩
 ·exact .cons U (.cons (by show Value.int .i64 (IntKind.i64.wrap _)=_;rw[bZ I I];simp) .nil)
 ·exact λ_ h=>h
 rintro⟨i,cur⟩ y ⟨hi,hT⟩
 simp only at hi hT⊢
 have hcl:=hT.1
 refine gL ?_
 refine KC (λh1 h1n=>?_) (λh1 h1n=>?_)
 ·refine bY ?_
  refine DR [8,9,10,11] (bQ [0,2,4,6,8,10,12,14,16,18,20,22,24,27,28,31]) ?_
  refine eD ?_
  refine DY U (fV (s:=2) (ms.length-1-i) U U U aL aL) U (fZ U U U U (λw hw=>Bs (jR aE w hw).left aL) U U ?_)
  refine aX ?_
  refine DY U (fV (s:=2) i U U U U aL) U (fZ U U U U (λw hw=>Bs (jR aE w hw).left aL) U U ?_)
  refine DY U (fV (s:=2) i U U U U aL) U (DZ U (hQ (vs:=cm (cur.getD (ms.length-1-i) m0)) 0 U U U U U U (aEC cur sp aL _)) U aY ?_)
  simp only[al]
  rw[Jb cur sp (k:=i) aL]
  refine DY U (fV (s:=2) (ms.length-1-i) U U U aL aL) U (DZ U (hQ (vs:=cm (cur.getD i m0)) 0 U U U U U U (aEC (cur.set i _) sp aBF _)) U aY ?_)
  simp only[al]
  rw[Jb (cur.set i _) sp (k:=ms.length-1-i) aBF]
  refine bW ?_
  refine⟨(i+1,_),⟨gO,hT.step aL⟩,gO,.cons (M _ (eU I)) (.cons (M _ (aE6 aL aL)) .nil),bB,λ_ h=>h⟩
 refine bG ?_
 rw[hT.last aL]
 exact EN aJ ⟨U,U⟩
def aMU(a:AC)(n c:Nat)(w:AI):
  aG prog 177 [.slice a n c] w [] (λv H=>∃b,v= .func (.func 203) #[] #[P_ b]/\H=[(b,J [.slice a n c] 213)]):=by
 refine aT func177 ?_
 refine aX ?_
 refine RX (eE U U) U ?_
 rintro _ _ ⟨b1,rfl,rfl⟩
 refine eV ?_
 refine RW (v:=(.func (.func 203) #[] #[P_ b1])) U U Gg (bY ?_)
 exact EV U aJ ⟨_,U,U⟩
def aPH{σ:Type}(w:AI)(bs:AE)(lb bx bm m c:Nat)(rec:Loop)(nn p q:Nat)(e0:bE)(assign body:Code)(ms:List Mark)(sp:AA)(Hs:σ->aF)(J:σ->Prop)(cnt:σ->Nat)(s0:σ)
  (hrec:Ey nn e0 [p,q] assign body rec) (hpq:[p,q].all (λp=>Nat.blt p nn)=true) (hm:m<=ms.length) (hlen:ms.length<1000000000) (hJ:J s0) (h0:cnt s0=0)
  (hst:St w bs (Am lb bx bm m c rec ms sp (Hs s0)) w)
  (round:∀s,J s->cnt s<m->Vo ⟨prog,Tryz.f203.ntmps,w,bs,none,[]⟩ nn lb rec [p,q] assign body [.int .i64 ((m:Int)-1-cnt s),.agg (cm (ms.getD (m-1-cnt s) m0)).toArray] e0 (Am lb bx bm m c rec ms sp (Hs s))
   (λv H'=>v= .bool true/\∃s',J s'/\cnt s'=cnt s+1/\∀w',St w bs H' w'->St w bs (Am lb bx bm m c rec ms sp (Hs s')) w')):
  aG prog 203 [.func (.yield lb) #[] #[],P_ bx] w bs (λv H=>v= .tuple #[]/\∃s,J s/\cnt s=m/\H=Am lb bx bm m c rec ms sp (Hs s)):=by
 refine cG func203 hst ?_
 refine bY ?_
 refine RY gT U (eV ?_)
 refine dK (σ:=σ) [3,7,8,9,10,11,12,13,14,15,16,17,18] (λs=>[(3,.int .i64 ((m:Int)-1-cnt s))]) (λs=>Am lb bx bm m c rec ms sp (Hs s)) (λs=>J s/\cnt s<=m) (λs=>m-cnt s) s0 ?_ ?_ ?_ ?_
 ·exact⟨hJ,aR⟩
 ·exact .cons (by show Value.int .i64 (IntKind.i64.wrap _)=_;rw[h0,bZ I I];simp) .nil
 ·exact λ_ h=>h
 rintro s y ⟨hJs,hcs⟩
 refine eD ?_
 refine KC (λh1 h1n=>?_) (λh1 h1n=>?_)
 ·refine bW ?_
  refine RY (fV (s:=2) (m-1-cnt s) U U U aL aL) U (W (bJ U U U (λw hw=>Bs (aI aE w hw).left aL)) U (aHv (lb:=lb) (rec:=rec) (ps:=[p,q]) U U U U U hpq (.head _) hrec (round s hJs aL) ?_))
  rintro _ H' ⟨rfl,s',hJ',hc',hst'⟩
  refine bW ?_
  exact⟨s',⟨hJ',gO⟩,gO,.cons (M _ (aGM hc' aL aL)) .nil,bB,λw' h=>hst' w' h⟩
 refine bG ?_
 exact EN aJ ⟨U,s,hJs,gO,U⟩
set_option maxHeartbeats 4000000 in
def aCz(b:Nat)(cap:Int)(ms:List Mark)(hR:Rise ms)(hne:ms.length≠0)(hlen:ms.length<1000000000)(G:aF)(w:AI)(hL:uJ b cap ms G)(hst:St w (G.map (·.1)) G w):
  aG prog 138 [P_ b] w (G.map (·.1)) (λv H=>v= .tuple #[]/\uJ b cap (thinL ms) H):=by
 obtain⟨v,G',rfl,hV⟩:=hL
 obtain⟨bm,c,sp,rfl,rfl,hsz,hcl,hmx⟩:=aIc hV hne
 refine aIt func138 U U U hst ?_
 refine Nb U ?_
 refine bG ?_
 refine RX (eE U U) U ?_
 rintro _ _ ⟨b1,rfl,rfl⟩
 refine bG ?_
 refine Nb U ?_
 refine cT ?_
 refine RY gT U (aX ?_)
 refine Nb U ?_
 refine eD ?_
 refine RW (v:=(.int .i64 ((ms.length-1:Nat):Int))) U U (M _ (Ty aL hlen)) (RY (fV (s:=2) (ms.length-1) U U U U aL) U (bG ?_))
 refine W (aW U U (λw hw=>aIw hne (aI aE w hw).left)) U (RX (gJ U) U ?_)
 rintro _ _ ⟨b3,rfl,rfl⟩
 refine W iF U (bG ?_)
 refine Nb U ?_
 refine eD ?_
 refine RW (v:=(.int .i64 ((ms.length-1:Nat):Int))) U U (M _ (Ty aL hlen)) (RY (fV (s:=2) (ms.length-1) U U U U aL) U (W (bJ U U U (λw hw=>Bs (aI aE w hw).left aL)) U (RX (fY U U U U U U) U ?_)))
 rintro _ _ ⟨b30,rfl,rfl⟩
 refine RX (gJ U) U ?_
 rintro _ _ ⟨b4,rfl,rfl⟩
 refine W iF U (bG ?_)
 refine aFX U ?_
 refine eD ?_
 refine RW (v:=(.int .i64 ((ms.length-1:Nat):Int))) U U (M _ (Ty aL hlen)) (RW (v:=(.slice (Q_ bm) (ms.length-1) c)) (wO (s:=2) 0 (ms.length-1) U U U U U U (aq _) I) U aAV (RX (eN K_ U (aS (aMU _ _ _))) U ?_))
 rintro _ _ ⟨G38,⟨bx,rfl,rfl⟩,rfl⟩
 refine bG ?_
 refine aHV (A:=[]) U U U K_ ?_
 intro w9 D0 lb rec hD hlb hrec w2 hw2
 refine⟨Am lb bx bm (ms.length-1) c rec ms sp (Od b4 b3 b1 b (iG ms) [.slice (Q_ bm) ms.length c,.int .i64 cap] ⟨0,[ms.getD (ms.length-1) m0],b30,1,[],ms.length-1⟩),[(D0,.deferred (some []))],_,_,λw' h=>St.pick [0,2,8,3,5,6,7,4,1] h U,λ_ hb=>kA hb,
  aPH (σ:=TS) w2 _ lb bx bm (ms.length-1) c rec Tryz.f138.ntmps 39 40 _ _ _ ms sp (Od b4 b3 b1 b (iG ms) [.slice (Q_ bm) ms.length c,.int .i64 cap]) (TS.ok ms) TS.j ⟨0,[ms.getD (ms.length-1) m0],b30,1,[],ms.length-1⟩ hrec rfl I hlen ⟨.zero hne,rfl,be _,by show(1:Nat)<=maxLen;decide⟩ rfl (St.lend (G:=[(D0,.deferred (some []))]) (St.pick [0,2,8,3,5,6,7,4,1] hw2 rfl)) ?_,?_⟩
 ·rintro⟨j,K,bK,cK,spK,q⟩ ⟨hK,hsz9,hcl9,hmx9⟩ hj
  dsimp only[Am,Od]at hK hsz9 hcl9 hmx9 hj⊢
  unfold Vo
  have hqhi:=hK.hi
  have hqlo:=hK.lo
  refine cT ?_
  refine RX (gJ U) U ?_
  rintro _ _ ⟨b6,rfl,rfl⟩
  refine W iF U (bG ?_)
  refine⟨_,λ_ h=>h.perm (List.Perm.swap _ _ _),?_⟩
  refine cT ?_
  refine RY gT U (RW (v:=(.int .i64 ((K.length-1:Nat):Int))) U U (M _ (Ty (by have:=hK.pos;omega) aEh)) (RY (fV (s:=2) (K.length-1) U U U U (by have:=hK.pos;omega)) U (bG ?_)))
  refine W (aW U U (λw hw=>hK.at_ (aI aE w hw).left)) U (eV ?_)
  refine DR [8,9,14,15,16,17] (bQ [0,2,4,6,8,10,12,14,16,18,20,22,24,26,28,30,32,34,36,38]) ?_
  refine aX ?_
  refine KE (λh1 h1n=>?_) (λh1 h1n=>?_)
  ·refine eD ?_
   refine DW (v:=(.int .i64 ((ms.length-1-1-j-1:Nat):Int))) U U U (M _ M2) (DY U (fV (s:=2) (ms.length-1-1-j-1) U U U U aL) U (bG ?_))
   refine DL U U U (λw hw=>Jl (jR aE w hw).left aL) U (mG ?_)
   refine KC (λh2 h2n=>?_) (λh2 h2n=>?_)
   ·refine bG ?_
    exact⟨_,λ_ h=>St.pick [0,2,3,4,5,6,7,8] h U,U,⟨j+1,K,bK,cK,spK,q⟩,⟨hK.skip hR aL h2,hsz9,hcl9,hmx9⟩,U,λ_ h=>h⟩
   refine bY ?_
   refine W (bJ U U U (aI aE)) U (RX (fY U U U U U U) U ?_)
   rintro _ _ ⟨b70,rfl,rfl⟩
   refine RX (lZ (A:=[_,_,_,_,_,_,_,_,_]) (G:=[(bK,J (aM cm K++spK) 228)]) (R:=[]) (v:= .slice (Q_ bK) K.length cK) (n:=K.length) (m:=1) (T:=228) (s:=2) (by_:=32) (ys:=cm (ms.getD (ms.length-1-1-j) m0)) U U U U (Ro hsz9 hcl9 hmx9) (λw hw=> .row _ _ _ _ _ U (aI (.head _) w hw)) U Ui Ui) U ?_
   rintro v71 _ ⟨G',hV',hnil,rfl⟩
   obtain⟨b9,c9,sp9,rfl,rfl,hz9,hl9,hx9⟩:=Lc hV' I
   rw[show aM cm K++_=aM cm (K++[ms.getD (ms.length-1-1-j) m0])from(xH _ _).symm]at hz9⊢
   rw[show K.length+1=(K++[ms.getD (ms.length-1-1-j) m0]).length by simp]at hl9⊢
   refine W (hQ 6 U U U U U U aP) U (bG ?_)
   exact⟨_,λ_ h=>St.pick [2,4,5,6,7,8,9,0] h U,U,⟨j+1,_,b9,c9,sp9,ms.length-1-1-j⟩,⟨hK.keep hR aL (λ_=>h2),hz9,hl9,hx9⟩,U,λ_ h=>h⟩
  refine By ?_
  refine W (bJ U U U (aI aE)) U (RX (fY U U U U U U) U ?_)
  rintro _ _ ⟨b70,rfl,rfl⟩
  refine RX (lZ (A:=[_,_,_,_,_,_,_,_,_]) (G:=[(bK,J (aM cm K++spK) 228)]) (R:=[]) (v:= .slice (Q_ bK) K.length cK) (n:=K.length) (m:=1) (T:=228) (s:=2) (by_:=32) (ys:=cm (ms.getD (ms.length-1-1-j) m0)) U U U U (Ro hsz9 hcl9 hmx9) (λw hw=> .row _ _ _ _ _ U (aI (.head _) w hw)) U Ui Ui) U ?_
  rintro v71 _ ⟨G',hV',hnil,rfl⟩
  obtain⟨b9,c9,sp9,rfl,rfl,hz9,hl9,hx9⟩:=Lc hV' I
  rw[show aM cm K++_=aM cm (K++[ms.getD (ms.length-1-1-j) m0])from(xH _ _).symm]at hz9⊢
  rw[show K.length+1=(K++[ms.getD (ms.length-1-1-j) m0]).length by simp]at hl9⊢
  refine W (hQ 6 U U U U U U aP) U (bG ?_)
  exact⟨_,λ_ h=>St.pick [2,4,5,6,7,8,9,0] h U,U,⟨j+1,_,b9,c9,sp9,ms.length-1-1-j⟩,⟨hK.keep hR aL (λ_=>absurd h1 aL),hz9,hl9,hx9⟩,U,λ_ h=>h⟩
 rintro _ _ ⟨rfl,⟨j,K,bK,cK,spK,q⟩,⟨hK,hsz9,hcl9,hmx9⟩,hj,rfl⟩
 dsimp only[Am,Od]at hK hsz9 hcl9 hmx9 hj⊢
 refine⟨rec,_,λ_ h=>h.perm ((List.perm_append_singleton _ _).cons _),by rw[hrec.ready];simp,hrec.calm,?_⟩
 refine aQa U ?_
 refine bY ?_
 refine eA (λ_ h=>St.pick [8,0,1,2,3,4,5,6,7] h U) ?_
 refine RX (kP (A:=[_]) [bK] K_ U aP (λw hw=>Tf bK cK K spK aEh w (hw.holds _ (.head _)))) U ?_
 rintro _ _ ⟨G73,⟨rfl,rfl⟩,rfl⟩
 refine eD ?_
 refine W (hQ 8 U U U U U U aP) U (bG ?_)
 exact⟨_,λ_ h=>St.pick [2,8,0] h U,iM (λ_ _=>pJ) aJ ⟨U,_,_,U,by rw[hK.done I];have:=Ro (b:=bK) (cap:=cK) (ms:=K.reverse) (sp:=spK) (by simpa[gH qK] using hsz9) (by simpa using hcl9) hmx9;simpa using this⟩⟩
def Ql(b c j:Nat)(ms:List Mark)(sp:AA)(hlen:ms.length<1000000000)(hc:ms.length<=c)(hsz:(aM cm ms++sp).length=c*2)(h2:2<=j)(hj:j<=ms.length)(w:AI)(hb:w.heap[b]? =some (J (aM cm ms++sp) 228)):
  aG prog 139 [.slice (Q_ b) ms.length c,.int .i64 1,.int .i64 j] w [b] (λv H=>v= .slice (Q_ b) (1+(ms.length-j)) c/\∃sp',(aM cm (ms.take 1++ms.drop j)++sp').length=c*2/\H=[(b,J (aM cm (ms.take 1++ms.drop j)++sp') 228)]):=by
 refine yM func139 U U U (St.lent1 hb) ?_
 refine cL ?_
 refine RY gT U (RY (aEp (s:=2) 1 j ms.length U U U U U U U U I hj hc) U (eD ?_))
 refine fX false U U U lH ?_
 refine eD ?_
 refine RY gT U (bY ?_)
 refine DR [] (bQ [0,2,4,6,8,10,13,14]) ?_
 refine aX ?_
 refine DW (v:=(.slice (Q_ b) 1 c)) U (wO (s:=2) 0 1 U U U U U U I I) U aAV (aX ?_)
 refine DY U (wO (s:=2) j ms.length U U U U U U hj hc) U (DZ U (aFB (n:=1) (m:=ms.length-j) (T:=228) (s:=2) (by_:=32) (ys:=aM cm (ms.drop j)) 0 U U U U U (λw hw=> .row _ _ _ _ _ (by rw[gH qK,dM]) (aHF (aI (.head _) w hw) hj hc)) (aLf _) I (Vy ms sp hj I)) U aY (eD ?_))
 refine RY gT U (bG ?_)
 refine RW (v:=(.slice (some ⟨b,(1+(ms.length-j))*2,none⟩) (j-1) (c-(1+(ms.length-j))))) (wO (s:=2) (1+(ms.length-j)) ms.length U U U U U U I hc) U (aJV I I U) (W (X9 (s:=2) (z:=[.int .u64 0,.slice none 0 0]) 0 U U U U U U U I (by rw[yO (Vy ms sp hj I),hsz];simp only[eZ,az];omega)) U (gL ?_))
 obtain⟨sp',hsp⟩:=aJn ms sp (mS ((j-1)*2) [.int .u64 0,.slice none 0 0]) (j:=j) I hj
 refine iM (λ_ _=>yE U) aJ ⟨U,sp',?_,by rw[<-hsp];rfl⟩
 rw[<-hsp,yO (by rw[yO (Vy ms sp hj I),hsz,Yd];omega),yO (Vy ms sp hj I),hsz]
set_option maxHeartbeats 4000000 in
def Ru(b:Nat)(cap:Int)(hcap:2<=cap)(hcap2:cap<=256)(ms:List Mark)(hR:Rise ms)(hlen:ms.length<100000000)(x:Int)(hx:0<=x)(a:AC)(c:Nat)(l:AB)(hl:l.length<=140737488355328)(G:aF)(w:AI)
  (hL:uJ b cap ms G) (hst:St w (G.map (·.1)) G w) (hB:BytS w (G.map (·.1)) a l):
  aG prog 91 [P_ b,.int .u64 x,.slice a l.length c] w (G.map (·.1)) (aLm b cap ms x l G):=by
 obtain⟨vL,GL,rfl,hV⟩:=hL
 refine cG func91 hst ?_
 refine jJ ?_
 refine KC (λh1 h1n=>?_) (λh1 h1n=>?_)
 ·refine cT ?_
  exact EV U aJ ⟨M _ (aDb aL).symm,.inl ⟨by rw[aDb aL];decide,U⟩⟩
 refine eV ?_
 refine aO K_ (λw hw=>last_fn b cap ms I w (uJ.lineW (G:=(b,J [vL,.int .i64 cap] 215)::GL) ⟨_,_,U,hV⟩ hw (λx hx=>hx))) ?_
 refine bW ?_
 by_cases hz:ms.length=0
 ·refine bY ?_
  refine fX true U U U (by simp[hz]) ?_
  refine cT ?_
  refine KC (λh2 h2n=>?_) (λh2 h2n=>?_)
  ·refine cT ?_
   exact EV U aJ ⟨M _ (R9 aL hz aL).symm,.inl ⟨by rw[R9 aL hz aL];decide,U⟩⟩
  refine bY ?_
  refine fX false U U U (by simp[hz]) ?_
  refine bW ?_
  have hok:rP ms x=0:=Oq aL (λhz'=>gO) (λhz'=>gO)
  refine DR [5,6,7,8,9] (bQ [0,2,4,6,8,10,12,15,16,19,21,22,24,27]) ?_
  refine gL ?_
  refine DX U (eN K_ U (λw hw=>zQ a c l hl w (hB.later hw))) U aEw ?_
  rintro v42 _ ⟨G42,hV42,rfl⟩
  obtain⟨a42,c42,rfl,hc42,hB42⟩:=hV42.slice
  refine lE (λ_ h=>h.perm bf) ?_
  refine DY U (qJ U U U U) U (DX U (fY U U U U U U) U sC ?_)
  rintro _ _ ⟨b44,rfl,rfl⟩
  refine DX U (lZ (A:=[_,_]) (G:=GL) (R:=G42) (v:=vL) (n:=ms.length) (m:=1) (T:=228) (s:=2) (by_:=32) (ys:=cm ⟨x,a42,c42,l⟩) U U U U hV (λw hw=> .row _ _ _ _ _ U (aI (.head _) w hw)) U I I) U aY ?_
  rintro v45 _ ⟨G45,hV45,hnil45,rfl⟩
  rw[show aM cm ms++cm ⟨x,a42,c42,l⟩=aM cm (ms++[⟨x,a42,c42,l⟩])from(xH _ _).symm]at hV45
  refine lE (λ_ h=>aCv G45 [_,_] G42 h) ?_
  obtain⟨a45,c45,rfl⟩:=hV45.slice
  refine aX ?_
  refine DZ U iF U aY (eV ?_)
  refine eA (λ_ h=>h.sub (ce _ _)) ?_
  refine RX (kP (A:=(b,J [.slice a45 (ms.length+1) c45,.int .i64 cap] 215)::G45) (G:=G42) _ K_ U (λ_ hb=>kA hb) (λw hw=>aCz b cap (ms++[⟨x,a42,c42,l⟩]) (Vv hR hx aL (λhz=>gO)) aP X5 _ w ⟨_,_,U,by rw[bX];exact hV45⟩ (St.lend hw))) U ?_
  rintro _ _ ⟨G49,⟨rfl,⟨v9,G9,rfl,hV9⟩⟩,rfl⟩
  have hT1:=Q6 (ms:=ms++[⟨x,a42,c42,l⟩]) aP
  have hT2:=aFo (ms++[⟨x,a42,c42,l⟩])
  rw[bX,au]at hT2
  generalize hTT:thinL (ms++[⟨x,a42,c42,l⟩])=tt at*
  obtain⟨a9,c9,rfl⟩:=hV9.slice
  refine bY ?_
  refine DR [5,6,7,8] (bQ [0,2,4,6,8,10,12,14,16,18,20]) ?_
  refine eV ?_
  refine DY U gT U (eV ?_)
  refine DW (v:=(.int .i64 ((tt.length:Int)-cap))) U U U (M _ (bZ aL aL)) (gL ?_)
  refine KC (λh3 h3n=>?_) (λh3 h3n=>?_)
  ·refine gL ?_
   refine RW (v:=(.int .i64 ((1+(tt.length-cap.toNat):Nat):Int))) U U (M _ M2) ?_
   obtain⟨b9,c9,sp9,hv9,rfl,hsz9,hcl9,hmx9⟩:=Lc hV9 I
   cases hv9
   refine eA (λ_ h=>h.perm (List.Perm.swap _ _ _)) ?_
   refine RX (kP (A:=[_]) [b9] K_ U aP (λw hw=>Ql b9 c9 (1+(tt.length-cap.toNat)) tt sp9 I hcl9 hsz9 aL aL w (hw.holds _ (.head _)))) U ?_
   rintro _ _ ⟨G69,⟨rfl,⟨sp8,hsp8,rfl⟩⟩,rfl⟩
   refine aX ?_
   refine W iF U (eD ?_)
   exact lN (λ_ _=>yE U) (λ_ h=>h.perm (List.Perm.swap _ _ _)) ⟨M _ hok.symm,.inr ⟨hok,⟨x,a42,c42,l⟩,[_,_],G42,U,U,hc42,U,aBf hTT aL I hcl9 hmx9 hsp8,hV42⟩⟩
  refine eD ?_
  exact EV U aJ ⟨M _ hok.symm,.inr ⟨hok,⟨x,a42,c42,l⟩,_::G9,G42,U,U,hc42,U,⟨_,_,U,by unfold addM;rw[hTT,E6 aL];exact hV9⟩,hV42⟩⟩
 refine bY ?_
 refine fX false U U U (by simp[hz]) ?_
 refine bW ?_
 refine fX true U U U (by simp[hz]) ?_
 refine eD ?_
 refine KC (λh4 h4n=>?_) (λh4 h4n=>?_)
 ·refine cT ?_
  exact EV U aJ ⟨M _ (T0 aL hz aL).symm,.inl ⟨by rw[T0 aL hz aL];decide,U⟩⟩
 refine aX ?_
 have hok:rP ms x=0:=Oq aL (λhz'=>gO) (λhz'=>gO)
 refine DR [5,6,7,8,9] (bQ [0,2,4,6,8,10,12,15,16,19,21,22,24,27]) ?_
 refine gL ?_
 refine DX U (eN K_ U (λw hw=>zQ a c l hl w (hB.later hw))) U aEw ?_
 rintro v42 _ ⟨G42,hV42,rfl⟩
 obtain⟨a42,c42,rfl,hc42,hB42⟩:=hV42.slice
 refine lE (λ_ h=>h.perm bf) ?_
 refine DY U (qJ U U U U) U (DX U (fY U U U U U U) U sC ?_)
 rintro _ _ ⟨b44,rfl,rfl⟩
 refine DX U (lZ (A:=[_,_]) (G:=GL) (R:=G42) (v:=vL) (n:=ms.length) (m:=1) (T:=228) (s:=2) (by_:=32) (ys:=cm ⟨x,a42,c42,l⟩) U U U U hV (λw hw=> .row _ _ _ _ _ U (aI (.head _) w hw)) U I I) U aY ?_
 rintro v45 _ ⟨G45,hV45,hnil45,rfl⟩
 rw[show aM cm ms++cm ⟨x,a42,c42,l⟩=aM cm (ms++[⟨x,a42,c42,l⟩])from(xH _ _).symm]at hV45
 refine lE (λ_ h=>aCv G45 [_,_] G42 h) ?_
 obtain⟨a45,c45,rfl⟩:=hV45.slice
 refine aX ?_
 refine DZ U iF U aY (eV ?_)
 refine eA (λ_ h=>h.sub (ce _ _)) ?_
 refine RX (kP (A:=(b,J [.slice a45 (ms.length+1) c45,.int .i64 cap] 215)::G45) (G:=G42) _ K_ U (λ_ hb=>kA hb) (λw hw=>aCz b cap (ms++[⟨x,a42,c42,l⟩]) (Vv hR hx aL (λhz=>gO)) aP X5 _ w ⟨_,_,U,by rw[bX];exact hV45⟩ (St.lend hw))) U ?_
 rintro _ _ ⟨G49,⟨rfl,⟨v9,G9,rfl,hV9⟩⟩,rfl⟩
 have hT1:=Q6 (ms:=ms++[⟨x,a42,c42,l⟩]) aP
 have hT2:=aFo (ms++[⟨x,a42,c42,l⟩])
 rw[bX,au]at hT2
 generalize hTT:thinL (ms++[⟨x,a42,c42,l⟩])=tt at*
 obtain⟨a9,c9,rfl⟩:=hV9.slice
 refine bY ?_
 refine DR [5,6,7,8] (bQ [0,2,4,6,8,10,12,14,16,18,20]) ?_
 refine eV ?_
 refine DY U gT U (eV ?_)
 refine DW (v:=(.int .i64 ((tt.length:Int)-cap))) U U U (M _ (bZ aL aL)) (gL ?_)
 refine KC (λh5 h5n=>?_) (λh5 h5n=>?_)
 ·refine gL ?_
  refine RW (v:=(.int .i64 ((1+(tt.length-cap.toNat):Nat):Int))) U U (M _ M2) ?_
  obtain⟨b9,c9,sp9,hv9,rfl,hsz9,hcl9,hmx9⟩:=Lc hV9 I
  cases hv9
  refine eA (λ_ h=>h.perm (List.Perm.swap _ _ _)) ?_
  refine RX (kP (A:=[_]) [b9] K_ U aP (λw hw=>Ql b9 c9 (1+(tt.length-cap.toNat)) tt sp9 I hcl9 hsz9 aL aL w (hw.holds _ (.head _)))) U ?_
  rintro _ _ ⟨G69,⟨rfl,⟨sp8,hsp8,rfl⟩⟩,rfl⟩
  refine aX ?_
  refine W iF U (eD ?_)
  exact lN (λ_ _=>yE U) (λ_ h=>h.perm (List.Perm.swap _ _ _)) ⟨M _ hok.symm,.inr ⟨hok,⟨x,a42,c42,l⟩,[_,_],G42,U,U,hc42,U,aBf hTT aL I hcl9 hmx9 hsp8,hV42⟩⟩
 refine eD ?_
 exact EV U aJ ⟨M _ hok.symm,.inr ⟨hok,⟨x,a42,c42,l⟩,_::G9,G42,U,U,hc42,U,⟨_,_,U,by unfold addM;rw[hTT,E6 aL];exact hV9⟩,hV42⟩⟩
end Go.Proofs.YtacejanlmhbddaaGreat.Tm
namespace Go.Proofs.YtacejanlmhbddaaGreat.Tm
open Go Go.VV
def C9(last:Int):∀(r:List Mark) (b:Int) (hr:r≠[]),∃A,thinR last b r=A++[r.getLast hr]
 | [],_,h=>absurd rfl h
 | [m],_,_=>⟨[],rfl⟩
 |m::p::r,b,_=>by
  unfold thinR
  split
  ·obtain⟨A,hA⟩:=C9 last (p::r) b aP
   exact⟨A,by rw[hA];simp⟩
  ·obtain⟨A,hA⟩:=C9 last (p::r) m.t aP
   exact⟨m::A,by rw[hA];simp⟩
def aIU(x:Mark)(ms:List Mark)(mk:Mark):∃A,thinL (x::ms++[mk])=x::A++[mk]:=by
 unfold thinL
 have h:(x::ms++[mk]).reverse=mk::(ms.reverse++[x]):=by simp
 rw[h]
 obtain⟨A,hA⟩:=C9 mk.t (ms.reverse++[x]) mk.t aP
 exact⟨A.reverse,by simp only[hA];simp⟩
def aK4(mk:Mark):thinL ([]++[mk])=[mk]:=rfl
def aMn{cap:Nat}(hc:2<=cap)(x:Mark)(ms:List Mark)(mk:Mark):∃A,cutL cap (x::ms++[mk])=x::A++[mk]:=by
 unfold cutL
 refine⟨ms.drop ((x::ms++[mk]).length-cap),?_⟩
 have h1:(x::ms++[mk]).take 1=[x]:=by simp
 have h2:(x::ms++[mk]).drop (1+((x::ms++[mk]).length-cap))=ms.drop ((x::ms++[mk]).length-cap)++[mk]:=by
  rw[ja,cw,List.drop_succ_cons,jj lH]
 rw[h1,h2];rfl
def aGo{cap:Nat}(hc:2<=cap)(ms:List Mark):(cutL cap ms).length<=cap:=by
 unfold cutL
 rw[bX,fT,dM];omega
def addM_sub(cap:Nat)(ms:List Mark)(mk:Mark):(addM cap ms mk).Sublist (ms++[mk]):=(aKs cap _).trans (aE7 _)
def aIg{cap:Nat}(hc:2<=cap)(x:Mark)(ms:List Mark)(mk:Mark):∃A,addM cap (x::ms) mk=x::A++[mk]:=by
 unfold addM
 obtain⟨A,hA⟩:=aIU x ms mk
 rw[hA]
 exact aMn hc x A mk
def aOK{cap:Nat}(hc:2<=cap)(mk:Mark):addM cap [] mk=[mk]:=by
 unfold addM
 rw[aK4,E6 lH]
def aDV(A:List Mark)(mk:Mark):iG (A++[mk])=mk.t:=by simp[iG,tm]
def aB7(x:Mark)(A:List Mark):tm (x::A) 0=x.t:=by simp[tm]
structure LJ(b:Nat)(cap:Int)(k:Nat)(t:Int)(ms:List Mark)(G D:aF):Prop where
 line:uJ b cap ms G
 dat:wZ D ms
 rise:Rise ms
 len:ms.length<=cap.toNat
 lo:0<=t
 hi:t<=k*9
 zero:k=0->ms=[]/\t=0
 more:0<k->0<ms.length/\tm ms 0=0/\iG ms=t
def LJ.start(b:Nat)(cap:Int):LJ b cap 0 0 [] [(b,J [.slice none 0 0,.int .i64 cap] 215)] []:=
 ⟨⟨_,[],rfl,.nil⟩,λ_ h=>yR,Rise.nil,aq _,iu _,kQ,λ_=>⟨rfl,rfl⟩,λh=>I⟩
def Nxt(k:Nat)(t t':Int):Prop:=(k=0->t'=0)/\(0<k->t<t'/\t'<=t+9)
section
variable {b k:Nat}{cap t t':Int}{ms:List Mark}{G D:aF}
def LJ.rise'(h:LJ b cap k t ms G D)(hk:k<1000000)(hn:Nxt k t t'){mk:Mark}(hm:mk.t=t'):Rise (ms++[mk]):=by
 have h1:=h.lo;have h2:=h.hi
 rcases d6 k with hz|hz
 ·have:=hn.1 hz
  exact Vv h.rise I I (λhl=>by rw[(h.zero hz).1]at hl;simp at hl)
 ·have:=hn.2 hz;have h4:=(h.more hz).2.2
  exact Vv h.rise I I (λ_=>aR)
def LJ.ok(h:LJ b cap k t ms G D)(hk:k<1000000)(hn:Nxt k t t'):rP ms t'=0:=by
 have h1:=h.lo;have h2:=h.hi
 rcases d6 k with hz|hz
 ·have:=hn.1 hz
  have hm:=(h.zero hz).1
  exact Oq I (λ_=>aR) (λhl=>by rw[hm]at hl;simp at hl)
 ·have:=hn.2 hz;have h4:=h.more hz
  exact Oq I (λhl=>aR) (λ_=>aR)
def LJ.step(h:LJ b cap k t ms G D)(hk:k<1000000)(hc:2<=cap)(hn:Nxt k t t'){mk:Mark}{G' D':aF}{l:AB}(ht:mk.t=t')(hl:mk.l=l)(hlen:l.length<=140737488355328)(hlc:mk.l.length<=mk.c)
  (hL:uJ b cap (addM cap.toNat ms mk) G') (hB:Bm l (.slice mk.a l.length mk.c) D'):LJ b cap (k+1) t' (addM cap.toNat ms mk) G' (D'++D):=by
 have hsub:=addM_sub cap.toNat ms mk
 have h1:=h.lo;have h2:=h.hi
 have ht2:0<=t'/\t'<=(k+1:Nat)*9:=by
  rcases d6 k with hz|hz
  ·have:=hn.1 hz;omega
  ·have:=hn.2 hz;omega
 refine⟨hL,?_,(h.rise' hk hn ht).sub hsub,aGo I _,ht2.1,ht2.2,λh0=>I,λ_=>?_⟩
 ·have hD:wZ (D'++D) (ms++[mk]):=λm hm=>by
   rcases List.mem_append.1 hm with hm|hm
   ·exact(h.dat.more λx hx=>d8 _ hx) m hm
   ·have:m=mk:=by simpa using hm
    subst this
    obtain⟨a,c,hs,_,hW⟩:=hB.slice
    cases hs
    exact⟨hlc,by rw[hl];exact hlen,λw0 w bs H hw hx=>by rw[hl];exact hW w0 w bs H hw λx hx'=>hx x (gc _ hx')⟩
  exact hD.sub hsub
 ·rcases d6 k with hz|hz
  ·rw[(h.zero hz).1,aOK I]
   have:=hn.1 hz
   exact⟨kQ,by simp[tm];omega,by rw[show [mk]=[]++[mk]from rfl,aDV,ht]⟩
  ·obtain⟨h3,h4,h5⟩:=h.more hz
   cases ms with
   |nil=>simp at h3
   |cons x A=>
    obtain⟨B,hB2⟩:=aIg (cap:=cap.toNat) I x A mk
    rw[hB2]
    rw[aB7]at h4
    exact⟨kQ,by rw[cw,aB7];exact h4,by rw[aDV,ht]⟩
end
def bef_nn{ms:List Mark}(hR:Rise ms)(h0:0<ms.length)(hz:tm ms 0=0){x:Int}(hx:0<=x):0<=bef ms x:=by
 have:=(Qk hR.1 x h0).1 (by rw[tV h0];omega)
 unfold bef;omega
def befM_le{ms:List Mark}(hR:Rise ms){x:Int}(h0:0<=bef ms x):(befM ms x).t<=x:=(aQr hR I).1
def tb(t:Int):AB:=[t%256,t/256%256,9]
end Go.Proofs.YtacejanlmhbddaaGreat.Tm
namespace Go.Proofs.YtacejanlmhbddaaGreat.Tm
open Go Go.VV Go.Proofs Go.Proofs.Tryz
section
variable (b:Nat)(cap:Int)(hcap:2<=cap/\cap<=256)(ms:List Mark)(hR:Rise ms)(hlen:ms.length<100000000)(x:Int)(hx:0<=x)(a:AC)(c:Nat)(l:AB)(hl:l.length<=140737488355328)(G:aF)(w:AI)
 (hL:uJ b cap ms G) (hst:St w (G.map (·.1)) G w) (hB:BytS w (G.map (·.1)) a l)
include hcap hR hlen hx hl hL hst hB
def aQB(h:rP ms x=0):aG prog 91 [P_ b,.int .u64 x,.slice a l.length c] w (G.map (·.1)) (λv H=>v= .int .i64 0/\
  ∃mk G' D',mk.t=x/\mk.l=l/\mk.l.length<=mk.c/\H=G'++D'/\uJ b cap (addM cap.toNat ms mk) G'/\Bm l (.slice mk.a l.length mk.c) D'):=
 (Ru b cap hcap.1 hcap.2 ms hR hlen x hx a c l hl G w hL hst hB).mono λv H hA=>by
  obtain⟨rfl,h1|h1⟩:=hA
  ·exact absurd h h1.1
  ·exact⟨by rw[h],h1.2⟩
end
def add_at{b k:Nat}{cap t t':Int}{ms:List Mark}{G D R:aF}(hcap:2<=cap/\cap<=256)(h:LJ b cap k t ms G D)(hk:k<1000000)(hn:Nxt k t t'){a:AC}{c:Nat}{l:AB}(hl:l.length<=140737488355328)
  {w0 w:AI} {bs:AE} (hw:St w0 bs (G++R) w) (hB:BytS w (G.map (·.1)) a l):
  aG prog 91 [P_ b,.int .u64 t',.slice a l.length c] w (G.map (·.1)) (λv H=>v= .int .i64 0/\∃mk G' D',mk.t=t'/\mk.l=l/\H=G'++D'/\LJ b cap (k+1) t' (addM cap.toNat ms mk) G' (D'++D)):=by
 have h1:=h.lo;have h2:=h.len
 have ht:0<=t':=by
  rcases d6 k with hz|hz
  ·have:=hn.1 hz;omega
  ·have:=hn.2 hz;omega
 refine(aQB b cap hcap ms h.rise I t' ht a c l hl G w h.line (St.lend hw) hB (h.ok hk hn)).mono ?_
 rintro v H ⟨rfl,mk,G',D',e1,e2,e3,rfl,hL,hB⟩
 exact⟨U,mk,G',D',e1,e2,U,h.step hk hcap.1 hn e1 e2 hl e3 hL hB⟩
end Go.Proofs.YtacejanlmhbddaaGreat.Tm
namespace Go.Proofs.YtacejanlmhbddaaGreat
open Go Go.VV Go.Proofs Go.RowKit Go.Proofs.Tryz
def tR(last:Int):Int->AB->AB
 |_,[]=>[]
 |_,[m]=>[m]
 |b,m::p::r=>if b-p<=2+last-b then tR last b (p::r)else m::tR last m (p::r)
def Xo(cap:Nat)(l:AB)(x:Int):AB:=(x::tR x x l.reverse).reverse.take 1++(x::tR x x l.reverse).reverse.drop (1+((x::tR x x l.reverse).length-cap))
def B2(cap:Nat):Nat->AB
 |0=>[]
 |n+1=>Xo cap (B2 cap n) n
def Xw(last:Int):∀(r:List Tm.Mark) (b:Int),Tm.times (Tm.thinR last b r)=tR last b (Tm.times r)
 | [],_=>rfl
 | [_],_=>rfl
 |m::p::r,b=>by
  show Tm.times (if b-p.t<=2+last-b then Tm.thinR last b (p::r)else m::Tm.thinR last m.t (p::r))=(if b-p.t<=2+last-b then tR last b (Tm.times (p::r))else m.t::tR last m.t (Tm.times (p::r)))
  split
  ·exact Xw last (p::r) b
  ·show m.t::Tm.times (Tm.thinR last m.t (p::r))=_
   rw[Xw last (p::r) m.t]
def aHI(cap:Nat)(ms:List Tm.Mark)(mk:Tm.Mark):Tm.times (Tm.addM cap ms mk)=Xo cap (Tm.times ms) mk.t:=by
 have e1:Tm.thinL (ms++[mk])=(mk::Tm.thinR mk.t mk.t ms.reverse).reverse:=by
  unfold Tm.thinL
  have:(ms++[mk]).reverse=mk::ms.reverse:=by simp
  rw[this]
 have e2:Tm.times (mk::Tm.thinR mk.t mk.t ms.reverse).reverse=(mk.t::tR mk.t mk.t (Tm.times ms).reverse).reverse:=by
  unfold Tm.times
  rw[List.map_reverse,cq,show(Tm.thinR mk.t mk.t ms.reverse).map (·.t)=tR mk.t mk.t (ms.reverse.map (·.t))from Xw _ _ _,List.map_reverse]
 have e3:(mk::Tm.thinR mk.t mk.t ms.reverse).reverse.length=(mk.t::tR mk.t mk.t (Tm.times ms).reverse).length:=by
  have:=M List.length e2
  rw[Tm.times_len]at this
  rw[this,List.length_reverse]
 unfold Tm.addM
 rw[e1]
 unfold Tm.cutL Xo
 rw[e3,<-e2]
 unfold Tm.times
 rw[bz,fq,ii]
end Go.Proofs.YtacejanlmhbddaaGreat
namespace Go.Proofs.YtacejanlmhbddaaGreat.Hs
open Go Go.VV
structure Stp where
 n:Int
 bank:Int
 what:Int
 dn:Int
 at_:Int
 kind:Int
 x:Int
 y:Int
 size:Int
 m:Int
 taken:Bool
 to:Int
def cD(s:Stp):AA:=[.int .i64 s.what,.int .i64 s.dn,.int .u16 s.at_,.int .i64 s.kind,.int .i64 s.x,.int .i64 s.y,.int .i64 s.size,.int .u16 s.m,.bool s.taken]
def cS(s:Stp):AA:=[.int .u64 s.n,.int .i64 s.bank,.int .i64 s.what,.int .i64 s.dn,.int .u16 s.at_,.int .i64 s.kind,.int .i64 s.x,.int .i64 s.y,.int .i64 s.size,.int .u16 s.m,.bool s.taken,.int .u16 s.to]
structure StpOk(s:Stp):Prop where
 at0:0<=s.at_/\s.at_<65536
 size: -9223372036854775808<=s.size/\s.size<=9223372036854775807
structure fS where
 kind:Int
 bank:Int
 at_:Int
 to:Int
 back:Int
def cC(c:fS):AA:=[.int .i64 c.kind,.int .i64 c.bank,.int .u16 c.at_,.int .u16 c.to,.int .u16 c.back]
def uH(c:fS):(cC c).length=5:=rfl
def c0 :fS:=⟨0,0,0,0,0⟩
structure Rcd where
 n:Int
 what:Int
 bank:Int
 at_:Int
 kind:Int
 x:Int
 y:Int
 size:Int
 m:Int
def cR(r:Rcd):AA:=[.int .u64 r.n,.int .i64 r.what,.int .i64 r.bank,.int .u16 r.at_,.int .i64 r.kind,.int .i64 r.x,.int .i64 r.y,.int .i64 r.size,.int .u16 r.m]
def yB(r:Rcd):(cR r).length=9:=rfl
def r0 :Rcd:=⟨0,0,0,0,0,0,0,0,0⟩
def recOf(s:Stp):Rcd:=⟨s.n,s.what,s.bank,s.at_,s.kind,s.x,s.y,s.size,s.m⟩
def vS(s:Stp):Int:=(s.at_+s.size)%65536
def Tk(s:Stp):Option fS:=
 if s.what=2 then some ⟨3,s.bank,s.at_,s.to,s.at_⟩
 else if s.what=1/\s.kind=25/\s.taken=true then some ⟨1,s.bank,s.at_,s.to,vS s⟩
 else if s.what=1/\s.kind=28 then some ⟨2,s.bank,s.at_,s.to,vS s⟩else none
def B7(s:Stp):Bool:=decide (s.what=1)&&((decide (s.kind=26)&&s.taken)||decide (s.kind=27))
def tM(cs:List fS)(c:fS):List fS:=(cs++[c]).drop ((cs++[c]).length-256)
def uA(cs:List fS)(s:Stp):List fS:=
 match Tk s with
 |some c=>tM cs c
 |none=>if B7 s=true then cs.dropLast else cs
def callsL(l:List Stp):List fS:=l.foldl uA []
def callsL_snoc(l:List Stp)(s:Stp):callsL (l++[s])=uA (callsL l) s:=by simp[callsL]
def aGT(cs:List fS)(c:fS):(tM cs c).length<=256:=by unfold tM;rw[dM];omega
def aP2{cs:List fS}(h:cs.length<=256)(s:Stp):(uA cs s).length<=256:=by
 unfold uA
 split
 ·exact aGT _ _
 ·split
  ·rw[ig];omega
  ·exact h
def aEc :∀(l:List Stp) {cs:List fS},cs.length<=256->(l.foldl uA cs).length<=256
 | [],_,h=>h
 |s::l,_,h=>aEc l (aP2 h s)
def callsL_len(l:List Stp):(callsL l).length<=256:=aEc l aP
def D1{s:Stp}(_h:StpOk s):IntKind.u16.wrap (s.at_+IntKind.u16.wrap s.size)=vS s:=by
 rw[qC,qC,vS];omega
def RingOk(keep:Nat)(ring:List Rcd)(l:List Stp):Prop:=ring.length=32/\∀i,(hi:i<l.length)->l.length<=i+keep->ring[i%keep]? =some (recOf l[i])
def RingOk.start(keep:Nat){ring:List Rcd}(h:ring.length=32):RingOk keep ring []:=⟨h,λi hi=>by simp at hi⟩
def RingOk.step{keep:Nat}{ring:List Rcd}{l:List Stp}(h:RingOk keep ring l)(h1:1<=keep)(h2:keep<=32)(s:Stp):RingOk keep (ring.set (l.length%keep) (recOf s)) (l++[s]):=by
 refine⟨by rw[c7];exact h.1,λi hi hk=>?_⟩
 rw[bX,au]at hi hk
 rw[jv]
 rcases du i l.length with hl|hl
 ·have hne:¬l.length%keep=i%keep:=λhe=>by
   have h5:(l.length-i)%keep=0:=by
    rw[Nat.sub_mod_eq_zero_of_mod_eq he]
   have h6:l.length-i<keep:=by omega
   rw[Nat.mod_eq_of_lt h6]at h5
   omega
  rw[ae hne,h.2 i hl I,List.getElem_append_left hl]
 ·have:i=l.length:=by omega
  subst this
  have hm:l.length%keep<32:=d9 (jd _ I) h2
  rw[ag rfl,ag (by rw[h.1];exact hm)]
  simp
def hC(v:AH)(ring:List Rcd)(keep noted:Int):AA:=v::(aM cR ring++[.int .i64 keep,.int .i64 noted])
def HistH(b:Nat)(keep noted:Nat)(cs:List fS)(ring:List Rcd)(H:aF):Prop:=
 ∃v G,H=(b,J (hC v ring keep noted) 164)::G/\bS 197 5 v cs.length (aM cC cs) G/\ring.length=32
section
variable {v u:AH}{ring:List Rcd}{k n m:Int}(hr:ring.length=32)
include hr
def hC_len :(hC v ring k n).length=291:=by simp[hC,gH yB,hr]
def aEQ :(hC v ring k n)[289]? =some (.int .i64 k):=by
 unfold hC
 rw[er,et (by rw[gH yB,hr];omega),gH yB,hr];rfl
def Xc :(hC v ring k n)[290]? =some (.int .i64 n):=by
 unfold hC
 rw[er,et (by rw[gH yB,hr];omega),gH yB,hr];rfl
def aGW :aV (hC v ring k n) 290 [.int .i64 m]=hC v ring k m:=by
 have h:=Bq (v::(aM cR ring++[.int .i64 k])) [Value.int .i64 n] [] [.int .i64 m] rfl
 have hl:(v::(aM cR ring++[Value.int .i64 k])).length=290:=by simp[gH yB,hr]
 rw[hl]at h
 simpa[hC] using h
def aPg{i:Nat}(hi:i<32)(r:Rcd):aV (hC v ring k n) (1+i*9) (cR r)=hC v (ring.set i r) k n:=by
 have h1:ring=ring.take i++ring[i]::ring.drop (i+1):=Km I
 have h2:ring.set i r=ring.take i++r::ring.drop (i+1):=by rw[dt,ag I]
 have hl:(v::aM cR (ring.take i)).length=1+i*9:=by simp[gH yB,hr];omega
 have h:=Bq (v::aM cR (ring.take i)) (cR ring[i]) (aM cR (ring.drop (i+1))++[.int .i64 k,.int .i64 n]) (cR r) rfl
 rw[hl]at h
 have hf:aM cR ring=aM cR (ring.take i)++(cR ring[i]++aM cR (ring.drop (i+1))):=by
  conv=>lhs;rw[h1]
  rw[vM,xZ]
 have e1:hC v ring k n=v::aM cR (ring.take i)++(cR ring[i]++(aM cR (ring.drop (i+1))++[.int .i64 k,.int .i64 n])):=by
  unfold hC;rw[hf];simp only[eG,cw]
 have e2:hC v (ring.set i r) k n=v::aM cR (ring.take i)++(cR r++(aM cR (ring.drop (i+1))++[.int .i64 k,.int .i64 n])):=by
  unfold hC;rw[h2,vM,xZ];simp only[eG,cw]
 rw[e1,e2];exact h
omit hr in
def aJq{w:AI}{b:Nat}(h:aK w b 0 (hC v ring k n)){i:Nat}{r:Rcd}(hi:ring[i]? =some r):aK w b (1+i*9) (cR r):=by
 have h1:aK w b 1 (aM cR ring++[.int .i64 k,.int .i64 n]):=λj x hx=>by
  have:=h (1+j) x (by unfold hC;rw[ja,er];exact hx)
  rwa[bj]at this
 exact aK.nth' yB h1.left hi
end
def Ls{v u:AH}{ring:List Rcd}{k n:Int}:aV (hC v ring k n) 0 [u]=hC u ring k n:=by simp[aV,hC]
def pW(cs:List fS)(s:Stp):List fS:=
 if s.kind=25 then(if s.taken=true then tM cs ⟨1,s.bank,s.at_,s.to,vS s⟩else cs)
 else if s.kind=28 then tM cs ⟨2,s.bank,s.at_,s.to,vS s⟩
 else if s.kind=26 then(if s.taken=true then cs.dropLast else cs)
 else if s.kind=27 then cs.dropLast else cs
def aF9{s:Stp}(h:s.what=2)(cs:List fS):uA cs s=tM cs ⟨3,s.bank,s.at_,s.to,s.at_⟩:=by
 simp[uA,Tk,h]
def aFU{s:Stp}(h:s.what=1)(cs:List fS):uA cs s=pW cs s:=by
 have h2:¬s.what=2:=by omega
 unfold uA Tk pW B7
 rw[ae h2]
 simp only[h,true_and,decide_true,gm]
 by_cases h25:s.kind=25
 ·have:¬s.kind=28:=by omega
  by_cases ht:s.taken=true<;>simp[h25,ht]
 ·by_cases h28:s.kind=28
  ·simp[h28]
  ·by_cases h26:s.kind=26
   ·by_cases ht:s.taken=true<;>simp[h26,ht]
   ·by_cases h27:s.kind=27<;>simp[h25,h28,h26,h27]
def aRA{s:Stp}(h1:¬s.what=1)(h2:¬s.what=2)(cs:List fS):uA cs s=cs:=by
 simp[uA,Tk,B7,h1,h2]
def aFa(c:fS):fJ (cC c)=true:=rfl
def aJS(c:Rcd):fJ (cR c)=true:=rfl
def aIh{b l c n s k:Nat}(h:l<c)(hk:n-l=k):Value.slice (some ⟨b,nG 0 l s c,none⟩) (n-l) (c-l)= .slice (some ⟨b,l*s,none⟩) k (c-l):=by
 rw[nG,ae I,hk,bj]
def aKD{cs:List fS}{x:fS}(h:(cs++[x]).length<=256):tM cs x=cs++[x]:=by
 unfold tM;rw[show(cs++[x]).length-256=0 by omega,kh]
def aNC{cs:List fS}{x:fS}(h:cs.length<=256)(h2:256<(cs++[x]).length):tM cs x=(cs++[x]).drop 1:=by
 unfold tM
 rw[bX,au]at*
 rw[show cs.length+1-256=1 by omega]
structure S3(w:AI)(b keep noted:Nat)(cs:List fS)(ring:List Rcd):Prop where
 calls:∃a c,w.cell? ⟨b,0,none⟩=some (.slice a cs.length c)/\cs.length<=c/\(a=none->c=0)/\uG w cC a cs/\aK w b 0 (hC (.slice a cs.length c) ring keep noted)
 keep:w.cell? ⟨b,289,none⟩=some (.int .i64 keep)
 noted:w.cell? ⟨b,290,none⟩=some (.int .i64 noted)
 len:ring.length=32
 row:∀i r,ring[i]? =some r->aK w b (1+i*9) (cR r)
def HistH.histW{b keep noted:Nat}{cs:List fS}{ring:List Rcd}{G H:aF}{w0 w:AI}{bs:AE}(h:HistH b keep noted cs ring G)(hw:St w0 bs H w)(hs:∀x∈G,x∈H):S3 w b keep noted cs ring:=by
 obtain⟨v,G',rfl,hV,hr⟩:=h
 obtain⟨a,c,rfl,hl,hc,_,hz,hE⟩:=hV.slw uH aD
 have h0:=hw.holds _ (hs _ (.head _))
 have hrow:=aK.all h0
 refine⟨⟨a,c,?_,hc,hz,hE w λx hx=>hw.holds x (hs x (.tail _ hx)),hrow⟩,?_,?_,hr,λi r hi=>aJq hrow hi⟩
 ·rw[tI h0];rfl
 ·rw[tI h0];simpa using aEQ hr
 ·rw[tI h0];simpa using Xc hr
def aAs{n k:Nat}:(n:Int).tmod (k:Int)=((n%k:Nat):Int):=by
 rw[cy I];simp
def aND{s:Stp}(h:s.kind=25)(ht:s.taken=true)(cs:List fS):pW cs s=tM cs ⟨1,s.bank,s.at_,s.to,vS s⟩:=by simp[pW,h,ht]
def aRI{s:Stp}(h:s.kind=25)(ht:s.taken=false)(cs:List fS):pW cs s=cs:=by simp[pW,h,ht]
def aLG{s:Stp}(h:s.kind=28)(cs:List fS):pW cs s=tM cs ⟨2,s.bank,s.at_,s.to,vS s⟩:=by simp[pW,h]
def aD6{s:Stp}(h:s.kind=26)(ht:s.taken=true)(cs:List fS):pW cs s=cs.dropLast:=by simp[pW,h,ht]
def aJg{s:Stp}(h:s.kind=26)(ht:s.taken=false)(cs:List fS):pW cs s=cs:=by simp[pW,h,ht]
def aET{s:Stp}(h:s.kind=27)(cs:List fS):pW cs s=cs.dropLast:=by simp[pW,h]
def aPm{s:Stp}(h1:¬s.kind=25)(h2:¬s.kind=28)(h3:¬s.kind=26)(h4:¬s.kind=27)(cs:List fS):pW cs s=cs:=by simp[pW,h1,h2,h3,h4]
def Yf{cs:List fS}{sc:AA}(h:cs.length≠0):∃sp',aM cC cs++sc=aM cC cs.dropLast++sp':=by
 obtain⟨A,a,rfl⟩:=N7 (l:=cs) I
 exact⟨cC a++sc,by rw[xH,List.dropLast_concat,eG]⟩
def aFC{cs:List fS}(h:cs.length=0):cs.dropLast=cs:=by
 rw[db h];rfl
def S7{cs:List fS}{bc cc:Nat}{sc:AA}(h:cs.length≠0)(hz:(aM cC cs++sc).length=cc*5)(hl:cs.length<=cc)(hx:cc<=maxLen):
  bS 197 5 (.slice (Q_ bc) cs.dropLast.length cc) cs.dropLast.length (aM cC cs.dropLast) [(bc,J (aM cC cs++sc) 197)]:=by
 obtain⟨sp',hs⟩:=Yf (sc:=sc) h
 rw[hs]at hz⊢
 exact bS.all_ uH hz (by rw[ig];omega) hx
def aLi{a:AC}{m c:Nat}{ring:List Rcd}{k n:Int}:fJ (hC (.slice a m c) ring k n)=true:=by
 have h1:=List.all_eq_true.1 (Tv aJS ring)
 refine List.all_eq_true.2 λx hx=>?_
 unfold hC at hx
 rcases List.mem_cons.1 hx with rfl|hx
 ·rfl
 ·rcases List.mem_append.1 hx with hx|hx
  ·exact h1 x hx
  ·simp at hx;rcases hx with rfl|rfl<;>rfl
end Go.Proofs.YtacejanlmhbddaaGreat.Hs
namespace Go.Proofs.YtacejanlmhbddaaGreat
open Go Go.VV Go.Proofs Go.RowKit Go.Proofs.Tryz
structure Gx where
 rom:AB
 plan:List gG
 pa:AC
 pc:Nat
structure Gx.Ok(g:Gx):Prop where
 len:g.rom.length<=100000000
 byts:bF g.rom
 err:errH g.rom=0
 chg:∀c∈g.plan,sE c
 few:g.plan.length<=1000000
def Gx.m(g:Gx)(k:Nat):Mm:=B1 g.plan (lM g.rom) k
def Gn(m:Mm)(a:Int):Int:=if 32768<=a then 0 else bankB a m.bk
def aHG(k:Nat)(b:Int)(d:Dd)(to:Int):Hs.Stp:=⟨k,b,d.what,d.n,d.at_,d.op.kind,d.op.x,d.op.y,d.op.size,d.op.n,d.taken,to⟩
def Gx.st(g:Gx)(k:Nat):Hs.Stp:=aHG k (Gn (g.m k) (g.m k).cpu.r.pc) (eP g.plan (g.m k)).1 (g.m (k+1)).cpu.r.pc
def Gx.sts(g:Gx)(k:Nat):List Hs.Stp:=(List.range k).map g.st
def Gx.enc(g:Gx)(k:Nat):AB:=fQ (g.m k)
section
variable {g:Gx}(h:g.Ok)
def Gx.sts_len(g:Gx)(k:Nat):(g.sts k).length=k:=by simp[Gx.sts]
def Gx.sts_snoc(g:Gx)(k:Nat):g.sts (k+1)=g.sts k++[g.st k]:=by simp[Gx.sts,eo]
include h
def Gx.Ok.inv(k:Nat):nR (lM g.rom) True (g.m k):=(aMJ h.err h.byts).run h.chg k
def Gx.Ok.ram(k:Nat):(g.m k).ram.length=(lM g.rom).ram.length:=(h.inv k).fr.ram
def Gx.Ok.enc_len(k:Nat):(g.enc k).length=(g.enc 0).length:=by
 unfold Gx.enc
 rw[yJ (h.inv k).wf,yJ (h.inv 0).wf,h.ram,h.ram]
def Gx.Ok.enc_le(k:Nat):1<=(g.enc k).length/\(g.enc k).length<=200000:=by
 unfold Gx.enc
 rw[yJ (h.inv k).wf,h.ram]
 have:=Ue g.rom
 omega
def Gx.Ok.enc_byts(k:Nat):bF (g.enc k):=aJ1 (h.inv k).wf
end
def pG.cpu{m n:Mm}(h:pG m n):n.cpu=m.cpu:=by rw[h]
def pG.bank{m n:Mm}(h:pG m n)(a:Int):Gn n a=Gn m a:=by rw[h];rfl
def pG.inv{R m n:Mm}(h:pG m n)(hm:nR R True m):nR R True n:=by rw[h];exact hm.acc_ _
def pG.refl(m:Mm):pG m m:=rfl
def aQ9{β:Type}{K:aRT β}{x:Rn β}{n:Nat}(h:RunOk K (n+3) x):1<=(nextT K.toaRU x).1.size/\(nextT K.toaRU x).1.size<=3:=by
 have key:∀i,i<=2->1<=(iQ K.toaRU x (i+1)).o.size/\(iQ K.toaRU x (i+1)).o.size<=3:=λi hi=>by
  have hq:yP K (n+(3-(i+1))+1) (iQ K.toaRU x i):=by rw[show n+(3-(i+1))+1=n+(3-i)by omega];exact h.nx i I
  have hf:=hq.x.fetch1
  have hb:=xW hq.by_ i hf.2
  exact(aC9 (hb.get 0) (hb.get 1) (hb.get 2)).size
 unfold nextT
 split
 ·exact key 0 aD
 ·split
  ·exact key 1 aD
  ·exact key 2 aD
def aE8{R m:Mm}{D:Prop}{plan:List gG}(hp:∀c∈plan,sE c)(h:nR R D m):(0<=(eP plan m).1.at_/\(eP plan m).1.at_<65536)/\ -9223372036854775808<=(eP plan m).1.op.size/\(eP plan m).1.op.size<=9223372036854775807:=by
 have hq:RunOk (Ni R D) 7 (⟨m.cpu,fB plan m⟩:Rn Mm):=⟨h.rg,Wp hp h⟩
 show(0<=(fL fE (⟨m.cpu,fB plan m⟩:Rn Mm)).1.at_/\(fL fE (⟨m.cpu,fB plan m⟩:Rn Mm)).1.at_<65536)/\ -9223372036854775808<=(fL fE (⟨m.cpu,fB plan m⟩:Rn Mm)).1.op.size/\(fL fE (⟨m.cpu,fB plan m⟩:Rn Mm)).1.op.size<=9223372036854775807
 have hpc:=h.rg.pc
 unfold fL
 dsimp only
 repeat' split
 ·exact⟨hpc,(by decide: -9223372036854775808<=(0:Int)),(by decide:(0:Int)<=9223372036854775807)⟩
 ·exact⟨hpc,(by decide: -9223372036854775808<=(0:Int)),(by decide:(0:Int)<=9223372036854775807)⟩
 ·exact⟨hpc,(by decide: -9223372036854775808<=(0:Int)),(by decide:(0:Int)<=9223372036854775807)⟩
 all_goals
  have hz:=aQ9 (n:=4) (K:=Ni R D) (x:=⟨{m.cpu with halt:=false,soon:=false},fB plan m⟩) ⟨h.rg,hq.m⟩
  exact⟨hpc,Int.le_trans aD hz.1,Int.le_trans hz.2 aD⟩
def Gx.Ok.st{g:Gx}(h:g.Ok)(k:Nat):Hs.StpOk (g.st k):=⟨(aE8 h.chg (h.inv k)).1,(aE8 h.chg (h.inv k)).2⟩
def Dm.offB{w0 w:AI}{ms:AE}{T:Nat}{plan:List gG}{pa:AC}{pc:Nat}{G A B:aF}(h:Dm T plan pa pc G)(hw:St w0 ms (A++B) w)(hs:∀x∈G,x∈B):∀p,pa=some p->p.block∉A.map (·.1):=by
 rintro p rfl hp
 rcases h.vec.alt with⟨h1,_⟩|⟨b,cap,sp,h1,rfl,_⟩
 ·cases h1
 cases h1
 have hn:=hw.nodup
 rw[bz,dx]at hn
 exact hn.2.2 _ hp _ (List.mem_map_of_mem (hs _ (.head _))) U
structure Db where
 b:Nat
 hb:Nat
 lb:Nat
 mp:Nat
 fa:Nat
 fc:Nat
 fs:AA
 cap:Int
 asked:Int
 done:Int
 q:MA
 m:Mm
 ring:List Hs.Rcd
 GH:aF
 ms:List Tm.Mark
 GL:aF
 l:List hY
 c:Nat
 pv:AH
 wv:AH
 tab:AH
 D:aF
def cDb(cap:Int)(q h:AH)(at_:Nat)(f:AH)(lb mp:Nat)(pv wv:AH)(asked done:Int)(tab:AH):AA:=
 [.int .i64 cap,q,h,.int .u64 at_,f,P_ lb,.map (some mp),pv,wv,.int .u32 asked,.int .u64 done,tab]
abbrev Db.cs(d:Db)(g:Gx)(k:Nat):AA:=cDb d.cap (pM d.q) (P_ d.hb) k (.slice (Q_ d.fa) (g.enc 0).length d.fc) d.lb d.mp d.pv d.wv d.asked d.done d.tab
def Db.H(d:Db)(g:Gx)(k:Nat):aF:=(d.b,J (d.cs g k) 108)::(d.mp,cY .u64 d.l d.c)::(hM d.q d.m++(d.GH++(d.GL++d.D)))
def capT(n:Int):Int:=max 2 (min n 256)
def capT_ok(n:Int):2<=capT n/\capT n<=256:=by unfold capT;omega
def Jo(g:Gx)(D:aF)(v:AH)(j:Nat):Prop:=∃b ring G,v=P_ b/\Hs.HistH b 32 j (Hs.callsL (g.sts j)) ring G/\Hs.RingOk 32 ring (g.sts j)/\∀x∈G,x∈D
def Jo.more{g:Gx}{D D':aF}{v:AH}{j:Nat}(h:Jo g D v j)(hs:∀x∈D,x∈D'):Jo g D' v j:=by
 obtain⟨b,r,G,h1,h2,h3,h4⟩:=h
 exact⟨b,r,G,h1,h2,h3,λx hx=>hs x (h4 x hx)⟩
structure sQ(g:Gx)(l:List hY)(c:Nat)(ms:List Tm.Mark)(n:Nat)(D:aF):Prop where
 old:∀e∈l,e.2.2<c
 nd:(l.map (·.2.2)).Nodup
 le:∀e∈l,0<=e.1/\e.1<n
 his:∀e∈l,Jo g D e.2.1 e.1.toNat
 all:∀m∈ms,∃e∈l,e.1=m.t
def aDr{a:Int}:∀{l:List hY} {i:Nat},(∀e∈l,e.1≠a)->kI a l i=none
 | [],_,_=>rfl
 |e::l,i,h=>by
  unfold kI
  rw[ae (λhe=>h e (.head _) he.symm)]
  exact aDr λx hx=>h x (.tail _ hx)
def W0{a:Int}:∀{l:List hY} {i:Nat},(∃e∈l,e.1=a)->∃j e,e∈l/\e.1=a/\kI a l i=some (j,e.2.1)
 | [],_,h=>by obtain⟨_,h,_⟩:=h;cases h
 |e::l,i,h=>by
  unfold kI
  by_cases he:a=e.1
  ·rw[ag he];exact⟨i,e,.head _,he.symm,rfl⟩
  ·rw[ae he]
   obtain⟨x,hx,hx2⟩:=h
   rcases List.mem_cons.1 hx with rfl|hx
   ·exact absurd hx2.symm he
   ·obtain⟨j,y,hy,h1,h2⟩:=W0 (i:=i+1) ⟨x,hx,hx2⟩
    exact⟨j,y,.tail _ hy,h1,h2⟩
def A4(a:Int):∀l:List hY,(pH a l).Sublist l
 | []=> .slnil
 |e::l=>by
  unfold pH
  split
  ·exact .cons _ (List.Sublist.refl _)
  ·exact .cons_cons _ (A4 a l)
def S0{a:Int}:∀{l:List hY} {e:hY},e∈l->e.1≠a->e∈pH a l
 |x::l,e,h,hn=>by
  unfold pH
  rcases List.mem_cons.1 h with rfl|h
  ·rw[ae (λhe=>hn he.symm)];exact .head _
  ·split
   ·exact h
   ·exact .tail _ (S0 h hn)
section
variable {g:Gx}{l:List hY}{c n:Nat}{ms:List Tm.Mark}{D:aF}
def sQ.more(h:sQ g l c ms n D){D':aF}(hs:∀x∈D,x∈D'):sQ g l c ms n D':=⟨h.old,h.nd,h.le,λe he=>(h.his e he).more hs,h.all⟩
def sQ.start(g:Gx)(D:aF):sQ g [] 0 [] 0 D:=⟨λ_ h=>yR,kQ,λ_ h=>yR,λ_ h=>yR,λ_ h=>yR⟩
def sQ.drop(h:sQ g l c ms n D){a:Int}(ha:∀m∈ms,m.t≠a):sQ g (pH a l) c ms n D:=
 have hs:=A4 a l
 ⟨λe he=>h.old e (hs.subset he),(hs.map _).nodup h.nd,λe he=>h.le e (hs.subset he),λe he=>h.his e (hs.subset he),λm hm=>by
  obtain⟨e,he,h1⟩:=h.all m hm
  exact⟨e,S0 he (by rw[h1];exact ha m hm),h1⟩⟩
def sQ.new(h:sQ g l c ms n D){v:AH}(hv:Jo g D v n){mk:Tm.Mark}(ht:mk.t=n){ms':List Tm.Mark}(hs:∀m∈ms',m∈ms++[mk]):kI n l 0=none/\sQ g (l++[((n:Int),v,c)]) (c+1) ms' (n+1) D:=by
 refine⟨aDr λe he h1=>by have:=(h.le e he).2;omega,λe he=>?_,?_,λe he=>?_,λe he=>?_,λm hm=>?_⟩
 ·rcases List.mem_append.1 he with he|he
  ·have:=h.old e he;omega
  ·rw[List.mem_singleton.1 he];show c<c+1;omega
 ·rw[bz,dx]
  refine⟨h.nd,kQ,?_⟩
  intro a ha b hb
  obtain⟨e,he,rfl⟩:=List.mem_map.1 ha
  have h1:=h.old e he
  have h2:b=c:=by simpa using hb
  show e.2.2≠b
  omega
 ·rcases List.mem_append.1 he with he|he
  ·have:=h.le e he;omega
  ·rw[List.mem_singleton.1 he];show(0:Int)<=n/\(n:Int)<(n+1:Nat);omega
 ·rcases List.mem_append.1 he with he|he
  ·exact h.his e he
  ·rw[List.mem_singleton.1 he];exact hv
 ·rcases List.mem_append.1 (hs m hm)with h1|h1
  ·obtain⟨e,he,h2⟩:=h.all m h1
   exact⟨e,gc _ he,h2⟩
  ·rw[List.mem_singleton.1 h1]
   exact⟨_,d8 _ (.head _),ht.symm⟩
end
structure Db.Ok(d:Db)(g:Gx)(k n:Nat):Prop where
 le:k<=n
 q:d.q.Ok g.pa g.plan.length g.pc
 m:pG (g.m k) d.m
 hist:Hs.HistH d.hb 32 k (Hs.callsL (g.sts k)) d.ring d.GH
 ring:Hs.RingOk 32 d.ring (g.sts k)
 line:Tm.LJ d.lb (capT d.cap) n ((n-1:Nat):Int) d.ms d.GL d.D
 pk:∀x∈d.ms,x.l=dO (g.enc 0) (g.enc x.t.toNat)
 first:(d.fa,J ((g.enc 0).map Z++d.fs) 5)∈d.D/\(g.enc 0).length<=d.fc
 past:sQ g d.l d.c d.ms n d.D
 tms:Tm.times d.ms=B2 (capT d.cap).toNat n
 plan:∃GP,Dm 114 g.plan g.pa g.pc GP/\∀x∈GP,x∈d.D
structure Db.To(d e:Db):Prop where
 b:e.b=d.b
 cap:e.cap=d.cap
 asked:e.asked=d.asked
 q:pM e.q=pM d.q
 pv:e.pv=d.pv
 wv:e.wv=d.wv
 tab:e.tab=d.tab
 D:∀x∈d.D,x∈e.D
def Db.To.refl(d:Db):Db.To d d:=⟨rfl,rfl,rfl,rfl,rfl,rfl,rfl,λ_ h=>h⟩
def Db.To.trans{d e f:Db}(h1:Db.To d e)(h2:Db.To e f):Db.To d f:=
 ⟨h2.b.trans h1.b,h2.cap.trans h1.cap,h2.asked.trans h1.asked,h2.q.trans h1.q,h2.pv.trans h1.pv,h2.wv.trans h1.wv,h2.tab.trans h1.tab,λx hx=>h2.D x (h1.D x hx)⟩
def Bn(g:Gx)(d e:Db)(j n:Nat)(c:Int)(H:aF):Prop:=e.Ok g j n/\d.To e/\e.done=d.done+c/\H=e.H g j
def oM(ms:List Tm.Mark)(k j:Nat):Int:=if j<k\/(k:Int)<(Tm.befM ms j).t then j-(Tm.befM ms j).t else j-k
structure Db.Fine(d:Db)(g:Gx)(k n:Nat):Prop where
 ok:d.Ok g k n
 lt:k<n
 few:n<800000
 done:0<=d.done/\d.done<100000000000000
def Hw{b k:Nat}{cap t:Int}{ms:List Tm.Mark}{G D D':aF}(h:Tm.LJ b cap k t ms G D)(hs:∀x∈D,x∈D'):Tm.LJ b cap k t ms G D':=
 ⟨h.line,h.dat.more hs,h.rise,h.len,h.lo,h.hi,h.zero,h.more⟩
def aJD{w0 w:AI}{bs:AE}{G R:aF}(hw:St w0 bs (G++R) w){b:Nat}{l:AB}{sp:AA}{T:AJ}(hm:(b,Obj.cells (l.map Z++sp).toArray T (0,0))∈R):Tm.BytS w (G.map (·.1)) (Q_ b) l:=by
 refine .inr ⟨b,0,U,λhb=>?_,(aK.all (hw.holds _ (d8 _ hm))).left⟩
 have hn:=hw.nodup
 rw[bz,dx]at hn
 exact hn.2.2 b hb b (List.mem_map.2 ⟨_,hm,U⟩) U
def aDg{l:List hY}{seen:AE}{y:hY}(hy:y∈qA l seen):(qA l (seen++[y.2.2])).length<(qA l seen).length:=by
 unfold qA at*
 have e1:l.filter (λe=> !((seen++[y.2.2]).contains e.2.2))=(l.filter λe=> !(seen.contains e.2.2)).filter λe=> !(e.2.2==y.2.2):=by
  rw[List.filter_filter]
  refine List.filter_congr λx _=>?_
  simp only[List.contains_eq_mem,i6,il,Bool.decide_or,Bool.not_or]
  rw[Bool.and_comm]
  rfl
 rw[e1]
 generalize (l.filter λe=> !(seen.contains e.2.2))=r at hy⊢
 induction r with
 |nil=>cases hy
 |cons z r ih=>
  rcases List.mem_cons.1 hy with rfl|hy
  ·rw[ka,ae aP]
   have:=g9 (λe:hY=> !(e.2.2==y.2.2)) r
   simp only[eZ];omega
  ·have:=ih hy
   rw[ka]
   split<;>simp only[eZ]<;>omega
def aMi(a:Int)(l:List hY)(s:AE):(qA (pH a l) s).length<=(qA l s).length:=((A4 a l).filter _).length_le
def aHP{l:List hY}{s:AE}{y:hY}(h:y∈qA l s):y∈l:=(List.mem_filter.1 h).1
def Q1{l:AB}(hs:l.Pairwise (· < ·)){x:Int}{i:Nat}(h1:∀p,p<i->l.getD p 0<x)(h2:i<l.length->l.getD i 0≠x/\x<=l.getD i 0):x∉l:=λhx=>by
 obtain⟨p,hp,he⟩:=List.mem_iff_getElem.1 hx
 have hg:l.getD p 0=x:=by rw[<-he];simp[hp]
 rcases Nat.lt_trichotomy p i with h|h|h
 ·have:=h1 p h;omega
 ·subst h;exact(h2 hp).1 hg
 ·have h3:=h2 I
  have h4:=(List.pairwise_iff_getElem.1 hs) i p I hp h
  have h5:l.getD i 0=l[i]:=by simp[show i<l.length by omega]
  rw[he]at h4
  omega
def aKB{l:AB}(hs:l.Pairwise (· < ·)){x:Int}{h i:Nat}(hh:h<l.length)(hx:l.getD h 0<x)(hi:i=h+1):∀p,p<i->l.getD p 0<x:=λp hp=>by
 subst hi
 rcases du p h with h1|h1
 ·have:=(List.pairwise_iff_getElem.1 hs) p h I hh h1
  have e1:l.getD p 0=l[p]:=by simp[show p<l.length by omega]
  have e2:l.getD h 0=l[h]:=by simp[hh]
  omega
 ·rwa[show p=h by omega]
def aRP{ms:List Tm.Mark}(h:Tm.Rise ms):(Tm.times ms).Pairwise (· < ·):=List.pairwise_map.2 h.1
structure Bp where
 bank:Int
 at_:Int
def cBp(p:Bp):AA:=[.int .i64 p.bank,.int .u16 p.at_]
def aM0(p:Bp):(cBp p).length=2:=rfl
structure Wt where
 lo:Int
 hi:Int
 rd:Bool
 wr:Bool
 a:AC
 c:Nat
 l:List Cd
def cWt(x:Wt):AA:=[.int .u16 x.lo,.int .u16 x.hi,.bool x.rd,.bool x.wr,.slice x.a x.l.length x.c]
def aMB(x:Wt):(cWt x).length=5:=rfl
structure Lk where
 r:CR
 bk:Int->Int
 pk:Int->Int
def lkOf(m:Mm):Lk:=⟨m.cpu.r,Gn m,λy=>qG y m⟩
def pG.lk{m n:Mm}(h:pG m n):lkOf n=lkOf m:=by rw[h];rfl
def Ph(k:Lk)(a:Ac):Ev:=⟨k.r,a.addr,a.val,a.kind,k.bk a.addr,k.pk⟩
def kdB(x:Wt)(a:Ac):Bool:=(a.kind==1&&x.rd)||(a.kind==2&&x.wr)
def matV(k:Lk)(x:Wt)(a:Ac):Bool×Bool:=if kdB x a=true/\x.lo<=a.addr/\a.addr<=x.hi then Hg (Ph k a) x.l else(false,false)
def ptB(k:Lk)(p:Bp):Bool:=decide (p.at_=k.r.pc/\(p.bank<0\/p.bank=k.bk k.r.pc))
def uZ(k:Lk):List Bp->Nat->AD
 | [],_=>none
 |p::l,i=>if ptB k p=true then some i else uZ k l (i+1)
def wF(k:Lk)(x:Wt):List Ac->Option Bool
 | []=>none
 |a::l=>if(matV k x a).1=true then some (matV k x a).2 else wF k x l
def wA(k:Lk)(acc:List Ac):List Wt->Nat->Option (Nat×Bool)
 | [],_=>none
 |x::l,i=>match wF k x acc with
  |some b=>some (i,b)
  |none=>wA k acc l (i+1)
def vJ(k:Lk)(acc:List Ac)(ps:List Bp)(ws:List Wt):Int×Int×Bool:=match uZ k ps 0 with
 |some i=>(1,i,false)
 |none=>match wA k acc ws 0 with
  |some (i,b)=>(2,i,b)
  |none=>(0,0,false)
section
variable {k:Lk}{acc:List Ac}{ps:List Bp}{ws:List Wt}{i:Nat}
def aOO(h:uZ k ps 0=some i):vJ k acc ps ws=(1,(i:Int),false):=by unfold vJ;rw[h]
def aGt{b:Bool}(h:uZ k ps 0=none)(h2:wA k acc ws 0=some (i,b)):vJ k acc ps ws=(2,(i:Int),b):=by unfold vJ;rw[h,h2]
def aMK(h:uZ k ps 0=none)(h2:wA k acc ws 0=none):vJ k acc ps ws=(0,0,false):=by unfold vJ;rw[h,h2]
end
def Gx.hit(g:Gx)(ps:List Bp)(ws:List Wt)(j:Nat):Int×Int×Bool:=vJ (lkOf (g.m j)) (g.m j).acc ps ws
def Gx.lastN(g:Gx)(ps:List Bp)(ws:List Wt)(a:Nat):Nat->Nat
 |0=>0
 |n+1=>if(g.hit ps ws (a+n+1)).1≠0 then a+n+1 else g.lastN ps ws a n
def Gx.lastN_le(g:Gx)(ps:List Bp)(ws:List Wt)(a n:Nat):g.lastN ps ws a n<=a+n:=by
 induction n with
 |zero=>exact aq _
 |succ n ih=>unfold Gx.lastN;split<;>omega
def Gx.lastN_hit{g:Gx}{ps:List Bp}{ws:List Wt}{a n:Nat}(h:g.lastN ps ws a n≠0):(g.hit ps ws (g.lastN ps ws a n)).1≠0/\a<g.lastN ps ws a n:=by
 induction n with
 |zero=>exact absurd rfl h
 |succ n ih=>
  unfold Gx.lastN at h⊢
  split
  ·rename_i h1;exact⟨h1,aR⟩
  ·rename_i h1;rw[ae h1]at h;exact ih h
def Gx.lastN_none{g:Gx}{ps:List Bp}{ws:List Wt}{a n:Nat}(j:Nat)(h1:g.lastN ps ws a n<j)(h2:a<j)(h3:j<=a+n):(g.hit ps ws j).1=0:=by
 induction n with
 |zero=>omega
 |succ n ih=>
  unfold Gx.lastN at h1
  split at h1
  ·omega
  ·rename_i h4
   rcases jp h3 with rfl|h5
   ·exact Decidable.not_not.1 h4
   ·exact ih h1 I
end Go.Proofs.YtacejanlmhbddaaGreat
