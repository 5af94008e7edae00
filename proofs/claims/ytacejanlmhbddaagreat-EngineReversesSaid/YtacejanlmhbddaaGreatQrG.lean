/- Parts. -/
import Derived.Test.YtacejanlmhbddaaGreatQrF
set_option maxRecDepth 100000
set_option maxHeartbeats 1000000
set_option linter.all false
namespace Go.Proofs.YtacejanlmhbddaaGreat
open Go Go.VV Go.Proofs Go.RowKit Go.Proofs.Tryz
def aB3(a:AC)(cap:Nat)(l:AB)(hl:bF l)(n:Int)(hn:0<=n/\n<40)(hcap:l.length<=cap)(w:AI)(hB:Ns w .u8 a l):
  aG prog 345 [.slice a l.length cap,.int .i64 n] w [] (V_ (.agg #[.int .i64 n,.int .i64 (oB l n 0-16),.int .i64 (oB l n 1-8),.int .i64 (oB l n 2),.int .u8 (oB l n 3)])):=by
 refine aT func345 ?_
 refine aX ?_
 refine RX (gJ U) U ?_
 rintro _ _ ⟨b4,rfl,rfl⟩
 refine bY ?_
 refine RX (gJ U) U ?_
 rintro _ _ ⟨b5,rfl,rfl⟩
 refine eD ?_
 rw[bZ (n:=4*n) I I]
 refine eD ?_
 refine RY gT U (aX ?_)
 refine KC (λh1 h1n=>?_) (λh1 h1n=>?_)
 ·obtain⟨b,off,rfl,hr⟩:=hB.row (i:=(4*n).toNat) eM
  refine DR [] (bQ [0,2,4,6,9]) ?_
  refine DY U (pR 0 4 U U U U U U aD aD) U (aX ?_)
  refine DY U (nM (4*n).toNat l.length U U U U (by show 4*n=_;omega) U eM hcap) U (DZ U (C7 (off:=0) (dl:=4) (m:=l.length-(4*n).toNat) 0 U U U U U (λw hw=> .row _ _ _ _ _ aP ((bU hr aP w hw).cut1 (k:=l.length-(4*n).toNat) (c:=cap) eM)) (aGg _ _ _ _) lH) U aY ?_)
  simp only[al,aNT hn eM]
  refine eV ?_
  refine RY zO U (bY ?_)
  refine RY Ky U (bY ?_)
  refine RY Nf U (aX ?_)
  refine RY Gk U (bG ?_)
  refine RS ?_
  refine W iF U (aX ?_)
  exact aU (λw hw=>eL U U U (aI aE w hw)) ⟨U,aAj hl n⟩
 refine aX ?_
 rw[aKp hn eM]
 refine aX ?_
 refine RY zO U (bY ?_)
 refine RY Ky U (bY ?_)
 refine RY Nf U (aX ?_)
 refine RY Gk U (bG ?_)
 refine RS ?_
 refine W iF U (aX ?_)
 exact aU (λw hw=>eL U U U (aI aE w hw)) ⟨U,aAj hl n⟩
def aH6(c cb cf cs:Int)(hc:0<=c/\c<256)(a:AC)(cap:Nat)(l:AB)(hl:bF l)(n y x0 tile how x line:Int)
  (hy: -16<=y/\y<=240) (hx: -8<=x0/\x0<=248) (ht:0<=tile/\tile<256) (hh:0<=how/\how<256) (w:AI) (hB:Ns w .u8 a l):
  aG prog 356 [.agg #[.int .u8 c,.int .u8 cb,.int .u8 cf,.int .u8 cs],.slice a l.length cap,.agg #[.int .i64 n,.int .i64 y,.int .i64 x0,.int .i64 tile,.int .u8 how],.int .i64 x,.int .i64 line] w [] (V_ (.int .u8 (rC l c y x0 tile how x line))):=by
 refine aT func356 ?_
 refine aX ?_
 refine RX (eE U U) U ?_
 rintro _ _ ⟨b5,rfl,rfl⟩
 refine RX (eE U U) U ?_
 rintro _ _ ⟨b7,rfl,rfl⟩
 refine eV ?_
 refine W (bJ U U U Cb) U (aO K_ (aS (aAX c cb cf cs hc)) ?_)
 refine bW ?_
 refine aO K_ (aS (D5 _ _ _)) ?_
 refine bG ?_
 refine KL (λh1 h1n=>?_) (λh1 h1n=>?_)
 ·refine kD ?_
  exact E0 U ⟨U,M _ (aB4 hy hx eM)⟩
 refine bY ?_
 refine aO K_ (aS (D5 _ _ _)) ?_
 refine bY ?_
 refine KC (λh2 h2n=>?_) (λh2 h2n=>?_)
 ·refine cT ?_
  exact E0 U ⟨U,M _ (aB4 hy hx eM)⟩
 refine aX ?_
 refine DR [4,5,6,7,8] (bQ [0,2,4,6,8,10,12,14,16,18]) ?_
 refine Cv ?_
 refine KC (λh3 h3n=>?_) (λh3 h3n=>?_)
 ·refine kV ?_
  refine KC (λh4 h4n=>?_) (λh4 h4n=>?_)
  ·refine uV ?_
   refine KC (λh5 h5n=>?_) (λh5 h5n=>?_)
   ·refine jJ ?_
    refine aO K_ (λw hw=>wS _ _ l hl _ _ _ w (hB.later0 hw)) ?_
    refine bY ?_
    exact E0 U ⟨U,M _ (Ai hy hx ht hh eM eM (bu:=true) (bt:=true) (bh:=true) h3 h4 h5)⟩
   refine gL ?_
   refine aO K_ (λw hw=>wS _ _ l hl _ _ _ w (hB.later0 hw)) ?_
   refine bY ?_
   exact E0 U ⟨U,M _ (Ai hy hx ht hh eM eM (bu:=true) (bt:=true) (bh:=false) h3 h4 h5)⟩
  refine kD ?_
  refine KC (λh6 h6n=>?_) (λh6 h6n=>?_)
  ·refine jJ ?_
   refine aO K_ (λw hw=>wS _ _ l hl _ _ _ w (hB.later0 hw)) ?_
   refine bY ?_
   exact E0 U ⟨U,M _ (Ai hy hx ht hh eM eM (bu:=true) (bt:=false) (bh:=true) h3 h4 h6)⟩
  refine gL ?_
  refine aO K_ (λw hw=>wS _ _ l hl _ _ _ w (hB.later0 hw)) ?_
  refine bY ?_
  exact E0 U ⟨U,M _ (Ai hy hx ht hh eM eM (bu:=true) (bt:=false) (bh:=false) h3 h4 h6)⟩
 refine bW ?_
 refine KC (λh7 h7n=>?_) (λh7 h7n=>?_)
 ·refine uV ?_
  refine KC (λh8 h8n=>?_) (λh8 h8n=>?_)
  ·refine jJ ?_
   refine aO K_ (λw hw=>wS _ _ l hl _ _ _ w (hB.later0 hw)) ?_
   refine bY ?_
   exact E0 U ⟨U,M _ (Ai hy hx ht hh eM eM (bu:=false) (bt:=true) (bh:=true) h3 h7 h8)⟩
  refine gL ?_
  refine aO K_ (λw hw=>wS _ _ l hl _ _ _ w (hB.later0 hw)) ?_
  refine bY ?_
  exact E0 U ⟨U,M _ (Ai hy hx ht hh eM eM (bu:=false) (bt:=true) (bh:=false) h3 h7 h8)⟩
 refine kD ?_
 refine KC (λh9 h9n=>?_) (λh9 h9n=>?_)
 ·refine jJ ?_
  refine aO K_ (λw hw=>wS _ _ l hl _ _ _ w (hB.later0 hw)) ?_
  refine bY ?_
  exact E0 U ⟨U,M _ (Ai hy hx ht hh eM eM (bu:=false) (bt:=false) (bh:=true) h3 h7 h9)⟩
 refine gL ?_
 refine aO K_ (λw hw=>wS _ _ l hl _ _ _ w (hB.later0 hw)) ?_
 refine bY ?_
 exact E0 U ⟨U,M _ (Ai hy hx ht hh eM eM (bu:=false) (bt:=false) (bh:=false) h3 h7 h9)⟩
def aJU(c cb cf cs:Int)(hc:0<=c/\c<256)(a2:AC)(cap2:Nat)(oam:AB)(ho:bF oam)(line:Int)(hcap:oam.length<=cap2)(w:AI)(hO:Ns w .u8 a2 oam):
  aG prog 344 [.agg #[.int .u8 c,.int .u8 cb,.int .u8 cf,.int .u8 cs],.slice a2 oam.length cap2,.int .i64 line] w [] (λv H=>As .i64 (rO oam c line) v H):=by
 refine aT func344 ?_
 refine aX ?_
 refine RX (eE U U) U ?_
 rintro _ _ ⟨b3,rfl,rfl⟩
 refine fG ?_
 refine dK (σ:=Nat×AH×aF) [7,8,9,10,11,12,13,14,15,16,17,18,19,20,21,22,23,24] (λs=>[(7,s.2.1),(9,.int .i64 s.1)]) (λs=>s.2.2++[(b3,J [.int .u8 c,.int .u8 cb,.int .u8 cf,.int .u8 cs] 450)]) (λs=>s.1<=40/\bS 3 1 s.2.1 (jO oam c line s.1).length ((jO oam c line s.1).map (.int .i64)) s.2.2) (λs=>40-s.1) (0,.slice none 0 0,[]) ?_ ?_ ?_ ?_
 ·exact⟨aR,aPx oam c line⟩
 ·exact .cons U (.cons U .nil)
 ·exact λ_ h=>h
 rintro⟨k,v,G⟩ y ⟨hk,hV⟩
 have hlen:=aQm oam c line k
 simp only at hk hV⊢
 refine cT ?_
 refine KC (λh1 h1n=>?_) (λh1 h1n=>?_)
 ·refine bW ?_
  refine DR [3,4] (bQ [0,2,4,10,7,8,13,15]) ?_
  refine bY ?_
  refine fZ U U U U Kx U U ?_
  refine DZ U (cZ K_ U (λw hw=>aB3 _ _ oam ho k eM hcap w (hO.later0 hw))) U gV (DY U (Ov U U U U U) U (DZ U (cZ K_ U (aS (aAX c cb cf cs hc))) U aY (DZ U (cZ K_ U (aS (D5 _ _ _))) U aY ?_)))
  refine bG ?_
  refine KC (λh2 h2n=>?_) (λh2 h2n=>?_)
  ·refine bG ?_
   refine Nc (v:=v) U U U ?_
   refine bG ?_
   refine RX (fY U U U U U U) U ?_
   rintro _ _ ⟨b22,rfl,rfl⟩
   refine RX (lZ (A:=[_]) (G:=G) (R:=[_]) (v:=v) (m:=1) (by_:=8) U U U U hV (λw hw=> .row _ _ _ _ _ U (aI (.head _) w hw)) U I I) U ?_
   rintro v23 _ ⟨G',hV',hnil,rfl⟩
   refine tE (v:=v23) U U U ?_
   refine cT ?_
   exact⟨(k+1,v23,G'),⟨Dx,aJE (aEP ho h2) hV'⟩,Dx,.cons U (.cons (M _ (eU I)) .nil),bB,(λ_ h=>h.sub Jk)⟩
  refine cT ?_
  exact⟨(k+1,v,G),⟨Dx,aQV (aEP ho h2) hV⟩,Dx,.cons U (.cons (M _ (eU I)) .nil),bB,(λ_ h=>h.sub Jk)⟩
 refine aX ?_
 obtain rfl:k=40:=by simp at *; omega
 generalize hm:(jO oam c line 40).length=m at hV
 generalize hx:(jO oam c line 40).map (Value.int .i64)=xs at hV
 clear hlen
 rcases hV with _|⟨b,n,cap,xs,sp,hn,hcc,hmx,hle⟩
 ·refine bY ?_
  refine RY gT U (RY (tD U U) U (eV ?_))
  exact E0 U (aGI hm)
 refine bY ?_
 refine RY gT U (RY (tD U U) U (RY (nM 0 (min m 10) U U U U U (by show min (m:Int) 10=_;omega) I I) U (bY ?_)))
 exact EV U (cz _ _) (aIG hm hx hle)
def aCO(x:Int)(w:AI):aG prog 355 [.int .i64 x] w [] (V_ (.bool false)):=by
 refine aT func355 ?_
 refine fG ?_
 exact E0 U ⟨U,(M _ aP)⟩
def aNP(x y:Int)(w:AI):aG prog 348 [.int .i64 x,.int .i64 y] w [] (V_ (.int .i64 (cmpI x y))):=by
 refine aT func348 ?_
 refine ZCy ?_
 refine aO K_ (aS (aCO _)) ?_
 refine ZBV ?_
 refine aO K_ (aS (aCO _)) ?_
 refine Zg ?_
 refine KC (λq0 z0=>?_) (λq0 z0=>?_)
 ·refine ZBV ?_
  exact E0 U ⟨U,(M _ Xn)⟩
 refine ZE1 ?_
 refine KC (λq1 z1=>?_) (λq1 z1=>?_)
 ·refine ZBV ?_
  exact E0 U ⟨U,(M _ Xn)⟩
 refine aH ?_
 exact E0 U ⟨U,(M _ Xn)⟩
def aLU(a b:Sp)(w:AI):aG prog 347 [.agg (lW a).toArray,.agg (lW b).toArray] w [] (V_ (.int .i64 (cmpI a.x b.x))):=by
 refine aT func347 ?_
 refine ZAm ?_
 refine RX (eE U U) U (ZBF λb0=>?_)
 refine RX (eE U U) U ?_
 rintro _ _ ⟨b1,rfl,rfl⟩
 refine ZE1 ?_
 refine aO K_ (aS (aNP _ _)) ?_
 exact fD
def aOv(b n cap:Nat)(l:List Sp)(sp':AA)(hn:l.length=n)(h10:n<=1000)(w:AI)(hb:w.heap[b]? =some (J (aM lW l++sp') 460)):
  aG prog 361 [.slice (Q_ b) n cap,.int .i64 0,.int .i64 n,.func (.func 347) #[] #[]] w [b] (λv H=>v= .tuple #[]/\H=[(b,J (aM lW (jI l)++sp') 460)]):=by
 refine yM func361 U U U (St.lent1 hb) ?_
 refine gL ?_
 refine dK (σ:=Nat) [8,9,12,13,14,15,16,17,18,19,20,21,22,23,24,25,26,27,28,29,30,31,32,33,34,35,36,37,38,39,40,41,42,43,44,45,46,47,48,49,50,51,52] (λi=>[(8,.int .i64 i)]) (λi=>[(b,J (aM lW (jI (l.take i)++l.drop i)++sp') 460)]) (λi=>1<=i/\(i<=n\/i=1)) (λi=>n-i) 1 ?_ ?_ ?_ ?_
 ·exact⟨aR,.inr U⟩
 ·exact .cons U .nil
 ·exact λw h=>by rw[aFT];exact h
 rintro i y ⟨hi1,hi2⟩
 refine gL ?_
 refine KC (λh1 h1n=>?_) (λh1 h1n=>?_)
 ·refine eV ?_
  have hin:i<n:=by simp at *; omega
  have hlt:i<l.length:=by omega
  obtain⟨e,R,hd,hR,hI⟩:∃e R,l.drop i=e::R/\R=l.drop (i+1)/\jI (l.take (i+1))=kL e (jI (l.take i)).reverse []:=⟨l[i],l.drop (i+1),fv hlt,rfl,aJy hlt⟩
  have hS:(jI (l.take i)).length=i:=by rw[R0,fT];omega
  refine cT ?_
  refine dK (σ:=List Sp×List Sp) [9,18,19,20,21,22,23,24,25,26,27,28,29,30,31,32,33,34,35,36,37,38,39,40,41,42,43,44,45,46,47,48,49,50,51,52] (λs=>[(9,.int .i64 s.1.length)]) (λs=>[(b,J (aM lW (s.1++e::(s.2++R))++sp') 460)]) (λs=>kL e s.1.reverse s.2=kL e (jI (l.take i)).reverse []/\s.1.length+s.2.length=i) (λs=>s.1.length) (jI (l.take i),[]) ?_ ?_ ?_ ?_
  ·exact⟨U,hS⟩
  ·exact .cons (M (λk:Nat=>Value.int .i64 k) hS.symm) .nil
  ·exact λw h=>by rw[hd]at h;exact h
  rintro⟨A,B⟩ y2 ⟨hI2,hAB⟩
  simp only at hI2 hAB⊢
  refine aX ?_
  refine DR [9,10,11,12,13] (bQ [0,2,4,6,8,10,12,14,16,18,20,22,24,26,29,30,32]) ?_
  refine bY ?_
  refine KE (λh2 h2n=>?_) (λh2 h2n=>?_)
  ·obtain⟨A',x,rfl⟩:=N7 (l:=A) eM
   refine bY ?_
   refine DY U (fV (s:=5) (A'++[x]).length U U U U eM) U (fZ U U U U (λw hS=>aK.elem tG (jR (.head _) w hS)) U U ?_)
   refine aX ?_
   refine DW (v:=(.int .i64 (A'.length:Int))) U U U (M _ (Te eM)) (DY U (fV (s:=5) A'.length U U U U eM) U (fZ U U U U (λw hS=>aK.elem2 tG (jR (.head _) w hS)) U U ?_))
   refine DZ U (uT (A:=[]) (B:=[]) U K_ U (aS (aLU e x))) U aY (bY ?_)
   refine KC (λh3 h3n=>?_) (λh3 h3n=>?_)
   ·refine bY ?_
    refine DR [10,11,12,13] (bQ [0,2,4,6,8,10,12,14,16,18,20,22,24,26,28,31,32,35]) ?_
    refine eV ?_
    refine DW (v:=(.int .i64 (A'.length:Int))) U U U (M _ (Te eM)) (aX ?_)
    refine DW (v:=(.int .i64 (A'.length:Int))) U U U (M _ (Te eM)) (DY U (fV (s:=5) A'.length U U U U eM) U (fZ U U U U (λw hS=>aK.elem2 tG (jR (.head _) w hS)) U U ?_))
    refine aX ?_
    refine DY U (fV (s:=5) (A'++[x]).length U U U U eM) U (fZ U U U U (λw hS=>aK.elem tG (jR (.head _) w hS)) U U ?_)
    refine DY U (fV (s:=5) (A'++[x]).length U U U U eM) U (DZ U (hQ (vs:=lW x) 0 U U U U U U (W8 tG _ _ _ _ _)) U aY ?_)
    rw[al,aNu tG]
    refine DY U (fV (s:=5) A'.length U U U U eM) U (DZ U (hQ (vs:=lW e) 0 U U U U U U (W8 tG _ _ _ _ _)) U aY ?_)
    rw[al,F3 tG]
    refine bY ?_
    refine RW (v:=(.int .i64 (A'.length:Int))) U U (M _ (Te eM)) (aX ?_)
    exact⟨(A',x::B),⟨by rw[<-aHY e x A' B (by have h0:=h3;rw[aB6]at h0;simpa using h0)];exact hI2,Dx⟩,kQ,.cons U .nil,bB,λ_ h=>h⟩
   refine eD ?_
   exact⟨i+1,⟨aR,.inl I⟩,aR,.cons (M _ (eU I)) .nil,bB,λw h=>by rw[aBs (.inr ⟨A',x,rfl,by have h0:=h3;rw[aB6]at h0;simpa using h0⟩) hI2,<-hI,hR]at h;exact h⟩
  refine cL ?_
  refine Hy U U U ?_
  refine cL ?_
  exact⟨i+1,⟨aR,.inl I⟩,aR,.cons (M _ (eU I)) .nil,bB,λw h=>by rw[aBs (.inl (db eM)) hI2,<-hI,hR]at h;exact h⟩
 refine bG ?_
 exact EN aJ ⟨U,by rw[aH7 eM]⟩
def aL8(w:AI):
  aG prog 361 [.slice none 0 0,.int .i64 0,.int .i64 0,.func (.func 347) #[] #[]] w [] (V_ (.tuple #[])):=by
 refine aT func361 ?_
 refine gL ?_
 refine yC (σ:=Unit) [8,9,12,13,14,15,16,17,18,19,20,21,22,23,24,25,26,27,28,29,30,31,32,33,34,35,36,37,38,39,40,41,42,43,44,45,46,47,48,49,50,51,52] (λ_=>[(8,.int .i64 1)]) (λ_=>True) (λ_=>0) () ?_ ?_ ?_
 ·trivial
 ·exact .cons U .nil
 rintro _ y _
 refine cT ?_
 refine fX false U U U aD ?_
 refine bY ?_
 exact aU (λ_ _=>pJ) ⟨U,U⟩
def aNG(b n cap:Nat)(l:List Sp)(sp':AA)(hn:l.length=n)(h10:n<=10)(w:AI)(hb:w.heap[b]? =some (J (aM lW l++sp') 460)):
  aG prog 354 [.slice (Q_ b) n cap,.int .i64 n,.func (.func 347) #[] #[]] w [b] (λv H=>v= .tuple #[]/\H=[(b,J (aM lW (jI l)++sp') 460)]):=by
 refine yM func354 U U U (St.lent1 hb) ?_
 refine fG ?_
 refine yC (σ:=Unit) [7,8,11,12,13,14,15,16,17,18,19,20,21,22] (λ_=>[(7,.int .i64 0),(8,.int .i64 20)]) (λ_=>True) (λ_=>0) () ?_ ?_ ?_
 ·trivial
 ·exact .cons U (.cons U .nil)
 rintro _ y _
 refine cT ?_
 refine fX false U U U lH ?_
 refine bW ?_
 refine RX (kP (A:=[_]) (G:=[]) [b] K_ U aP (λw hw=>aOv b n cap l sp' hn I w (hw.own_blk (.head _)))) U ?_
 rintro _ _ ⟨_,⟨rfl,rfl⟩,rfl⟩
 refine aX ?_
 refine yC (σ:=Unit) [6,7,8,9,28,29,30,31,32,33,34,35,36,37,38,39,40,41,42,43,44,45,46,47,48,49,50,51,52,53,54,55,56,57,58,59,60,61,62] (λ_=>[(6,.int .i64 20)]) (λ_=>True) (λ_=>0) () ?_ ?_ ?_
 ·trivial
 ·exact .cons U .nil
 rintro _ y _
 refine cT ?_
 refine fX false U U U lH ?_
 refine bY ?_
 exact EN aJ ⟨U,U⟩
def aQx(w:AI):
  aG prog 354 [.slice none 0 0,.int .i64 0,.func (.func 347) #[] #[]] w [] (V_ (.tuple #[])):=by
 refine aT func354 ?_
 refine fG ?_
 refine yC (σ:=Unit) [7,8,11,12,13,14,15,16,17,18,19,20,21,22] (λ_=>[(7,.int .i64 0),(8,.int .i64 20)]) (λ_=>True) (λ_=>0) () ?_ ?_ ?_
 ·trivial
 ·exact .cons U (.cons U .nil)
 rintro _ y _
 refine cT ?_
 refine fX false U U U aD ?_
 refine bW ?_
 refine aO K_ (aS aL8) ?_
 refine aX ?_
 refine yC (σ:=Unit) [6,7,8,9,28,29,30,31,32,33,34,35,36,37,38,39,40,41,42,43,44,45,46,47,48,49,50,51,52,53,54,55,56,57,58,59,60,61,62] (λ_=>[(6,.int .i64 20)]) (λ_=>True) (λ_=>0) () ?_ ?_ ?_
 ·trivial
 ·exact .cons U .nil
 rintro _ y _
 refine cT ?_
 refine fX false U U U aD ?_
 refine bY ?_
 exact aU (λ_ _=>pJ) ⟨U,U⟩
def aQy(b n cap:Nat)(l:List Sp)(sp':AA)(hn:l.length=n)(h10:n<=10)(w:AI)(hb:w.heap[b]? =some (J (aM lW l++sp') 460)):
  aG prog 346 [.slice (Q_ b) n cap,.func (.func 347) #[] #[]] w [b] (λv H=>v= .tuple #[]/\H=[(b,J (aM lW (jI l)++sp') 460)]):=by
 refine yM func346 U U U (St.lent1 hb) ?_
 refine bY ?_
 refine RY gT U (bG ?_)
 refine RX (kP (A:=[_]) (G:=[]) [b] K_ U aP (λw hw=>aNG b n cap l sp' hn h10 w (hw.own_blk (.head _)))) U ?_
 rintro _ _ ⟨_,⟨rfl,rfl⟩,rfl⟩
 refine bG ?_
 exact EN aJ ⟨U,U⟩
def aF8(w:AI):
  aG prog 346 [.slice none 0 0,.func (.func 347) #[] #[]] w [] (V_ (.tuple #[])):=by
 refine aT func346 ?_
 refine bY ?_
 refine RY gT U (bG ?_)
 refine aO K_ (aS aQx) ?_
 refine bG ?_
 exact aU (λ_ _=>pJ) ⟨U,U⟩
def aRB{v:AH}{n:Nat}{l:List Sp}{G:aF}(hV:bS 460 5 v n (aM lW l) G)(h10:n<=10)(w:AI)(hG:∀x∈G,w.heap[x.1]? =some x.2):
  aG prog 346 [v,.func (.func 347) #[] #[]] w (G.map (·.1)) (λu H=>u= .tuple #[]/\bS 460 5 v n (aM lW (jI l)) H):=by
 have hl:=hV.len
 rw[gH tG]at hl
 generalize hx:aM lW l=xs at hV
 cases hV with
 |nil=>
  have:l=[]:=db I
  subst this
  exact(aF8 w).mono λu H ⟨h1,h2⟩=>by subst h1;exact⟨h2,.nil⟩
 |row b _ cap _ sp h1 h2 h3 h4=>
  subst hx
  refine(aQy b n cap l sp I h10 w (hG _ (.head _))).mono λu H ⟨h5,h6⟩=>?_
  subst h6
  have hi:=R0 l
  have h7:=gH tG (jI l)
  have h8:=gH tG l
  exact⟨h5,.row b n cap _ sp (by rw[h7,hi];omega) (by rw[bX,h7,hi];rw[bX,h8]at h2;omega) h3 h4⟩
def aNo(c cb cf cs:Int)(hc:0<=c/\c<256)(hcb:0<=cb/\cb<256)(hcf:0<=cf/\cf<256)(hcs:0<=cs/\cs<256)(a a2:AC)(cap cap2 n:Nat)(l:AB)(hl:bF l)(L:List Sp)(hL:L.length=n)(hok:∀s∈L,vX s)(h1000:n<=1000)(x line below:Int)(hb:0<=below/\below<256)
  (w:AI) (hB:Ns w .u8 a l) (hE:eX w lW a2 L):
  aG prog 349 [.agg #[.int .u8 c,.int .u8 cb,.int .u8 cf,.int .u8 cs],.slice a l.length cap,.slice a2 n cap2,.int .i64 x,.int .i64 line,.int .u8 below] w [] (V_ (.int .u8 (wE l c cb cf cs x line below (L.find? (hit l c x line))))):=by
 refine aT func349 ?_
 refine aX ?_
 refine RX (eE U U) U ?_
 rintro _ _ ⟨b6,rfl,rfl⟩
 refine eD ?_
 refine RY gT U (bY ?_)
 refine dK (σ:=Nat) [12,14,15,18,19,20,21,22,23,24,25,26,27,28,29,30,31,32,33,34,35,36,37,38,39,40,41,42,43,44,45,46,47,48,49,50,51,52,53,54,55,56,57,58] (λk=>[(18,.int .i64 k)]) (λ_=>[(b6,J [.int .u8 c,.int .u8 cb,.int .u8 cf,.int .u8 cs] 450)]) (λk=>k<=n/\(L.take k).find? (hit l c x line)=none) (λk=>n-k) 0 ?_ ?_ ?_ ?_
 ·exact⟨aq _,U⟩
 ·exact .cons U .nil
 ·exact λ_ h=>h
 rintro k y ⟨hk,hk2⟩
 refine cT ?_
 refine KC (λh1 h1n=>?_) (λh1 h1n=>?_)
 ·refine eV ?_
  have hkn:k<n:=by simp at *; omega
  obtain⟨b,off,rfl,hr⟩:=hE.row (i:=k) I
  obtain⟨s,hs⟩:∃s,L[k]? =some s:=⟨_,ap I⟩
  have hso:=hok s (cr hs)
  refine bG ?_
  refine RY (fV (s:=5) k U U U U hkn) U (W (bJ U U U (bU (hr.nth' tG hs) aP)) U (RX (gJ U) U ?_))
  rintro _ _ ⟨b14,rfl,rfl⟩
  refine W iF U (bY ?_)
  refine W (bJ U U U Cb) U (bG ?_)
  refine W (bJ U U U sW) U (aX ?_)
  refine aO K_ (λw hw=>aH6 c cb cf cs hc _ _ l hl s.n s.y s.x s.t s.h x line hso.1 hso.2.1 hso.2.2.1 hso.2.2.2 w (hB.later0 hw)) ?_
  refine cL ?_
  refine KC (λh2 h2n=>?_) (λh2 h2n=>?_)
  ·refine cT ?_
   exact⟨k+1,⟨aR,aHx hk2 hs (by have h0:=h2;simp at h0;simp[hit,h0])⟩,aR,.cons (M _ (eU I)) .nil,bB,(λ_ h=>h.sub Jk)⟩
  refine eD ?_
  refine KL (λh3 h3n=>?_) (λh3 h3n=>?_)
  ·refine eD ?_
   refine KC (λh4 h4n=>?_) (λh4 h4n=>?_)
   ·refine cT ?_
    refine aO K_ (aS (Fj cb _ hcb hb)) ?_
    refine bY ?_
    exact E0 U ⟨U,(M _ (aOm hs hso hb hk2 h2 h3 h4))⟩
   refine mG ?_
   refine KC (λh5 h5n=>?_) (λh5 h5n=>?_)
   ·refine cT ?_
    refine aO K_ (aS (Fj cs _ hcs (Re _ _ _ _ _ _ _ _))) ?_
    refine bY ?_
    exact E0 U ⟨U,(M _ (Sc (b4:=true) hs hso hb hk2 h2 (.inr h4) h5))⟩
   refine eD ?_
   refine aO K_ (aS (Fj cf _ hcf (Re _ _ _ _ _ _ _ _))) ?_
   refine bY ?_
   exact E0 U ⟨U,(M _ (Sc (b4:=false) hs hso hb hk2 h2 (.inr h4) h5))⟩
  refine kV ?_
  refine KC (λh6 h6n=>?_) (λh6 h6n=>?_)
  ·refine cT ?_
   refine aO K_ (aS (Fj cs _ hcs (Re _ _ _ _ _ _ _ _))) ?_
   refine bY ?_
   exact E0 U ⟨U,(M _ (Sc (b4:=true) hs hso hb hk2 h2 (.inl h3) h6))⟩
  refine eD ?_
  refine aO K_ (aS (Fj cf _ hcf (Re _ _ _ _ _ _ _ _))) ?_
  refine bY ?_
  exact E0 U ⟨U,(M _ (Sc (b4:=false) hs hso hb hk2 h2 (.inl h3) h6))⟩
 refine eD ?_
 refine aO K_ (aS (Fj cb _ hcb hb)) ?_
 refine bY ?_
 exact E0 U ⟨U,(M _ (aNw (k:=k) eM hk2))⟩
set_option maxHeartbeats 2000000 in
def line_fn(c cb cf cs:Int)(hc:0<=c/\c<256)(hcb:0<=cb/\cb<256)(hcf:0<=cf/\cf<256)(hcs:0<=cs/\cs<256)(a a2:AC)(cap cap2:Nat)(l oam:AB)(hl:bF l)(ho:bF oam)(hcap:oam.length<=cap2)(line:Int)(bl:AB)(hbl:bl.length=160)(hbb:bF bl)
  (w:AI) (hB:Ns w .u8 a l) (hO:Ns w .u8 a2 oam):
  aG prog 337 [.agg #[.int .u8 c,.int .u8 cb,.int .u8 cf,.int .u8 cs],.slice a l.length cap,.slice a2 oam.length cap2,.int .i64 line,.agg (bl.map (.int .u8)).toArray] w [] (V_ (.agg (Wo l oam c cb cf cs line bl).toArray)):=by
 refine aT func337 ?_
 refine aX ?_
 refine RX (eE U U) U ?_
 rintro _ _ ⟨b5,rfl,rfl⟩
 refine RX (eE (l:=bl.map (.int .u8)) U U) U ?_
 rintro _ _ ⟨b9,rfl,rfl⟩
 refine RX (gJ (l:=List.replicate 160 (.int .u8 0)) aN) U ?_
 rintro _ _ ⟨b10,rfl,rfl⟩
 refine cT ?_
 refine mJ (σ:=AH×aF) [11,13,16,17,18,19,20,21,22,23,24,25,26,27,28,29,30,31,32,33,34,35] (λs=>[(11,s.1)]) (λs=>s.2++[(b10,J (List.replicate 160 (.int .u8 0)) 243),(b9,J (bl.map (.int .u8)) 243),(b5,J [.int .u8 c,.int .u8 cb,.int .u8 cf,.int .u8 cs] 450)]) (λs=>bS 460 5 s.1 (rI oam c line).length (aM lW (rI oam c line)) s.2) ?_ ?_
 ·refine gL ?_
  refine KC (λh1 h1n=>?_) (λh1 h1n=>?_)
  ·refine aX ?_
   refine W (bJ U U U Cb) U (aX ?_)
   refine RX (eN K_ U (λw hw=>aJU c cb cf cs hc _ _ oam ho line hcap w (hO.later0 hw))) U ?_
   rintro _ _ ⟨G23,⟨a23,c23,rfl,hc23,hL23⟩,rfl⟩
   refine RY gT U (bY ?_)
   refine dK (σ:=Nat×AH×aF) [11,13,25,26,27,28,29,30,31,32,33,34,35] (λs=>[(11,s.2.1),(25,.int .i64 s.1)]) (λs=>s.2.2++(G23++[(b10,J (List.replicate 160 (.int .u8 0)) 243),(b9,J (bl.map (.int .u8)) 243),(b5,J [.int .u8 c,.int .u8 cb,.int .u8 cf,.int .u8 cs] 450)])) (λs=>s.1<=(rO oam c line).length/\bS 460 5 s.2.1 s.1 (aM lW (((rO oam c line).take s.1).map (sp oam))) s.2.2) (λs=>(rO oam c line).length-s.1) (0,.slice none 0 0,[]) ?_ ?_ ?_ ?_
   ·exact⟨aq _,.nil⟩
   ·exact .cons U (.cons U .nil)
   ·exact λ_ h=>h
   rintro⟨k,v,G⟩ y ⟨hk,hV⟩
   simp only at hk hV⊢
   have h10:=aFx oam c line
   refine cT ?_
   refine KC (λh2 h2n=>?_) (λh2 h2n=>?_)
   ·refine eV ?_
    have hkn:k<(rO oam c line).length:=by simp at *; omega
    obtain⟨b,off,rfl,hr⟩:=hL23.row (i:=k) hkn
    refine bG ?_
    refine RY (eF k U U U U hkn) U (W (aW U U (aPn hr (by intro x hx;simp[hx]) hkn)) U (bY ?_))
    refine Nc (v:=v) U U U ?_
    refine aX ?_
    refine aO K_ (λw hw=>aB3 _ _ oam ho _ (aKW _ (aGi hkn)) hcap w (hO.later0 hw)) ?_
    refine RX (fY U U U U U U) U ?_
    rintro _ _ ⟨b33,rfl,rfl⟩
    refine RX (lZ (A:=[_]) (G:=G) (R:=_) (v:=v) (m:=1) (by_:=40) U U U U hV (λw hw=> .row _ _ _ _ _ U (aI (.head _) w hw)) U I I) U ?_
    rintro v34 _ ⟨G',hV',hnil,rfl⟩
    refine tE (v:=v34) U U U ?_
    refine cT ?_
    exact⟨(k+1,v34,G'),⟨aR,by rw[aKf hkn];exact hV'⟩,aR,.cons U (.cons (M _ (eU I)) .nil),bB,(λ_ h=>h.sub Jk)⟩
   refine bG ?_
   obtain rfl:k=(rO oam c line).length:=by simp at *; omega
   exact⟨(v,G),by rw[aJL hc h1,eJ];rw[dj]at hV;exact hV,.cons U .nil,bB,λw h=>h.sub (aJ.append (ej _ _))⟩
  refine bG ?_
  exact⟨(.slice none 0 0,[]),by rw[aOX hc h1];exact .nil,.cons U .nil,bB,λw h=>h⟩
 rintro⟨v,G⟩ y2 hV
 simp only at hV⊢
 obtain⟨a11,c11,rfl⟩:=hV.slice
 refine bY ?_
 refine RX (kP (A:=G) (G:=_) (G.map (·.1)) K_ U (λb h=>kA h) (λw hw=>aRB hV (U4 oam c line) w (λx hx=>hw.holds x (by simp[hx])))) U ?_
 rintro _ _ ⟨G',⟨rfl,hV'⟩,rfl⟩
 obtain⟨a1',c1',he,hn11,hc11,hE⟩:=hV'.gives tG aD
 cases he
 refine aX ?_
 refine kO (λw h=>h.perm bf) ?_
 refine bG ?_
 refine RX (gJ (l:=List.replicate 160 (.int .u8 0)) aN) U ?_
 rintro _ _ ⟨b14,rfl,rfl⟩
 refine gL ?_
 refine dK (σ:=Nat) [15,38,39,40,41,42,43,44,45,46,47,48,49,50,51,52] (λk=>[(38,.int .i64 k)]) (λk=>(b14,J (nS .u8 (zM l oam c cb cf cs line bl) 160 k) 243)::([(b10,J (List.replicate 160 (.int .u8 0)) 243),(b9,J (bl.map (.int .u8)) 243),(b5,J [.int .u8 c,.int .u8 cb,.int .u8 cf,.int .u8 cs] 450)]++G')) (λk=>k<=160) (λk=>160-k) 0 ?_ ?_ ?_ ?_
 ·show 0<=160;omega
 ·exact .cons U .nil
 ·exact λw h=>by rw[<-Y0];exact h
 intro k y hk
 refine cT ?_
 refine KC (λh3 h3n=>?_) (λh3 h3n=>?_)
 ·refine mG ?_
  refine DR [2,3,4,5,6,7,8] (bQ [0,2,4,6,8,10,12,14,16,19,20,23]) ?_
  refine bG ?_
  refine fZ U U U U Kx U U ?_
  refine cT ?_
  refine DY U (Lf k U U U U eM) U (DL U U U (dQ (.tail _ (.tail _ (.head _))) (aDR eM)) U (DZ U (cZ K_ U (λw hw=>aNo c cb cf cs hc hcb hcf hcs _ _ _ _ _ l hl (jI (rI oam c line)) hn11 (aRF ho c line) (by have:=U4 oam c line;omega) (k:Int) line _ (hbb.get k) w (hB.later0 hw) (hE.els hw (by intro x hx;simp[hx])))) U aY (DY U (Lf k U U U U eM) U ?_)))
  refine DZ U (hQ 0 U U U U U U (by rw[Td eM];simp at *; omega)) U aY ?_
  rw[al,Wg (f:=zM l oam c cb cf cs line bl) eM (wE l c cb cf cs (k:Int) line (bl.getD k 0) ((jI (rI oam c line)).find? (hit l c (k:Int) line))) rfl]
  refine cT ?_
  exact⟨k+1,Dx,Dx,.cons (M _ (eU I)) .nil,bB,λ_ h=>h⟩
 refine aX ?_
 obtain rfl:k=160:=by simp at *; omega
 refine bG ?_
 refine W (bJ U U Fb (aI (.head _))) U (W (hQ (vs:=(nS .u8 (zM l oam c cb cf cs line bl) 160 160)) (l:=List.replicate 160 (.int .u8 0)) 1 U U U Fb (aCG _ _ _ _) U Vu) U ?_)
 rw[Dp Vu]
 refine aX ?_
 exact aU (λw hw=>eL (l:=(nS .u8 (zM l oam c cb cf cs line bl) 160 160)) U U Fb (aI (.tail _ (.head _)) w hw)) ⟨U,by rw[Y1];rfl⟩
set_option maxHeartbeats 2000000 in
def aLv(b:Nat)(u:PU)(hu:u.Wf)(w:AI)(hst:St w [b] [(b,J (cU u) 247)] w)(hl:u.line<144)(ho:u.own<600):aG prog 309 [P_ b] w [b] (λv H=>v= .tuple #[]/\H=[(b,J (cU (sR u)) 247)]):=by
 have hlb:=hu.line
 have hob:=hu.own
 refine cG func309 hst ?_
 refine ZE1 ?_
 refine DR [4,5,6,7,8,9,10,11,12,13,14,15,16,17,18,19,21] (bQ [0,2,4,6,8,10,12,14,16,18,20,22,24,26,28,30,32,34,36,38,40,43,45]) ?_
 refine ZAm ?_
 refine DY U zO U (DL U U U (dQ aE (sI hu (j:=0) aD)) U (ZAm ?_))
 refine DY U Gk U (DL U U U (dQ aE (sI hu (j:=3) aD)) U (ZAm ?_))
 refine DY U Nf U (DL U U U (dQ aE (sI hu (j:=2) aD)) U (ZAm ?_))
 refine DY U (by first|exact eB 11 rfl rfl rfl rfl aD|exact eF 11 rfl rfl rfl rfl aD|exact iU 11 rfl rfl rfl rfl aD|exact fV 11 rfl rfl rfl rfl aD) U (DL U U U (dQ aE (sI hu (j:=11) aD)) U (ZAm ?_))
 refine DY U (by first|exact eB 10 rfl rfl rfl rfl aD|exact eF 10 rfl rfl rfl rfl aD|exact iU 10 rfl rfl rfl rfl aD|exact fV 10 rfl rfl rfl rfl aD) U (DL U U U (dQ aE (sI hu (j:=10) aD)) U (ZEA ?_))
 refine DX U (gJ U) U sC (ZBF λb0=>?_)
 refine DZ U iF U aY (ZAm ?_)
 refine DR [4,5,6,7,8,9,10,11,12,13,14,15,17] (bQ [0,2,4,6,8,10,12,14,16,18,20,22,24,26,28,30,32,35,37]) ?_
 refine ZAm ?_
 refine DY U zO U (DL U U U (dQ aE (sI hu (j:=0) aD)) U (ZAm ?_))
 refine DY U (by first|exact eB 7 rfl rfl rfl rfl aD|exact eF 7 rfl rfl rfl rfl aD|exact iU 7 rfl rfl rfl rfl aD|exact fV 7 rfl rfl rfl rfl aD) U (DL U U U (dQ aE (sI hu (j:=7) aD)) U (ZAm ?_))
 refine DY U (by first|exact eB 8 rfl rfl rfl rfl aD|exact eF 8 rfl rfl rfl rfl aD|exact iU 8 rfl rfl rfl rfl aD|exact fV 8 rfl rfl rfl rfl aD) U (DL U U U (dQ aE (sI hu (j:=8) aD)) U (ZAm ?_))
 refine DY U (by first|exact eB 9 rfl rfl rfl rfl aD|exact eF 9 rfl rfl rfl rfl aD|exact iU 9 rfl rfl rfl rfl aD|exact fV 9 rfl rfl rfl rfl aD) U (DL U U U (dQ aE (sI hu (j:=9) aD)) U (ZEA ?_))
 refine DX U (gJ U) U sC ?_
 rintro _ _ ⟨b1,rfl,rfl⟩
 refine DZ U iF U aY (ZAm ?_)
 refine DR [1,2,3,4,5,6,7,8,9,10,11,12,17] (.step true 0 (.step true 1 (.step true 2 (.step true 3 (.step true 4 (.step true 5 (.step true 6 (.step true 7 (.step true 8 (.step true 9 (.step true 10 (.step true 11 (.step true 12 (.fork 13 (.step true 14 (.step true 15 (.step true 16 (.step false 17 (.step false 18 (.step true 19 .done)))))) (.fork 17 (.step false 13 (.step true 14 (.step true 15 (.step true 16 (.step false 18 (.step true 19 .done)))))) .stop))))))))))))))) ?_
 refine fZ U U U U Ke U U ?_
 refine On ?_
 refine ZA2 ?_
 refine Lx ?_
 refine ZA2 ?_
 refine DL U U U (dQ aE (Sy hu)) U (nN ?_ ?_)
 ·refine V5 ?_
  refine ZAm ?_
  refine Df λb2=>?_
  refine DZ U iF U aY (ZDg ?_)
  refine ZBZ ?_
  refine Lx ?_
  refine fZ U U U U Kx U U ?_
  refine On ?_
  refine O8 ?_
  refine ZA2 ?_
  refine Lx ?_
  refine fZ U U U U aCg U U ?_
  refine ZAm ?_
  refine ZBr ?_
  refine ZCY ?_
  refine cX ?_
  refine ZBV ?_
  refine KC (λq0 z0=>?_) (λq0 z0=>?_)
  ·refine ZBZ ?_
   refine W (aW U U (bT aE (Sy (hu.P_ (u.line.toNat*160) (rowU_byts u) Il)))) U (RW (v:=(.int .i64 (u.own+1))) U U (M _ (bZ tB tB)) (ZAm ?_))
   refine W (bD (l':=cU {u with P:=iR u.P (u.line.toNat*160) (rowU u),own:=u.own+1}) 3 U U U U U U aBm (Fp (hu.P_ (u.line.toNat*160) (rowU_byts u) Il) _)) U (cX ?_)
   refine ZBI ?_
   exact EN (.cons _ (.cons _ (.cons _ aJ))) ⟨U,by rw[aDk q0]⟩
  refine ZBI ?_
  exact EN (.cons _ (.cons _ (.cons _ aJ))) ⟨U,by rw[aDq q0]⟩
 refine nN ?_ ?_
 ·refine Df λb2=>?_
  refine V5 ?_
  refine ZAm ?_
  refine DZ U iF U aY (ZDg ?_)
  refine ZBZ ?_
  refine Lx ?_
  refine fZ U U U U Kx U U ?_
  refine On ?_
  refine O8 ?_
  refine ZA2 ?_
  refine Lx ?_
  refine fZ U U U U aCg U U ?_
  refine ZAm ?_
  refine ZBr ?_
  refine ZCY ?_
  refine cX ?_
  refine ZBV ?_
  refine KC (λq0 z0=>?_) (λq0 z0=>?_)
  ·refine ZBZ ?_
   refine W (aW U U (bT aE (Sy (hu.P_ (u.line.toNat*160) (rowU_byts u) Il)))) U (RW (v:=(.int .i64 (u.own+1))) U U (M _ (bZ tB tB)) (ZAm ?_))
   refine W (bD (l':=cU {u with P:=iR u.P (u.line.toNat*160) (rowU u),own:=u.own+1}) 3 U U U U U U aBm (Fp (hu.P_ (u.line.toNat*160) (rowU_byts u) Il) _)) U (cX ?_)
   refine ZBI ?_
   exact EN (.cons _ (.cons _ (.cons _ aJ))) ⟨U,by rw[aDk q0]⟩
  refine ZBI ?_
  exact EN (.cons _ (.cons _ (.cons _ aJ))) ⟨U,by rw[aDq q0]⟩
 exact xE
def next_fn(b:Nat)(u:PU)(hu:u.Wf)(w:AI)(hst:St w [b] [(b,J (cU u) 247)] w)(hl:u.line<154):aG prog 335 [P_ b] w [b] (λv H=>v= .int .u8 (Ag u)/\H=[(b,J (cU (qF u)) 247)]):=by
 have hlb:=hu.line
 have hfb:=hu.frames
 refine cG func335 hst ?_
 refine bW ?_
 refine W (bD (l':=cU {u with dot:=0}) 0 U U U U U U uI (Ih hu _)) U (sS ?_)
 refine W (aW U U (bT aE (cU_line (hu.dot_ (x:=0) aD)))) U (RW (v:=(.int .i64 (u.line+1))) U U (M _ (bZ tB tB)) (ZAm ?_))
 refine W (bD (l':=cU {u with dot:=0,line:=u.line+1}) 0 U U U U U U (by rw[cU_len (hu.dot_ (x:=0) aD)];simp only[eZ,az];(try simp only[ak,ai,cj,av,co,aw,ne_eq]at *);omega) (Lb (hu.dot_ (x:=0) aD) _)) U (cX ?_)
 refine ZCy ?_
 refine W (aW U U (bT aE (cU_line ((hu.dot_ (x:=0) aD).line_ (x:=u.line+1) I)))) U (ZCy ?_)
 refine KC (λq0 z0=>?_) (λq0 z0=>?_)
 ·refine aH ?_
  refine W (aW U U (bT aE (H3 ((hu.dot_ (x:=0) aD).line_ (x:=u.line+1) I)))) U (RW (v:=(.int .i64 (u.frames+1))) U U (M _ (bZ tB tB)) (RW (v:=(.int .i64 ((u.frames+1)%65536))) U U (M _ (cy I)) (ZAm ?_)))
  refine W (bD (l':=cU {u with dot:=0,line:=u.line+1,frames:=(u.frames+1)%65536}) 0 U U U U U U aCr (aJI ((hu.dot_ (x:=0) aD).line_ (x:=u.line+1) I) _)) U (sS ?_)
  exact EV U aJ ⟨M _ (by unfold Ag;rw[ag aL]),by rw[aDp aL,show u.line+1=144 by(try simp only[ak,ai,cj,av,co,aw,ne_eq]at *);omega]⟩
 refine ZBV ?_
 refine KC (λq1 z1=>?_) (λq1 z1=>?_)
 ·refine ZBV ?_
  refine W (bD (l':=cU {u with dot:=0,line:=0}) 0 U U U U U U aCr (Lb ((hu.dot_ (x:=0) aD).line_ (x:=u.line+1) I) _)) U (iI ?_)
  refine W (bD (l':=cU {u with dot:=0,line:=0,own:=0}) 0 U U U U U U (by rw[cU_len ((hu.dot_ (x:=0) aD).line_ (x:=0) aD)];simp only[eZ,az];(try simp only[ak,ai,cj,av,co,aw,ne_eq]at *);omega) (Fp ((hu.dot_ (x:=0) aD).line_ (x:=0) aD) _)) U (sS ?_)
  exact EV U aJ ⟨M _ (by unfold Ag;rw[ae aL]),by rw[aCu aL]⟩
 refine aH ?_
 exact EV U aJ ⟨M _ (by unfold Ag;rw[ae aL]),by rw[R3 aL aL]⟩
set_option maxHeartbeats 2000000 in
def tick_fn(b:Nat)(u:PU)(hok:u.Ok)(w:AI)(hst:St w [b] [(b,J (cU u) 247)] w):aG prog 326 [P_ b] w [b] (λv H=>v= .int .u8 (tickV u)/\H=[(b,J (cU (tickU u)) 247)]):=by
 have hu:=hok.wf
 have hd:=hok.dot
 have hlb:=hu.line
 have hl154:=hok.line
 have hdb:=hu.dot
 have hws:=hok.step
 refine cG func326 hst ?_
 refine iT ?_
 refine aO K_ (λw hw=>Ah b u hu w (aI aE w hw)) ?_
 refine ZA2 ?_
 refine KC (λq0 z0=>?_) (λq0 z0=>?_)
 ·refine ZBV ?_
  exact EV U aJ ⟨M _ (by unfold tickV;rw[ae uN]),by unfold tickU;rw[ae uN]⟩
 refine cL ?_
 refine W (aW U U (bT aE (cU_dot hu))) U (RW (v:=(.int .i64 (u.dot+1))) U U (M _ (bZ I I)) (ZAm ?_))
 refine W (bD (l':=cU (oneU u)) 0 U U U U U U uI (Ih hu _)) U (cX ?_)
 refine ZE1 ?_
 refine A2 ?_
 refine ZBI ?_
 refine KL (λq1 z1=>?_) (λq1 z1=>?_)
 ·refine ZA2 ?_
  refine W (aW U U (bT aE (show(cU (oneU u))[8364]? =some (.int .i64 u.line)from cU_line (hu.one hd)))) U (ZBZ ?_)
  refine KC (λq2 z2=>?_) (λq2 z2=>?_)
  ·refine ZAm ?_
   refine W (iB K_ U (λw hw=>aLv b (oneU u) (hu.one hd) w (St.lentA hw) (show u.line<144 by(try simp only[ak,ai,cj,av,co,aw,ne_eq]at *);omega) hok.own599)) U (ZBV ?_)
   have hs9:stepU u=sR (oneU u):=Nd aL aL
   refine Io ?_
   refine ZBZ ?_
   have hlit:jC u=true:=by simp_all
   exact Yq
  refine ZBV ?_
  refine A2 ?_
  refine ZA2 ?_
  refine KC (λq3 z3=>?_) (λq3 z3=>?_)
  ·refine ZCT ?_
   refine aH ?_
   have hs9:stepU u=qF (oneU u):=Js aL
   refine Io ?_
   refine ZBZ ?_
   have hlit:jC u=true:=by simp_all
   have hnv:Ag (oneU u)=stepV u:=by
    have q4:u.dot=113:=aL
    unfold Ag stepV oneU;simp[q4]
   exact EV U aJ ⟨M _ J7,C4⟩
  refine ZBV ?_
  have hs9:stepU u=oneU u:=Mf aL aL
  refine Io ?_
  refine ZBZ ?_
  have hlit:jC u=true:=by simp_all
  exact Yq
 refine jJ ?_
 refine A2 ?_
 refine ZA2 ?_
 refine KC (λq2 z2=>?_) (λq2 z2=>?_)
 ·refine ZCT ?_
  refine aH ?_
  have hs9:stepU u=qF (oneU u):=Js aL
  refine Io ?_
  refine ZBZ ?_
  have hlit:jC u=true:=by simp_all
  have hnv:Ag (oneU u)=stepV u:=by
   have q3:u.dot=113:=aL
   unfold Ag stepV oneU;simp[q3]
  exact EV U aJ ⟨M _ J7,C4⟩
 refine ZBV ?_
 have hs9:stepU u=oneU u:=Mf aL aL
 refine Io ?_
 refine ZBZ ?_
 have hlit:jC u=true:=by simp_all
 exact Yq
def new_fn(w:AI):aG prog 88 [] w [] (λv H=>∃b,v=P_ b/\H=[(b,J (cU jV) 247)]):=by
 refine aT func88 ?_
 refine aH ?_
 refine RY (qJ (l:=cU jV) (z:=cU jV) (ps:=[]) U aN U U) U (RX (eE (l:=cU jV) U U) U (ZBF λb0=>?_))
 refine ZA2 ?_
 exact EV U aJ ⟨b0,U,U⟩
def peek_fn(b:Nat)(u:PU)(hu:u.Wf)(w:AI)(hr:aK w b 0 (cU u))(a:Int)(ha:0<=a/\a<65536):aG prog 116 [P_ b,.int .u16 a] w [] (V_ (.int .u8 (qX u a))):=by
 have hlb:=hu.line
 have hnr:=Ox a
 have hmr:=L9 u
 refine aT func116 ?_
 refine jJ ?_
 rcases P3 ha with⟨j,hj,rfl⟩|⟨j,hj,rfl⟩|hno
 ·refine yF ?_
  rw[L8 hj]
  refine bW ?_
  refine jN ?_
  refine aH ?_
  refine W (aW U U (dN (hr _ _ (aLQ hu hj)) aP)) U (ZA2 ?_)
  exact E0 U ⟨U,M _ (aNj hj).symm⟩
 ·refine yF ?_
  rw[Yo hj]
  refine bW ?_
  refine jN ?_
  refine aH ?_
  refine W (aW U U (dN (qE hr (aKP hu hj)) aP)) U (ZA2 ?_)
  exact E0 U ⟨U,M _ (aQG hj).symm⟩
 refine yF ?_
 rw[D8 hno]
 refine bW ?_
 refine iO ?_
 refine aH ?_
 refine aO K_ (aS (aBT _ ha)) ?_
 refine kD ?_
 refine KC (λq0 z0=>?_) (λq0 z0=>?_)
 ·refine ZBV ?_
  exact E0 U ⟨U,M _ (by rw[Ij hno,ag aL])⟩
 refine ZBV ?_
 refine KC (λq1 z1=>?_) (λq1 z1=>?_)
 ·refine ZBV ?_
  refine W (aW U U (dN (qE hr (cU_line hu)) aP)) U (RW (v:=(.int .u8 (u.line%256))) U U (M _ (nW _)) (ZA2 ?_))
  exact E0 U ⟨U,M _ (by rw[Ij hno,ae aL,ag aL])⟩
 refine ZBV ?_
 refine KC (λq2 z2=>?_) (λq2 z2=>?_)
 ·refine ZBI ?_
  refine DR [7,8,9] (bQ [0,2,4,6,8,10,12,14,17,18,20,22]) ?_
  refine ZBZ ?_
  refine DY U (eB (numU a).toNat U U U aL aL) U (DL U U U (gS (qE hr (sI hu (j:=(numU a).toNat) aL)) aP) U (ZAm ?_))
  refine DZ U (cZ K_ U (λw hw=>Es b u hu w (bU hr aP w hw))) U gV (DW (v:=(.int .u8 (modeU u))) U U U (M _ (Ib I I)) (DW (v:=(.int .u8 (Cc u))) U U U (by have h9:(numU a).toNat=1:=aL;rw[h9];rfl) (aH ?_)))
  refine aO K_ (λw hw=>aCH b u hu w (bU hr aP w hw)) ?_
  refine ZBI ?_
  refine KC (λq3 z3=>?_) (λq3 z3=>?_)
  ·refine iT ?_
   exact E0 U ⟨U,M _ (by rw[Ij hno,ae aL,ae aL,ag aL,ag q3];try rfl)⟩
  refine ZCy ?_
  exact E0 U ⟨U,M _ (by rw[Ij hno,ae aL,ae aL,ag aL,ae (by rw[q3];decide)];try rfl)⟩
 refine ZCy ?_
 refine RY (eB (numU a).toNat U U U aL aL) U (W (aW U U (dN (qE hr (sI hu (j:=(numU a).toNat) aL)) aP)) U (ZA2 ?_))
 exact E0 U ⟨U,M _ (by rw[Ij hno,ae aL,ae aL,ae aL])⟩
def aGJ(b:Nat)(u:PU)(hu:u.Wf)(w:AI)(hr:aK w b 0 (cU u))(a:Int)(ha:0<=a/\a<65536):aG prog 307 [P_ b,.int .u16 a] w [] (V_ (.int .u8 (vH u a))):=by
 refine aT func307 ?_
 refine jJ ?_
 rcases P3 ha with⟨j,hj,rfl⟩|⟨j,hj,rfl⟩|hno
 ·refine yF ?_
  rw[L8 hj]
  refine bW ?_
  refine jN ?_
  refine ZAm ?_
  refine aO K_ (λw hw=>Es b u hu w (bU hr aP w hw)) ?_
  refine ZBZ ?_
  refine KC (λq0 z0=>?_) (λq0 z0=>?_)
  ·refine ZBV ?_
   exact E0 U ⟨U,M _ (by rw[aFi hj,ag aL])⟩
  refine ZBV ?_
  refine P9 ?_
  exact E0 U ⟨U,M _ (by rw[aFi hj,ae aL])⟩
 ·refine yF ?_
  rw[Yo hj]
  refine bW ?_
  refine jN ?_
  refine ZAm ?_
  refine aO K_ (λw hw=>Es b u hu w (bU hr aP w hw)) ?_
  refine ZBZ ?_
  refine KC (λq0 z0=>?_) (λq0 z0=>?_)
  ·refine ZBV ?_
   exact E0 U ⟨U,M _ (by rw[aFt hj,ag aL])⟩
  refine ZBV ?_
  refine P9 ?_
  exact E0 U ⟨U,M _ (by rw[aFt hj,ae aL])⟩
 refine yF ?_
 rw[D8 hno]
 refine bW ?_
 refine iO ?_
 refine kD ?_
 refine P9 ?_
 exact E0 U ⟨U,M _ (aOF hno).symm⟩
set_option maxHeartbeats 2000000 in
def aI6(b:Nat)(u:PU)(hu:u.Wf)(w:AI)(hst:St w [b] [(b,J (cU u) 247)] w)(a x:Int)(ha:0<=a/\a<65536)(hx:0<=x/\x<256):aG prog 308 [P_ b,.int .u16 a,.int .u8 x] w [b] (λv H=>v= .int .u8 (rJ u a x)/\H=[(b,J (cU (lF u a x)) 247)]):=by
 have hnr:=Ox a
 refine cG func308 hst ?_
 refine jJ ?_
 rcases P3 ha with⟨j,hj,rfl⟩|⟨j,hj,rfl⟩|hno
 ·refine yF ?_
  rw[L8 hj]
  refine bW ?_
  refine jN ?_
  refine aH ?_
  refine aO K_ (λw hw=>Es b u hu w (aI aE w hw)) ?_
  refine ZA2 ?_
  refine KC (λq0 z0=>?_) (λq0 z0=>?_)
  ·refine ZBZ ?_
   refine W (bD (l':=cU {u with V:=u.V.set j x}) 0 U U U U U U uI (by rw[bj];exact aPe hu hj x)) U (sS ?_)
   exact EV U aJ ⟨M _ (U7 _ hj).symm,by rw[aBC _ hj,ag aL]⟩
  refine aH ?_
  exact EV U aJ ⟨M _ (U7 _ hj).symm,by rw[aBC _ hj,ae aL]⟩
 ·refine yF ?_
  rw[Yo hj]
  refine bW ?_
  refine jN ?_
  refine aH ?_
  refine aO K_ (λw hw=>Es b u hu w (aI aE w hw)) ?_
  refine ZA2 ?_
  refine KC (λq0 z0=>?_) (λq0 z0=>?_)
  ·refine ZBZ ?_
   refine W (bD (l':=cU {u with O:=u.O.set j x}) 0 U U U U U U uI (aA1 hu hj x)) U (sS ?_)
   exact EV U aJ ⟨M _ (aAd _ hj).symm,by rw[aFd _ hj,ag aL]⟩
  refine aH ?_
  exact EV U aJ ⟨M _ (aAd _ hj).symm,by rw[aFd _ hj,ae aL]⟩
 refine yF ?_
 rw[D8 hno]
 refine bW ?_
 refine iO ?_
 refine aH ?_
 refine aO K_ (aS (aBT _ ha)) ?_
 refine ZBI ?_
 refine aO K_ (λw hw=>Ah b u hu w (aI aE w hw)) ?_
 refine jJ ?_
 refine KC (λq0 z0=>?_) (λq0 z0=>?_)
 ·refine ZBV ?_
  exact EV U aJ ⟨M _ (aKF _ hno aL).symm,by rw[aIL _ hno aL]⟩
 refine ZBV ?_
 refine KC (λq1 z1=>?_) (λq1 z1=>?_)
 ·refine ZCy ?_
  refine RY (eB (numU a).toNat U U U aL aL) U (W (bD (l':=cU {u with R:=u.R.set 1 (aQ .u8 x 120)}) 0 U U U U U U uI (by rw[show(numU a).toNat=1 by(try simp only[ak,ai,cj,av,co,aw,ne_eq]at *);omega];exact aDd hu (j:=1) aD _)) U (cX ?_))
  refine ZBV ?_
  refine KL (λq2 z2=>?_) (λq2 z2=>?_)
  ·refine ZBI ?_
   refine aO K_ (λw hw=>Ah b ({u with R:=u.R.set 1 (aQ .u8 x 120)}) (hu.set1 hx) w (aI aE w hw)) ?_
   refine ZA2 ?_
   refine KC (λq3 z3=>?_) (λq3 z3=>?_)
   ·refine aH ?_
    refine W (bD (l':=cU ({ ({u with R:=u.R.set 1 (aQ .u8 x 120)}:PU)with line:=0}:PU)) 0 U U U U U U (by rw[cU_len (hu.set1 hx)];simp only[eZ,az];(try simp only[ak,ai,cj,av,co,aw,ne_eq]at *);omega) (Lb (hu.set1 hx) _)) U (iI ?_)
    refine W (bD (l':=cU ({ ({u with R:=u.R.set 1 (aQ .u8 x 120)}:PU)with line:=0,dot:=0}:PU)) 0 U U U U U U (by rw[cU_len ((hu.set1 hx).line_ (x:=0) aD)];simp only[eZ,az];(try simp only[ak,ai,cj,av,co,aw,ne_eq]at *);omega) (Ih ((hu.set1 hx).line_ (x:=0) aD) _)) U (iI ?_)
    refine W (bD (l':=cU ({ ({u with R:=u.R.set 1 (aQ .u8 x 120)}:PU)with line:=0,dot:=0,own:=0}:PU)) 0 U U U U U U (by rw[cU_len (((hu.set1 hx).line_ (x:=0) aD).dot_ (x:=0) aD)];simp only[eZ,az];(try simp only[ak,ai,cj,av,co,aw,ne_eq]at *);omega) (Fp (((hu.set1 hx).line_ (x:=0) aD).dot_ (x:=0) aD) _)) U (cX ?_)
    refine ZBZ ?_
    have hs9:putU u (numU a) x=({ ({u with R:=u.R.set 1 (aQ .u8 x 120)}:PU)with line:=0,dot:=0,own:=0}:PU):=by
     unfold putU;rw[set_1 aL];exact Nm uN uN
    exact Cm
   refine ZBZ ?_
   exact Z2
  refine cL ?_
  exact Z2
 refine ZBV ?_
 refine KC (λq2 z2=>?_) (λq2 z2=>?_)
 ·refine ZBV ?_
  refine KL (λq3 z3=>?_) (λq3 z3=>?_)
  ·refine ZBI ?_
   refine aO K_ (λw hw=>Ah b (u) hu w (aI aE w hw)) ?_
   refine ZA2 ?_
   refine KC (λq4 z4=>?_) (λq4 z4=>?_)
   ·refine aH ?_
    refine W (bD (l':=cU ({ (u:PU)with line:=0}:PU)) 0 U U U U U U uI (Lb hu _)) U (iI ?_)
    refine W (bD (l':=cU ({ (u:PU)with line:=0,dot:=0}:PU)) 0 U U U U U U (by rw[cU_len (hu.line_ (x:=0) aD)];simp only[eZ,az];(try simp only[ak,ai,cj,av,co,aw,ne_eq]at *);omega) (Ih (hu.line_ (x:=0) aD) _)) U (iI ?_)
    refine W (bD (l':=cU ({ (u:PU)with line:=0,dot:=0,own:=0}:PU)) 0 U U U U U U (by rw[cU_len ((hu.line_ (x:=0) aD).dot_ (x:=0) aD)];simp only[eZ,az];(try simp only[ak,ai,cj,av,co,aw,ne_eq]at *);omega) (Fp ((hu.line_ (x:=0) aD).dot_ (x:=0) aD) _)) U (cX ?_)
    refine ZBZ ?_
    have hs9:putU u (numU a) x=({ (u:PU)with line:=0,dot:=0,own:=0}:PU):=by
     unfold putU;rw[Lq aL];exact Nm uN uN
    exact Cm
   refine ZBZ ?_
   have hs9:putU u (numU a) x=u:=by
    unfold putU;rw[Lq aL];exact off_no uN
   exact Cm
  refine cL ?_
  have hs9:putU u (numU a) x=u:=by
   unfold putU;rw[Lq aL];exact off_no uN
  exact Cm
 refine aH ?_
 refine RY (eB (numU a).toNat U U U aL aL) U (W (bD (l':=cU {u with R:=u.R.set (numU a).toNat x}) 0 U U U U U U uI (aDd hu (j:=(numU a).toNat) aL x)) U (cX ?_))
 refine ZBV ?_
 refine KL (λq3 z3=>?_) (λq3 z3=>?_)
 ·refine ZBI ?_
  refine aO K_ (λw hw=>Ah b ({u with R:=u.R.set (numU a).toNat x}) (hu.setn hx aL aL) w (aI aE w hw)) ?_
  refine ZA2 ?_
  refine KC (λq4 z4=>?_) (λq4 z4=>?_)
  ·refine aH ?_
   refine W (bD (l':=cU ({ ({u with R:=u.R.set (numU a).toNat x}:PU)with line:=0}:PU)) 0 U U U U U U (by rw[cU_len (hu.setn hx aL aL)];simp only[eZ,az];(try simp only[ak,ai,cj,av,co,aw,ne_eq]at *);omega) (Lb (hu.setn hx aL aL) _)) U (iI ?_)
   refine W (bD (l':=cU ({ ({u with R:=u.R.set (numU a).toNat x}:PU)with line:=0,dot:=0}:PU)) 0 U U U U U U (by rw[cU_len ((hu.setn hx aL aL).line_ (x:=0) aD)];simp only[eZ,az];(try simp only[ak,ai,cj,av,co,aw,ne_eq]at *);omega) (Ih ((hu.setn hx aL aL).line_ (x:=0) aD) _)) U (iI ?_)
   refine W (bD (l':=cU ({ ({u with R:=u.R.set (numU a).toNat x}:PU)with line:=0,dot:=0,own:=0}:PU)) 0 U U U U U U (by rw[cU_len (((hu.setn hx aL aL).line_ (x:=0) aD).dot_ (x:=0) aD)];simp only[eZ,az];(try simp only[ak,ai,cj,av,co,aw,ne_eq]at *);omega) (Fp (((hu.setn hx aL aL).line_ (x:=0) aD).dot_ (x:=0) aD) _)) U (cX ?_)
   refine ZBZ ?_
   have hs9:putU u (numU a) x=({ ({u with R:=u.R.set (numU a).toNat x}:PU)with line:=0,dot:=0,own:=0}:PU):=by
    unfold putU;rw[set_n aL aL];exact Nm uN uN
   exact Cm
  refine ZBZ ?_
  exact ZDs
 refine cL ?_
 exact ZDs
def aJN(b:Nat)(u:PU)(hu:u.Wf)(w:AI)(hst:St w [b] [(b,J (cU u) 247)] w)(n x:Int)(hx:0<=x/\x<256):aG prog 324 [P_ b,.int .i64 n,.int .u8 x] w [b] (λv H=>v= .tuple #[]/\H=[(b,J (cU (wC u n x)) 247)]):=by
 refine cG func324 hst ?_
 refine ZE1 ?_
 refine KL (λq0 z0=>?_) (λq0 z0=>?_)
 ·refine ZBZ ?_
  refine KC (λq1 z1=>?_) (λq1 z1=>?_)
  ·refine aH ?_
   refine RY (eB n.toNat U U U aL aL) U (W (bD (l':=cU {u with O:=u.O.set n.toNat x}) 0 U U U U U U uI (aA1 hu (j:=n.toNat) aL x)) U (cX ?_))
   refine ZBI ?_
   exact EN aJ ⟨U,by unfold wC;rw[ag aL]⟩
  refine ZBI ?_
  exact EN aJ ⟨U,by unfold wC;rw[ae aL]⟩
 refine aH ?_
 exact EN aJ ⟨U,by unfold wC;rw[ae aL]⟩
def aKK(n:Nat)(hn:n<=1000000)(w:AI):aG prog 144 [.slice none 0 0,.int .i64 n] w [] (λv H=>bS 5 1 v 0 [] H):=by
 refine aT func144 ?_
 refine ZE1 ?_
 refine fX false U U U aP ?_
 refine ZE1 ?_
 refine RY (aD0 U U) U (ZBI ?_)
 refine gK ?_
 refine RW (v:=(.int .i64 0)) U U U (RW (v:=(.int .i64 (n:Int))) U U (M _ (by rw[Int.sub_zero];exact bZ I I)) (ZCy ?_))
 refine KC (λq0 z0=>?_) (λq0 z0=>?_)
 ·refine ZA2 ?_
  refine RY (aD0 U U) U (RY (Eg 0 U U U U aD) U (ZBI ?_))
  refine RX (aNz (n:=n) (T:=5) (s:=1) (by_:=1) U U U U U I hn aD) U ?_
  rintro _ _ ⟨b0,cap,sp,rfl,rfl,hsp,hcap,hcm⟩
  refine ZBI ?_
  refine gK ?_
  refine RY (Eg 0 U U U U I) U (ZE1 ?_)
  exact EV U aJ (.row b0 0 cap [] sp U (by simpa using hsp) hcm (aq _))
 refine ZCy ?_
 exact E0 U .nil
def aQn(b:Nat)(S:List Sg)(w:AI)(hr:aK w b 0 (aM cSg S))(hn:S.length<=1000)(hs:∀s∈S,Ns w .u8 s.a s.l/\s.l.length<=s.c)(hl:(nL S).length<=1000000):
  aG prog 103 [.slice (Q_ b) S.length S.length] w [] (λv H=>bS 5 1 v (nL S).length ((nL S).map (.int .u8)) H):=by
 refine aT func103 ?_
 refine fG ?_
 refine RY gT U (bY ?_)
 refine yC (σ:=Nat) [3,5,11,12,13,14,15,16,17,18,19,20,21,22] (λi=>[(3,.int .i64 ((nL (S.take i)).length:Int)),(11,.int .i64 i)]) (λi=>i<=S.length) (λi=>S.length-i) 0 ?_ ?_ ?_
 ·exact aq _
 ·exact .cons U (.cons U .nil)
 intro i y3 hi
 have hc0:=F0 S i
 refine cT ?_
 refine KC (λh1 h1n=>?_) (λh1 h1n=>?_)
 ·refine eV ?_
  obtain⟨s,hsi⟩:∃s,S[i]? =some s:=⟨_,Vk I⟩
  have hc1:=aCN S i hsi
  have hc2:=F0 S (i+1)
  have hc3:=M List.length hc1
  rw[bX]at hc3
  refine bG ?_
  refine RY (eF i U U U U I) U (W (aW U U (λw hw=>N9)) U (eD ?_))
  refine RY (W9 (a:=s.a) (c:=s.c) U U) U (RW (v:=(.int .i64 (((nL (S.take i)).length:Int)+(s.l.length:Int)))) U U (M _ (bZ I I)) (cT ?_))
  refine fX false U U U lH ?_
  refine eV ?_
  refine RW (v:=(.int .i64 ((i+1:Nat):Int))) U U (M _ (eU I)) (aX ?_)
  exact⟨i+1,aR,aR,.cons (M (Value.int .i64) (show(((nL (S.take i)).length:Int)+(s.l.length:Int))=((nL (S.take (i+1))).length:Int)by omega)) (.cons U .nil),bB,λ_ h=>h⟩
 refine aX ?_
 obtain rfl:S.length=i:=by omega
 rw[dj]
 refine aX ?_
 refine RX (eN K_ U (aS (aKK _ I))) U ?_
 rintro v24 _ ⟨G24,hV24,rfl⟩
 refine tE (v:=v24) U U U ?_
 refine cT ?_
 refine RY gT U (bY ?_)
 refine dK (σ:=Nat×AH×aF) [6,8,27,28,29,30,31,32,33,34] (λs=>[(6,s.2.1),(27,.int .i64 s.1)]) (λs=>s.2.2++[]) (λs=>s.1<=S.length/\bS 5 1 s.2.1 (nL (S.take s.1)).length ((nL (S.take s.1)).map (.int .u8)) s.2.2) (λs=>S.length-s.1) (0,v24,G24) ?_ ?_ ?_ ?_
 ·exact⟨aq _,hV24⟩
 ·exact .cons U (.cons U .nil)
 ·exact λ_ h=>h
 rintro⟨i,v6,G6⟩ y11 ⟨hi,hV6⟩
 dsimp only at hi hV6⊢
 obtain⟨a6,c6,rfl⟩:=hV6.slice
 have hle6:=hV6.cap_le.1
 refine cT ?_
 refine KC (λh2 h2n=>?_) (λh2 h2n=>?_)
 ·refine eV ?_
  obtain⟨s,hsi⟩:∃s,S[i]? =some s:=⟨_,Vk I⟩
  obtain⟨hsN,hsc⟩:=hs s (cr hsi)
  have hc1:=aCN S i hsi
  have hc2:=F0 S (i+1)
  have hc3:=M List.length hc1
  rw[bX]at hc3
  rcases(show s.l.length=0\/0<s.l.length by omega)with hs0|hs1
  ·refine bG ?_
   refine RY (eF i U U U U I) U (W (aW U U (λw hw=>N9)) U (cT ?_))
   refine W (aCa U U hs0 U U hle6) U (bY ?_)
   refine RW (v:=(.int .i64 ((i+1:Nat):Int))) U U (M _ (eU I)) (aX ?_)
   exact⟨(i+1,_,G6),⟨aR,by rw[hc1,db hs0,cn];exact hV6⟩,aR,.cons U (.cons U .nil),bB,λ_ h=>h⟩
  refine bG ?_
  refine RY (eF i U U U U I) U (W (aW U U (λw hw=>N9)) U (cT ?_))
  obtain⟨bs9,os9,has9,hrs⟩:=hsN hs1
  rw[has9]
  refine RX (wY (A:=[]) (G:=G6++[]) (n:=(nL (S.take i)).length) (m:=s.l.length) (T:=5) (s:=1) (by_:=1) (ys:=s.l.map (.int .u8)) U U U U (by rw[cn];exact hV6) (λw hw=> .row _ _ _ _ _ aP (bU hrs aP w hw)) (kX _ _) I I) U ?_
  rintro v33 _ ⟨G33,hV33,_,rfl⟩
  obtain⟨a33,c33,rfl⟩:=hV33.slice
  refine bY ?_
  refine RW (v:=(.int .i64 ((i+1:Nat):Int))) U U (M _ (eU I)) (aX ?_)
  exact⟨(i+1,_,G33),⟨aR,hV33.as hc3.symm (by rw[hc1,bz])⟩,aR,.cons U (.cons U .nil),bB,λ_ h=>h⟩
 refine aX ?_
 obtain rfl:S.length=i:=by omega
 refine cT ?_
 exact EV U (cz _ _) (by have h9:=hV6;simp only[dj]at h9⊢; exact h9)
def aPQ(is:Bool)(w:AI):aG prog 104 [.bool is] w [] (V_ (.int .u8 (gX is))):=by
 refine aT func104 ?_
 refine bW ?_
 refine KC (λq0 z0=>?_) (λq0 z0=>?_)
 ·refine ZBV ?_
  exact E0 U ⟨U,by subst q0;rfl⟩
 refine aH ?_
 exact E0 U ⟨U,by subst q0;rfl⟩
def aBb(b:Nat)(u:PU)(hu:u.Wf)(w:AI)(hr:aK w b 0 (cU u)):aG prog 55 [P_ b] w [] (λv H=>bS 5 1 v (fM u).length ((fM u).map (.int .u8)) H):=by
 have hdb:=hu.dot
 have hlb:=hu.line
 have hob:=hu.own
 have hfb:=hu.frames
 refine aT func55 ?_
 refine uV ?_
 refine W (bJ U U (by rw[eJ,hu.lR];rfl) (bU (aKL hu hr) aP)) U (lB λb0=>?_)
 refine W (bD (l':=u.R.map (.int .u8)) 0 U U U (by rw[eJ,hu.lR];rfl) (kX _ _) U (by rw[eJ,hu.lR];simp) (Dp (by rw[eJ,hu.lR];rfl))) U (aH ?_)
 refine W (aW U U (dN (qE hr (cU_line hu)) aP)) U (RW (gF U U U) U vO (RY Da U (W (bD (l':=(r4 u).map (.int .u8)) 0 U U U U U U (by rw[eJ,hu.lR];simp) (vP .u8 (by rw[hu.lR];decide) _)) U ?_)))
 refine ZAm ?_
 have hl83:=aCi hu b b0
 refine DR [] (bQ [0,2,4,6,8,10,12,14,16,18,21,23,24]) ?_
 refine On ?_
 refine O8 ?_
 refine DW (v:=(.slice (Q_ b0) ((r4 u).take 6).length 12)) U (pR 0 6 U U U U U U aD aD) U (by rw[fT,r4_len hu];rfl) (DW (v:=(.slice (some ⟨b0,7,none⟩) ((r4 u).drop 7).length 5)) U (pR 7 12 U U U U U U aD aD) U (by rw[dM,r4_len hu];rfl) (DX U (fY U U U U U U) U aY ?_))
 rintro _ _ ⟨b1,rfl,rfl⟩
 refine DX U (eN K_ (vs:=[.slice (Q_ b1) 4 4]) U (λw hw=>aQn b1 (Bc u b b0) w (aI aE w hw) (by simp[Bc]) (aGU hu (bU hr aP w hw) (aI aE w hw)) I)) U aY ?_
 rintro v0 _ ⟨G0,hV0,rfl⟩
 obtain⟨a29,c0,rfl⟩:=hV0.slice
 refine ZA2 ?_
 refine DR [6,7,8,9,10,11,12,13,14,15,16,17,18,19,20,21,22,23,24,25,26] (bQ [0,2,4,6,8,10,12,14,16,18,20,22,24,26,28,30,32,34,36,38,40,42,44,46,48,50,53,55,57,58]) ?_
 refine ZBZ ?_
 refine DL U U U (gS (qE hr (cU_dot hu)) aP) U (wG ?_)
 refine ZA2 ?_
 refine DL U U U (gS (qE hr (Sy hu)) aP) U (wG ?_)
 refine ZA2 ?_
 refine DL U U U (gS (qE hr (H3 hu)) aP) U (wG ?_)
 refine ZA2 ?_
 refine DL U U U (gS (qE hr (H3 hu)) aP) U (Sj ?_)
 refine ZA2 ?_
 refine DL U U U (gS (qE hr (cU_sig hu)) aP) U (DZ U (cZ K_ U (aS (aPQ u.sig))) U gV (DX U (fY U U U U U U) U aY ?_))
 rintro _ _ ⟨b2,rfl,rfl⟩
 refine lE (H':=[(b2,_)]++G0) (λ_ h=>St.fl [[_],G0,[_],[_]] [0,1] U h) ?_
 refine DX U (wY (A:=[(b2,J ((sX u).map (.int .u8)) 5)]) (G:=G0) (n:=(nL (Bc u b b0)).length) (m:=5) (T:=5) (s:=1) (by_:=1) (ys:=(sX u).map (.int .u8)) U U U U hV0 (λw hw=> .row _ _ _ _ _ U (aI (.head _) w hw)) (kX _ _) I I) U aY ?_
 rintro v1 _ ⟨G1,hV1,_,rfl⟩
 refine aBB (v:=v1) U U U U ?_
 refine ZA2 ?_
 have hV5:bS 5 1 v1 (wB u).length ((wB u).map (.int .u8)) G1:=hV1.as (by rw[F2 hu,aCi hu]) (by rw[aDN];simp[wB])
 refine ZBZ ?_
 refine dK (σ:=Nat×AH×aF) [4,5,59,60,61,62,63,64,65,66,67,68,69,70] (λs=>[(4,s.2.1),(59,.int .i64 s.1)]) (λs=>s.2.2++[]) (λs=>s.1<=144/\bS 5 1 s.2.1 (wB u++u.P.take (s.1*160)).length ((wB u++u.P.take (s.1*160)).map (.int .u8)) s.2.2) (λs=>144-s.1) (0,v1,G1) ?_ ?_ ?_ ?_
 ·exact⟨aq _,by simpa using hV5⟩
 ·exact .cons U (.cons U .nil)
 ·exact λ_ h=>h.sub (aJ.append (ed _))
 rintro⟨i,v2,G2⟩ y8 ⟨hi,hV2⟩
 dsimp only at hi hV2⊢
 obtain⟨a4,cx1,rfl⟩:=hV2.slice
 have hl4:(wB u++u.P.take (i*160)).length<=31408:=by rw[bX,F2 hu,fT,hu.lP];omega
 refine ZBV ?_
 refine KC (λq0 z0=>?_) (λq0 z0=>?_)
 ·refine ZE1 ?_
  have hi144:i<144:=by omega
  refine aH ?_
  refine RY (iU (s:=160) i U U U U I) U (RW (v:=(.slice (some ⟨b,8369+i*160,none⟩) 160 160)) (pR 0 160 U U U U U U aD aD) U U (RX (wY (A:=[]) (G:=G2++[]) (n:=(wB u++u.P.take (i*160)).length) (m:=160) (T:=5) (s:=1) (by_:=1) (ys:=((u.P.drop (i*160)).take 160).map (.int .u8)) U U U U (by rw[cn];exact hV2) (λw hw=> .row _ _ _ _ _ (by rw[eJ,fT,dM,hu.lP];omega) (bU (aK2 hu hr I) aP w hw)) (kX _ _) I I) U ?_))
  rintro v3 _ ⟨G3,hV3,_,rfl⟩
  refine tE (v:=v3) U U U ?_
  refine pT ?_
  exact⟨(i+1,_,G3),⟨aR,hV3.as (by rw[<-B5 u.P i];simp only[bX,fT,dM,hu.lP];omega) (by rw[<-B5 u.P i];simp)⟩,aR,.cons U (.cons U .nil),bB,λ_ h=>h⟩
 refine ZAm ?_
 obtain rfl:i=144:=by omega
 refine ZBV ?_
 exact EV U (cz _ _) (hV2.as T8 T8)
def aQQ(x:Int)(w:AI):aG prog 184 [.int .u8 x] w [] (V_ (.bool (decide (3<x)))):=by
 refine aT func184 ?_
 refine iT ?_
 exact E0 U ⟨U,U⟩
def aOS(a:AC)(c:Nat)(l:AB)(hc:l.length<=1000000)(w:AI)(hB:Ns w .u8 a l):
  aG prog 205 [.slice a l.length c,.func (.func 184) #[] #[]] w [] (λv H=>H=[]/\∃o,v= .int .i64 o/\decide (0<=o)=l.any λx=>decide (3<x)):=by
 refine aT func205 ?_
 refine mG ?_
 refine RY gT U (bY ?_)
 refine yC (σ:=Nat) [4,5,8,9,10,11,12,13,14,15,16,17,18] (λi=>[(8,.int .i64 i)]) (λi=>i<=l.length/\∀j,j<i->¬3<l.getD j 0) (λi=>l.length-i) 0 ?_ ?_ ?_
 ·exact⟨aq _,λj hj=>aR⟩
 ·exact .cons U .nil
 rintro i y2 ⟨hi,hno⟩
 refine cT ?_
 refine KC (λh1 h1n=>?_) (λh1 h1n=>?_)
 ·refine bW ?_
  obtain⟨b,off,rfl,hr⟩:=hB.row (i:=i) I
  refine eV ?_
  refine RY (eF i U U U U I) U (W (aW U U (dN (hr.int (i:=i) I) aP)) U (W (uT (A:=[]) (B:=[]) U K_ U (aS (aQQ _))) U (bG ?_)))
  refine KC (λh2 h2n=>?_) (λh2 h2n=>?_)
  ·refine eD ?_
   exact E0 U ⟨U,_,U,by rw[aL5 (i:=i) I (by simpa using h2)];simp⟩
  refine aX ?_
  refine RW (v:=(.int .i64 ((i+1:Nat):Int))) U U (M _ (eU I)) (aX ?_)
  exact⟨i+1,⟨aR,λj hj=>by
   rcases du j i with h9|h9
   ·exact hno j h9
   obtain rfl:j=i:=by omega
   simpa using h2⟩,aR,.cons rfl .nil,bB,λ_ h=>h⟩
 refine aX ?_
 obtain rfl:l.length=i:=by omega
 refine eV ?_
 exact E0 U ⟨U,_,U,by rw[aRe hno];rfl⟩
def aNy(a:AC)(c:Nat)(l:AB)(hc:l.length<=1000000)(w:AI)(hB:Ns w .u8 a l):
  aG prog 185 [.slice a l.length c,.func (.func 184) #[] #[]] w [] (V_ (.bool (l.any λx=>decide (3<x)))):=by
 refine aT func185 ?_
 refine mG ?_
 refine RX (eN K_ U (λw hw=>aOS a c l hc w (hB.later0 hw))) U ?_
 rintro _ _ ⟨G7,⟨rfl,o,rfl,ho⟩,rfl⟩
 refine eV ?_
 exact E0 U ⟨U,M _ ho⟩
set_option maxHeartbeats 4000000 in
def Zc(b:Nat)(u:PU)(hu:u.Wf)(w:AI)(hst:St w [b] [(b,J (cU u) 247)] w)(a:AC)(c:Nat)(l:AB)(hby:bF l)(hc:l.length<=c)(hB:Ns w .u8 a l)(hne:∀p,a=some p->p.block≠b):
  aG prog 151 [P_ b,.slice a l.length c] w [b] (λv H=>v= .int .i64 (lU l)/\H=[(b,J (cU (kZ u l)) 247)]):=by
 refine cG func151 hst ?_
 refine Aa ?_
 refine RY gT U (bY ?_)
 refine KC (λh1 h1n=>?_) (λh1 h1n=>?_)
 ·refine cT ?_
  exact EV U aJ ⟨M _ (aEF I),by rw[Fg (aEF I) aD]⟩
 refine aX ?_
 have hl:l.length=31408:=by omega
 obtain⟨bb,off,rfl,hr⟩:=hB.row (i:=0) I
 have hab:bb≠b:=hne _ rfl
 have b1:=hby.get 8356
 have b2:=hby.get 8363
 have b3:=hby.get 8364
 have b4:=hby.get 8365
 have b5':=hby.get 8366
 have b6:=hby.get 8367
 refine bG ?_
 refine RX (gJ (l:=cU jV) aN) U ?_
 rintro _ _ ⟨b5,rfl,rfl⟩
 refine eV ?_
 refine RW (v:=(.slice (Q_ b5) 8192 8192)) (pR 0 8192 U U U U U U aD aD) U U (bG ?_)
 refine W (Eu (l':=cU (z1 l)) (m:=l.length) (ys:=l.map (.int .u8)) 0 U U U U U (λw hw=>vA.row (s:=1) bb (off) l.length (c) (l.map (.int .u8)) zC (bU (hr) uX w hw)) (kX _ _) (by rw[nU_len Yg];omega) (by rw[show min l.length 8192=8192 by omega];exact p_1 hl)) U ?_
 try simp only[al,bg]
 refine aX ?_
 refine DR [] (bQ [0,2,4,6,9]) ?_
 refine bG ?_
 refine DW (v:=(.slice (some ⟨b5,8192,none⟩) 160 160)) U (pR 0 160 U U U U U U aD aD) U U (bG ?_)
 refine DW (v:=(.slice (some ⟨bb,off+8192,none⟩) 23216 (c-8192))) U (nM 8192 l.length U U U U U U I I) U (by rw[tH I,hl]) (DZ U (Eu (l':=cU (z2 l)) (m:=23216) (ys:=(l.drop 8192).map (.int .u8)) 0 U U U U U (λw hw=>vA.row (s:=1) bb (off+8192) 23216 (c-8192) ((l.drop 8192).map (.int .u8)) zC (bU (hr.dropK 8192) uX w hw)) (kX _ _) (by rw[nU_len (En hl)];decide) (p_2 hl)) U aY ?_)
 try simp only[al,bg]
 refine aX ?_
 refine DR [] (bQ [0,2,4,6,9]) ?_
 refine bG ?_
 refine DW (v:=(.slice (some ⟨b5,8352,none⟩) 6 12)) U (pR 0 6 U U U U U U aD aD) U U (bG ?_)
 refine DW (v:=(.slice (some ⟨bb,off+8352,none⟩) 23056 (c-8352))) U (nM 8352 l.length U U U U U U I I) U (by rw[tH I,hl]) (DZ U (Eu (l':=cU (z3 l)) (m:=23056) (ys:=(l.drop 8352).map (.int .u8)) 0 U U U U U (λw hw=>vA.row (s:=1) bb (off+8352) 23056 (c-8352) ((l.drop 8352).map (.int .u8)) zC (bU (hr.dropK 8352) uX w hw)) (kX _ _) (by rw[nU_len (Jq hl)];decide) (p_3 hl)) U aY ?_)
 try simp only[al,bg]
 refine aX ?_
 refine DR [] (bQ [0,2,4,6,9]) ?_
 refine bG ?_
 refine DW (v:=(.slice (some ⟨b5,8359,none⟩) 5 5)) U (pR 7 12 U U U U U U aD aD) U U (bG ?_)
 refine DW (v:=(.slice (some ⟨bb,off+8358,none⟩) 5 (c-8358))) U (nM 8358 8363 U U U U U U I I) U (by rw[tH I]) (DZ U (Eu (l':=cU (z4 l)) (m:=5) (ys:=((l.drop 8358).take 5).map (.int .u8)) 0 U U U U U (λw hw=>vA.row (s:=1) bb (off+8358) 5 (c-8358) (((l.drop 8358).take 5).map (.int .u8)) zC (bU ((hr.dropK 8358).takeK 5) uX w hw)) (kX _ _) (by rw[nU_len (Lt hl)];decide) (p_4 hl)) U aY ?_)
 try simp only[al,bg]
 refine aX ?_
 refine DR [4,5,6,7,8,9,10,11] (bQ [0,2,4,6,8,10,12,14,16,18,20,22,24,27,28,31,32,35]) ?_
 refine bG ?_
 refine DY U Da U (DL U U U (dQ aE (aPC hl)) U (DW U (gF U U U) U mC (bG ?_)))
 refine DY U (eF 8363 U U U U I) U (DL U U U (gS (hr.int (i:=8363) I) uX) U (DW U (gF U U U) U mC (bG ?_)))
 refine DY U (eF 8364 U U U U I) U (DL U U U (gS (hr.int (i:=8364) I) uX) U (DW U (gF U U U) U mC (bG ?_)))
 refine DZ U (bD (l':=cU ({z4 l with line:=l.getD 8356 0})) 0 U U U U U U (by rw[nU_len (iE hl)];simp) (aHL hl)) U aY ?_
 try simp only[al,bg]
 refine bG ?_
 refine DZ U (bD (l':=cU ({z4 l with line:=l.getD 8356 0,dot:=l.getD 8363 0})) 0 U U U U U U (by rw[nU_len (u:={z4 l with line:=l.getD 8356 0}) ⟨(iE hl).lV,(iE hl).lO,(iE hl).lR,(iE hl).lP⟩];simp) (aN4 hl)) U aY ?_
 try simp only[al,bg]
 refine bG ?_
 refine DZ U (bD (l':=cU (z5 l)) 0 U U U U U U (by rw[nU_len (u:={z4 l with line:=l.getD 8356 0,dot:=l.getD 8363 0}) ⟨(iE hl).lV,(iE hl).lO,(iE hl).lR,(iE hl).lP⟩];simp) (aIi hl)) U aY ?_
 try simp only[al,bg]
 refine aX ?_
 refine DR [4,5,6,7,8,10,11,12,13] (bQ [0,2,4,6,8,10,12,14,16,18,20,22,24,26,28,31,32,35]) ?_
 refine bG ?_
 refine DY U (eF 8365 U U U U I) U (DL U U U (gS (hr.int (i:=8365) I) uX) U (DW U (gF U U U) U mC (bG ?_)))
 refine DY U (eF 8366 U U U U I) U (DL U U U (gS (hr.int (i:=8366) I) uX) U (DW U (gF U U U) U mC (DW U (iK U U aD) U Ma ?_)))
 refine DW (v:=(.int .i64 (l.getD 8365 0+256*l.getD 8366 0))) U U U (M _ (by rw[Int.mul_comm (l.getD 8366 0)];exact aQU b4 b5')) (bG ?_)
 refine DY U (eF 8367 U U U U I) U (DL U U U (gS (hr.int (i:=8367) I) uX) U (aX ?_))
 refine DZ U (bD (l':=cU ({z5 l with frames:=l.getD 8365 0+256*l.getD 8366 0})) 0 U U U U U U (by rw[nU_len (Ho hl)];simp) (aPS hl)) U aY ?_
 try simp only[al,bg]
 refine bG ?_
 refine DZ U (bD (l':=cU (z6 l)) 0 U U U U U U (by rw[nU_len (u:={z5 l with frames:=l.getD 8365 0+256*l.getD 8366 0}) ⟨(Ho hl).lV,(Ho hl).lO,(Ho hl).lR,(Ho hl).lP⟩];simp) (aKI hl)) U aY ?_
 try simp only[al,bg]
 refine eV ?_
 refine RY Da U (W (bD (l':=cU (z7 l)) 0 U U U U U U (by rw[nU_len (F7 hl)];simp) (p_7 hl)) U ?_)
 try simp only[al,bg]
 refine bW ?_
 refine W (aW U U (bT aE (aIP hl))) U (bG ?_)
 refine KL (λh2 h2n=>?_) (λh2 h2n=>?_)
 ·refine aGF ?_
  exact EV U (ce _ _) ⟨M _ (wN hl (R7 I)),by rw[Fg (wN hl (R7 I)) aD]⟩
 refine bG ?_
 refine W (aW U U (bT aE (aJ2 hl))) U (aX ?_)
 refine KL (λh3 h3n=>?_) (λh3 h3n=>?_)
 ·refine V4 ?_
  exact EV U (ce _ _) ⟨M _ (wN hl (aBt I)),by rw[Fg (wN hl (aBt I)) aD]⟩
 refine bG ?_
 refine RY Ky U (W (aW U U (bT aE (aLW hl))) U (RW (zS U U) U U (aX ?_)))
 refine KL (λh4 h4n=>?_) (λh4 h4n=>?_)
 ·refine sB ?_
  exact EV U (ce _ _) ⟨M _ (wN hl (aCE h4)),by rw[Fg (wN hl (aCE h4)) aD]⟩
 refine bG ?_
 refine RY (eF 8367 U U U U I) U (W (aW U U (dN (hr.int (i:=8367) I) uX)) U (aX ?_))
 refine KL (λh5 h5n=>?_) (λh5 h5n=>?_)
 ·refine fG ?_
  exact EV U (ce _ _) ⟨M _ (wN hl (aA5 I)),by rw[Fg (wN hl (aA5 I)) aD]⟩
 refine bG ?_
 refine RW (v:=(.slice (some ⟨bb,off+8368,none⟩) (l.drop 8368).length (c-8368))) (nM 8368 l.length U U U U U U I I) U (by rw[tH I,dM]) (bG ?_)
 refine aO K_ (λw hw=>aNy (some ⟨bb,off+8368,none⟩) (c-8368) (l.drop 8368) lH w (Ns.of (bU (hr.dropK 8368) uX w hw))) ?_
 refine aX ?_
 refine KC (λh6 h6n=>?_) (λh6 h6n=>?_)
 ·refine cT ?_
  exact EV U (ce _ _) ⟨M _ (wN hl (aAm h6)),by rw[Fg (wN hl (aAm h6)) aD]⟩
 refine bY ?_
 have hok:=aFc I I h4 I h6
 refine eV ?_
 refine dK (σ:=Nat) [7,94,95,96,97,98,99,100,101,102,103,104,105,106,107] (λi=>[(94,.int .i64 i)]) (λi=>[(b5,J (cU (z8 l i)) 247),(b,J (cU u) 247)]) (λi=>i<=144) (λi=>144-i) 0 ?_ ?_ ?_ ?_
 ·exact aq _
 ·exact .cons U .nil
 ·exact λ_ h=>h.as (by rw[aGE])
 rintro i y17 hi
 refine cT ?_
 refine KC (λh7 h7n=>?_) (λh7 h7n=>?_)
 ·refine mG ?_
  refine DR [] (bQ [0,2,4,6,8,10,12,14,16,19]) ?_
  refine aX ?_
  refine DY U (iU (s:=160) i U U U U I) U (DW (v:=(.slice (some ⟨b5,8369+i*160,none⟩) 160 160)) U (pR 0 160 U U U U U U aD aD) U U (aX ?_))
  refine DW U (zH U U) U mC (DW U (nD U U) U mC (DW (v:=(.slice (some ⟨bb,off+(8368+i*160),none⟩) (31408-(8368+i*160)) (c-(8368+i*160)))) U (nM (8368+i*160) l.length U U U U U U I I) U (by rw[tH I,hl]) (DZ U (Eu (l':=cU (z8 l (i+1))) (m:=31408-(8368+i*160)) (ys:=(l.drop (8368+i*160)).map (.int .u8)) 0 U U U U U (λw hw=>vA.row (s:=1) bb (off+(8368+i*160)) (31408-(8368+i*160)) (c-(8368+i*160)) ((l.drop (8368+i*160)).map (.int .u8)) zC (bU (hr.dropK (8368+i*160)) uX w hw)) (kX _ _) (by rw[nU_len (z8_ln hl I)];omega) (by rw[show min (31408-(8368+i*160)) 160=160 by omega];exact p_8 hl I)) U aY ?_)))
  simp only[cw,cg,al]
  refine aX ?_
  refine RW (v:=(.int .i64 ((i+1:Nat):Int))) U U (M _ (eU I)) (aX ?_)
  exact⟨i+1,aR,aR,.cons U .nil,bB,λ_ h=>h⟩
 refine aX ?_
 obtain rfl:i=144:=by omega
 refine aX ?_
 refine W (bJ U U aAc (show ∀w,St _ _ _ w->aK w b5 0 (cU (uP l))from λw hw=>by have h9:=aI aE w hw;rw[z8_all hl]at h9;exact h9)) U (bG ?_)
 refine W (bD (l':=cU (uP l)) 1 U U U aAc (aRJ _) U (by rw[<-z8_all hl,nU_len (z8_ln hl (be _)),cU_len hu];decide) (Dp (by rw[<-z8_all hl,nU_len (z8_ln hl (be _)),cU_len hu]))) U ?_
 simp only[al,bg]
 refine eD ?_
 exact EV U (ce _ _) ⟨M _ (K3 hl hok),by rw[K7 (K3 hl hok)]⟩
def aA9(w:AI):aG prog 130 [] w [] (λv H=>∃b,v= .map (some b)/\H=[(b,cY .u8 sortE 19)]):=by
 refine aT func130 ?_
 refine aH ?_
 refine RX (aAo .u8) U (ZBF λb0=>?_)
 refine RS ?_
 refine W (nT (l:=lG (lC.take 0) 0) (k:= .u8) 0 U U U U U U) U (oZ ?_)
 refine W (nT (l:=lG (lC.take 1) 0) (k:= .u8) 0 U U U U U U) U (oZ ?_)
 refine W (nT (l:=lG (lC.take 2) 0) (k:= .u8) 0 U U U U U U) U (oZ ?_)
 refine W (nT (l:=lG (lC.take 3) 0) (k:= .u8) 0 U U U U U U) U (oZ ?_)
 refine W (nT (l:=lG (lC.take 4) 0) (k:= .u8) 0 U U U U U U) U (oZ ?_)
 refine W (nT (l:=lG (lC.take 5) 0) (k:= .u8) 0 U U U U U U) U (oZ ?_)
 refine W (nT (l:=lG (lC.take 6) 0) (k:= .u8) 0 U U U U U U) U (oZ ?_)
 refine W (nT (l:=lG (lC.take 7) 0) (k:= .u8) 0 U U U U U U) U (oZ ?_)
 refine W (nT (l:=lG (lC.take 8) 0) (k:= .u8) 0 U U U U U U) U (oZ ?_)
 refine W (nT (l:=lG (lC.take 9) 0) (k:= .u8) 0 U U U U U U) U (oZ ?_)
 refine W (nT (l:=lG (lC.take 10) 0) (k:= .u8) 0 U U U U U U) U (oZ ?_)
 refine W (nT (l:=lG (lC.take 11) 0) (k:= .u8) 0 U U U U U U) U (oZ ?_)
 refine W (nT (l:=lG (lC.take 12) 0) (k:= .u8) 0 U U U U U U) U (oZ ?_)
 refine W (nT (l:=lG (lC.take 13) 0) (k:= .u8) 0 U U U U U U) U (oZ ?_)
 refine W (nT (l:=lG (lC.take 14) 0) (k:= .u8) 0 U U U U U U) U (oZ ?_)
 refine W (nT (l:=lG (lC.take 15) 0) (k:= .u8) 0 U U U U U U) U (oZ ?_)
 refine W (nT (l:=lG (lC.take 16) 0) (k:= .u8) 0 U U U U U U) U (oZ ?_)
 refine W (nT (l:=lG (lC.take 17) 0) (k:= .u8) 0 U U U U U U) U (oZ ?_)
 refine W (nT (l:=lG (lC.take 18) 0) (k:= .u8) 0 U U U U U U) U ?_
 simp only[al]
 refine ZBZ ?_
 exact EV U aJ ⟨b0,U,U⟩
def aG9(a:AC)(c:Nat)(l:AB)(hl:l.length<=100000000)(hb:bF l)(w:AI)(hB:Ns w .u8 a l)(hlc:333<=c):aG prog 131 [.slice a l.length c] w [] (V_ (.int .u8 (if l.length<336 then 0 else chkH l 25))):=by
 refine aT func131 ?_
 refine ZE1 ?_
 refine gK ?_
 refine ZAm ?_
 refine KC (λq0 z0=>?_) (λq0 z0=>?_)
 ·refine ZBV ?_
  exact E0 U ⟨U,Vl⟩
 refine ZAm ?_
 obtain⟨ba,oa,rfl,hra⟩:=hB.row (i:=0) I
 refine ZCy ?_
 have hlc9:=hlc
 have hcut:cut1 oa 308 c=oa+308:=tH I
 refine RW (v:=(.slice (some ⟨ba,cut1 oa 308 c,none⟩) 25 (c-308))) (nM 308 333 U U U U U U aD hlc) U U (mV ?_)
 refine dK (σ:=Nat) [3,5,12,13,14,15,16,17,18,19,20] (λi=>[(3,.int .u8 (chkH l i)),(12,.int .i64 i)]) (λ_=>[]) (λi=>i<=25) (λi=>25-i) 0 ?_ ?_ ?_ ?_
 ·exact aq _
 ·exact .cons U (.cons U .nil)
 ·exact λ_ h=>h
 rintro i y5 hi
 refine ZBV ?_
 refine KC (λq1 z1=>?_) (λq1 z1=>?_)
 ·refine ZBZ ?_
  have hby:=hb.get (308+i)
  have hck:=Ud l i
  refine ZBI ?_
  refine RY (eF i U U U U (by show i<333-308;omega)) U (W (aW U U (dN (by have h9:=hra (308+i) _ (gD (j:=308+i) I);rwa[<-ec,<-hcut]at h9) aP)) U (ZBV ?_))
  refine RW (v:=(.int .u8 ((l.getD (308+i) 0+1)%256))) (nD U U) U (Ra _) (RW (v:=(.int .u8 (chkH l (i+1)))) (mM U U) U ((Ra _).trans (M _ aDF)) (ZA2 ?_))
  exact D7
 refine ZCy ?_
 obtain rfl:i=25:=by omega
 exact E0 U ⟨U,Qn⟩
def sum_fn(a:AC)(c:Nat)(l:AB)(hl:l.length<=100000000)(hb:bF l)(w:AI)(hB:Ns w .u8 a l):aG prog 133 [.slice a l.length c] w [] (V_ (.int .u16 (if l.length<336 then 0 else Rg l))):=by
 refine aT func133 ?_
 refine ZE1 ?_
 refine gK ?_
 refine ZAm ?_
 refine KC (λq0 z0=>?_) (λq0 z0=>?_)
 ·refine ZBV ?_
  exact E0 U ⟨U,Vl⟩
 refine ZAm ?_
 obtain⟨ba,oa,rfl,hra⟩:=hB.row (i:=0) I
 refine ZCy ?_
 refine mV ?_
 refine dK (σ:=Nat) [3,5,11,12,13,14,15,16,17,18,19] (λi=>[(3,.int .u16 (Bh l i)),(11,.int .i64 i)]) (λ_=>[]) (λi=>i<=l.length) (λi=>l.length-i) 0 ?_ ?_ ?_ ?_
 ·exact aq _
 ·exact .cons U (.cons U .nil)
 ·exact λ_ h=>h
 rintro i y5 hi
 refine ZBV ?_
 refine KC (λq1 z1=>?_) (λq1 z1=>?_)
 ·refine ZBZ ?_
  have hby:=hb.get i
  have hck:=aC8 l i
  refine ZBI ?_
  refine Dn ?_
  refine W (aW U U (dN (hra _ _ (gD (j:=i) I)) aP)) U (ZBV ?_)
  refine RW (v:=(.int .u16 (l.getD i 0))) (gF U U U) U (Md hby.1 I) (RW (v:=(.int .u16 (Bh l (i+1)))) (nD U U) U ((Ia _).trans (M _ U)) (ZA2 ?_))
  exact D7
 refine ZAm ?_
 obtain rfl:i=l.length:=by omega
 have hb4:=hb.get 334
 have hb5:=hb.get 335
 have hck:=aC8 l l.length
 refine DR [6,7,8,9] (bQ [0,2,4,6,8,10,12,14,16,18,20,22]) ?_
 refine ZAm ?_
 refine DY U (eF 334 U U U U I) U (ZB0 ?_)
 refine DW (v:=(.int .u16 ((Bh l l.length-l.getD 334 0)%65536))) U (mM U U) U (Ia _) (ZBI ?_)
 refine DY U (eF 335 U U U U I) U (Xl ?_)
 refine DW (v:=(.int .u16 (Rg l))) U (mM U U) U ((Ia _).trans (M _ (by unfold Rg;omega))) (ZA2 ?_)
 exact E0 U ⟨U,Qn⟩
def take_snoc{l:AB}{i:Nat}(h:i<l.length):l.take (i+1)=l.take i++[l.getD i 0]:=by
 rw[f0,ap h,gU,ap h];rfl
def txV_app(a b:List UInt8):txV a++txV b=txV (a++b):=by simp[txV]
def name_fn(b off c:Nat)(l:AB)(hl:l.length<=1000000)(hb:bF l)(w:AI)(hr:aK w b off (l.map (.int .u8))):aG prog 132 [.slice (some ⟨b,off,none⟩) l.length c] w [] (V_ (.string (bs (nameH l)))):=by
 refine aT func132 ?_
 refine aH ?_
 refine lB λb0=>?_
 refine ZBV ?_
 refine mV ?_
 refine dK (σ:=Nat×AH×aF×AH) [5,8,9,10,11,12,13,14,15,16,17,18,19,20,21,22] (λs=>[(8,.int .i64 s.1)]) (λs=>(b0,J [s.2.2.2,s.2.1] 333)::s.2.2.1) (λs=>s.1<=l.length/\(∀j,j<s.1->l.getD j 0≠0)/\(s.2.2.2= .pointer none\/s.2.2.2=(P_ b0))/\bS 5 1 s.2.1 s.1 (txV ((l.take s.1).map chrH)) s.2.2.1/\(s.1=0->s.2.1= .slice none 0 0/\s.2.2.1=[])) (λs=>l.length-s.1) (0,.slice none 0 0,[],.pointer none) ?_ ?_ ?_ ?_
 ·exact⟨aq _,λj hj=>aR,.inl U,.nil,λ_=>⟨U,U⟩⟩
 ·exact .cons U .nil
 ·exact λ_ h=>h
 rintro⟨i,v0,G0,ad6⟩ y3 ⟨hi,hj,hA6,hV0,q0⟩
 dsimp only at hi hj hA6 hV0 q0⊢
 refine ZBV ?_
 refine KC (λq1 z1=>?_) (λq1 z1=>?_)
 ·refine ZBZ ?_
  have hc9:=hb.get i
  refine ZBI ?_
  refine Dn ?_
  refine W (aW U U (dN (hr _ _ (gD (j:=i) I)) aP)) U (ZE1 ?_)
  refine KC (λq2 z2=>?_) (λq2 z2=>?_)
  ·refine ZAm ?_
   have hTi:((l.take i).map chrH).length=i:=by rw[eJ,fT];omega
   refine ZCK ?_
   refine ZBB ?_
   refine ZA2 ?_
   exact E0 U ⟨U,(by rw[aQb hj I z2])⟩
  refine aH ?_
  refine KL (λq3 z3=>?_) (λq3 z3=>?_)
  ·refine cL ?_
   refine ZB7 ?_
   refine D9 λva0 G1 hV1=>?_
   refine ZAm ?_
   exact ZC4
  refine ZBZ ?_
  refine KC (λq4 z4=>?_) (λq4 z4=>?_)
  ·refine ZBV ?_
   refine ZB7 ?_
   refine D9 λva0 G1 hV1=>?_
   refine ZAm ?_
   exact ZC4
  refine ZA2 ?_
  refine RX (cB (F:=[]) (A:=(b0,J [ad6,v0] 333)::G0) (R:=λv H=>v= .nilIface/\∃va' G',bS 5 1 va' (i+1) (txV ((l.take i).map chrH)++[.int .u8 (l.getD i 0)]) G'/\H=(b0,J [(P_ b0),va'] 333)::G') K_ U (λw hw=>bwrite_fn b0 ad6 v0 hA6 i I _ G0 hV0 (l.getD i 0) _ w (St.lentV (G:=[]) hw))) U (D9 λva0 G1 hV1=>?_)
  refine pT ?_
  exact⟨(i+1,va0,G1,(P_ b0)),⟨aR,λj hj'=>D6,.inr U,hV1.as pE (by rw[take_snoc I,bz,<-txV_app];exact M (λz:Int=>txV ((l.take i).map chrH)++[Value.int .u8 z]) ((aJe hc9 I).symm)),λh=>absurd h (Nat.succ_ne_zero _)⟩,aR,.cons U .nil,bB,λ_ h=>h⟩
 refine ZAm ?_
 have hTi:((l.take i).map chrH).length=i:=by rw[eJ,fT];omega
 refine ZCK ?_
 refine ZBB ?_
 refine ZA2 ?_
 exact E0 U ⟨U,(by obtain rfl:i=l.length:=I;rw[aHW hj,dj])⟩
def qcheck_fn(a:AC)(c:Nat)(l:AB)(hl:l.length<=100000000)(hb:bF l)(w:AI)(hB:Ns w .u8 a l):aG prog 86 [.slice a l.length c] w [] (V_ (.int .u8 (if l.length<336 then 0 else chkH l 25))):=by
 refine aT func86 ?_
 refine ZE1 ?_
 refine gK ?_
 refine ZAm ?_
 refine KC (λq0 z0=>?_) (λq0 z0=>?_)
 ·refine ZBV ?_
  exact E0 U ⟨U,Vl⟩
 refine ZAm ?_
 obtain⟨ba,oa,rfl,hra⟩:=hB.row (i:=0) I
 refine bW ?_
 refine dK (σ:=Nat) [3,4,8,9,10,11,12,13,14,15,16,17,18,19,20,21] (λi=>[(3,.int .i64 (chkH l i)),(4,.int .i64 ((308+i:Nat):Int))]) (λ_=>[]) (λi=>i<=25) (λi=>25-i) 0 ?_ ?_ ?_ ?_
 ·exact aq _
 ·exact .cons U (.cons U .nil)
 ·exact λ_ h=>h
 rintro i y5 hi
 have hck9:=Ud l i
 refine aH ?_
 refine KC (λq1 z1=>?_) (λq1 z1=>?_)
 ·refine ZA2 ?_
  have hby:=hb.get (308+i)
  have hck:=Ud l i
  refine ZBZ ?_
  refine RY (eF (308+i) U U U U I) U (W (aW U U (dN (hra _ _ (gD (j:=308+i) I)) aP)) U (RW (v:=(.int .i64 (l.getD (308+i) 0))) U U (uW I I) (RW (v:=(.int .i64 (chkH l i-l.getD (308+i) 0))) U U (uW I I) ?_)))
  refine RW (v:=(.int .i64 (chkH l i-l.getD (308+i) 0-1))) U U (uW I I) (RW (v:=(.int .i64 (chkH l i-l.getD (308+i) 0-1+512))) U U (uW I I) (RW (v:=(.int .i64 (chkH l (i+1)))) (tK U U aD) U (M _ ((cy I).trans aDF)) (ZBZ ?_)))
  refine RW (v:=(.int .i64 ((308+(i+1):Nat):Int))) U U (M _ ((bZ I I).trans I)) (ZAm ?_)
  exact⟨i+1,aR,aR,.cons U (.cons U .nil),bB,λ_ h=>h⟩
 refine ZBZ ?_
 refine RW (v:=(.int .u8 (chkH l i))) U U (Ug I I) (ZA2 ?_)
 obtain rfl:i=25:=by omega
 exact E0 U ⟨U,Qn⟩
def aCw(kind b ram:Int)(hk:0<=kind/\kind<256)(hb9:0<=b/\b<256)(hr9:0<=ram/\ram<256)(a:AC)(c:Nat)(prog:AB)(hl:prog.length<=100000000)(hb:bF prog)(w:AI)(hB:Ns w .u8 a prog):aG Tryz.prog 41 [.int .u8 kind,.int .u8 b,.int .u8 ram,.slice a prog.length c] w [] (λv H=>∃b11,v= .slice (Q_ b11) (romS b) (romS b)/\H=[(b11,J ((madeI kind b ram prog).map Z) 5)]):=by
 have hrs:=aNU b
 have hlZ:=aB2 kind b ram prog
 have hbZ:=aEX (b:=b) hk hr9 hb
 refine aT func41 ?_
 refine jJ ?_
 refine dK (σ:=Nat) [9,10,14,15,16,17,18,19,20,21,22] (λi=>[(9,.int .i64 ((32768*2^i:Nat):Int)),(10,.int .i64 i)]) (λ_=>[]) (λi=>i<=(b%9).toNat) (λi=>(b%9).toNat-i) 0 ?_ ?_ ?_ ?_
 ·exact aq _
 ·exact .cons U (.cons U .nil)
 ·exact λ_ h=>h
 rintro i y3 hi
 have hpw:2^i<=2^8:=gd aD I
 refine ZBV ?_
 refine RW (v:=(.int .i64 b)) U U (uW I I) (RW (v:=(.int .i64 (b%9))) (tK U U aD) U (M _ ((cy I).trans I)) (ZAm ?_))
 refine KC (λq0 z0=>?_) (λq0 z0=>?_)
 ·refine ZBV ?_
  refine RW (v:=(.int .i64 ((32768*2^(i+1):Nat):Int))) U U (M _ ((bZ I I).trans (by rw[jf];omega))) (ZBZ ?_)
  exact D7
 refine ZAm ?_
 obtain rfl:i=(b%9).toNat:=by omega
 refine ZAm ?_
 refine RX (U3 (n:=romS b) (z:= .int .u8 0) U U I U U U U) U ?_
 rintro _ _ ⟨b11,rfl,rfl⟩
 refine ZE1 ?_
 refine dK (σ:=Nat) [12,13,25,26,27,28,29,30,31,32,33,34,35,36,37,38,39,40,41,42,43,44,45,46,47] (λi=>[(12,.int .i64 i)]) (λi=>[(b11,J (((madeP (List.replicate (romS b) 0) prog i)).map Z) 5)]) (λi=>i<=min prog.length 15000) (λi=>min prog.length 15000-i) 0 ?_ ?_ ?_ ?_
 ·exact aq _
 ·exact .cons U .nil
 ·exact λ_ h=>h.as (by simp only[madeP,jo])
 rintro i y8 hi
 refine ZBV ?_
 refine gK ?_
 refine ZBI ?_
 refine KL (λq1 z1=>?_) (λq1 z1=>?_)
 ·refine ZBZ ?_
  refine KC (λq2 z2=>?_) (λq2 z2=>?_)
  ·refine ZBZ ?_
   obtain⟨ba,oa,rfl,hra⟩:=hB.row (i:=i) I
   refine ZAm ?_
   refine RW (v:=(.int .i64 ((256+i:Nat):Int))) U U (uW I I) (ZE1 ?_)
   refine KC (λq3 z3=>?_) (λq3 z3=>?_)
   ·refine ZAm ?_
    refine RW (v:=(.int .i64 ((256+i+76:Nat):Int))) U U (uW I I) (ZCy ?_)
    refine ZEd ?_
    refine RY (eF (n:=romS b) (256+i+76) U U U U I) U (ZCI ?_)
    refine ZA2 ?_
    exact Xu
   refine aH ?_
   refine ZEd ?_
   refine RY (eF (n:=romS b) (256+i) U U U U I) U (ZCI ?_)
   refine ZA2 ?_
   exact Xu
  refine ZAm ?_
  obtain rfl:i=min prog.length 15000:=by omega
  refine aH ?_
  refine RW (v:=(.int .u8 (b%9))) (tK U U aD) U (M _ (cy I)) (ZBI ?_)
  refine ZBe ?_
  refine eC ?_
  refine ZBS ?_
  refine eC ?_
  refine ZBL ?_
  refine jE ?_
  refine kO (L':=[(b11,J ((madeZ kind b ram prog).map Z) 5)]) (λ_ h=>h) ?_
  refine ZA2 ?_
  refine aO K_ (λw hw=>aDJ) ?_
  refine ZCt ?_
  refine eC ?_
  refine ZCy ?_
  exact EV U aJ ⟨b11,U,U⟩
 refine ZCy ?_
 obtain rfl:i=min prog.length 15000:=by omega
 refine aH ?_
 refine RW (v:=(.int .u8 (b%9))) (tK U U aD) U (M _ (cy I)) (ZBI ?_)
 refine ZBe ?_
 refine eC ?_
 refine ZBS ?_
 refine eC ?_
 refine ZBL ?_
 refine jE ?_
 refine kO (L':=[(b11,J ((madeZ kind b ram prog).map Z) 5)]) (λ_ h=>h) ?_
 refine ZA2 ?_
 refine aO K_ (λw hw=>aDJ) ?_
 refine ZCt ?_
 refine eC ?_
 refine ZCy ?_
 exact EV U aJ ⟨b11,U,U⟩
def sig_fn(t:Tm)(h:t.Ok)(w:AI):aG prog 288 [.agg (iZ t).toArray] w [] (V_ (.bool (yH t))):=by
 obtain⟨cnt,tima,tma,tac,over⟩:=t
 obtain⟨k1,k2,k3,k4⟩:=h
 dsimp only at k1 k2 k3 k4
 refine aT func288 ?_
 refine ZAm ?_
 refine Cw λb0=>?_
 refine ZBZ ?_
 refine RY (De (l:=[.int .i64 9,.int .i64 3,.int .i64 5,.int .i64 7]) U U U aN) U (jT λb1=>?_)
 refine qO ?_
 rcases(show tac%4=0\/tac%4=1\/tac%4=2\/tac%4=3 by omega)with hq|hq|hq|hq
 ·refine Mx ?_
  refine ZBI ?_
  refine KE (λq0 z0=>?_) (λq0 z0=>?_)
  ·refine ZBZ ?_
   refine DW (v:=(.int .u8 0)) U (cM U U) U ((rE 2 4 aD U I (show _<(256:Int)by omega) (show _<(256:Int)by decide)).trans (M _ hq)) (DY U (eB 0 U U U U aD) U (ZBI ?_))
   refine DW (v:=(.int .u16 (cnt/512))) U (jB U U aD) U (qM 512 aD aD) (Ow ?_)
   exact E0 U ⟨U,(M Value.bool (Sv (t:=⟨cnt,tima,tma,tac,over⟩) 512 z0 (by rw[Qr (t:=⟨cnt,tima,tma,tac,over⟩) (n:=9) hq aD];rfl)))⟩
  exact Og
 ·refine Mx ?_
  refine ZBI ?_
  refine KE (λq0 z0=>?_) (λq0 z0=>?_)
  ·refine ZBZ ?_
   refine DW (v:=(.int .u8 1)) U (cM U U) U ((rE 2 4 aD U I (show _<(256:Int)by omega) (show _<(256:Int)by decide)).trans (M _ hq)) (DY U (eB 1 U U U U aD) U (ZBI ?_))
   refine DW (v:=(.int .u16 (cnt/8))) U (jB U U aD) U (qM 8 aD aD) (Ow ?_)
   exact E0 U ⟨U,(M Value.bool (Sv (t:=⟨cnt,tima,tma,tac,over⟩) 8 z0 (by rw[Qr (t:=⟨cnt,tima,tma,tac,over⟩) (n:=3) hq aD];rfl)))⟩
  exact Og
 ·refine Mx ?_
  refine ZBI ?_
  refine KE (λq0 z0=>?_) (λq0 z0=>?_)
  ·refine ZBZ ?_
   refine DW (v:=(.int .u8 2)) U (cM U U) U ((rE 2 4 aD U I (show _<(256:Int)by omega) (show _<(256:Int)by decide)).trans (M _ hq)) (DY U (eB 2 U U U U aD) U (ZBI ?_))
   refine DW (v:=(.int .u16 (cnt/32))) U (jB U U aD) U (qM 32 aD aD) (Ow ?_)
   exact E0 U ⟨U,(M Value.bool (Sv (t:=⟨cnt,tima,tma,tac,over⟩) 32 z0 (by rw[Qr (t:=⟨cnt,tima,tma,tac,over⟩) (n:=5) hq aD];rfl)))⟩
  exact Og
 refine Mx ?_
 refine ZBI ?_
 refine KE (λq0 z0=>?_) (λq0 z0=>?_)
 ·refine ZBZ ?_
  refine DW (v:=(.int .u8 3)) U (cM U U) U ((rE 2 4 aD U I (show _<(256:Int)by omega) (show _<(256:Int)by decide)).trans (M _ hq)) (DY U (eB 3 U U U U aD) U (ZBI ?_))
  refine DW (v:=(.int .u16 (cnt/128))) U (jB U U aD) U (qM 128 aD aD) (Ow ?_)
  exact E0 U ⟨U,(M Value.bool (Sv (t:=⟨cnt,tima,tma,tac,over⟩) 128 z0 (by rw[Qr (t:=⟨cnt,tima,tma,tac,over⟩) (n:=7) hq aD];rfl)))⟩
 exact Og
def aGR(b:Nat)(t:Tm)(h:t.Ok)(w:AI)(hst:St w [b] [(b,J (iZ t) 135)] w):aG prog 330 [P_ b] w [b] (λv H=>v= .tuple #[]/\H=[(b,J (iZ (nZ t)) 135)]):=by
 obtain⟨cnt,tima,tma,tac,over⟩:=t
 obtain⟨k1,k2,k3,k4⟩:=h
 dsimp only at k1 k2 k3 k4
 refine cG func330 hst ?_
 refine ZBV ?_
 refine RW (nD U U) U rL (ZAm ?_)
 refine ZEm ?_
 exact In
def aO5(b:Nat)(t:Tm)(h:t.Ok)(w:AI)(hst:St w [b] [(b,J (iZ t) 135)] w):aG prog 290 [P_ b] w [b] (λv H=>v= .tuple #[]/\H=[(b,J (iZ (oD t)) 135)]):=by
 obtain⟨cnt,tima,tma,tac,over⟩:=t
 obtain⟨k1,k2,k3,k4⟩:=h
 dsimp only at k1 k2 k3 k4
 refine cG func290 hst ?_
 refine ZBZ ?_
 refine ZEm ?_
 exact In
def aOV(b:Nat)(t:Tm)(h:t.Ok)(x:Int)(hx:0<=x/\x<256)(xb:Nat)(w:AI)(hc:w.cell? ⟨xb,0,none⟩=some (.int .u8 x))(hxb:xb≠b)(hst:St w [b] [(b,J (iZ t) 135)] w):aG prog 291 [P_ b,P_ xb] w [b] (λv H=>v= .tuple #[]/\H=[(b,J (iZ (nV x t)) 135)]):=by
 obtain⟨cnt,tima,tma,tac,over⟩:=t
 obtain⟨k1,k2,k3,k4⟩:=h
 dsimp only at k1 k2 k3 k4
 refine cG func291 hst ?_
 refine ZAm ?_
 refine W (aW U U (dN hc (by simp[hxb]))) U (RW (cM U U) U yL (ZAm ?_))
 refine ZEm ?_
 exact In
def aCf(t:Tm)(h:t.Ok)(w:AI):aG prog 289 [.agg (iZ t).toArray,.func (.func 330) #[] #[]] w [] (V_ (.agg (iZ (pC (nZ) t)).toArray)):=by
 obtain⟨cnt,tima,tma,tac,over⟩:=t
 obtain⟨k1,k2,k3,k4⟩:=h
 dsimp only at k1 k2 k3 k4
 refine aT func289 ?_
 refine ZAm ?_
 refine Cw λb0=>?_
 refine jT λb1=>?_
 refine ZA2 ?_
 refine O9 ?_
 refine ZBV ?_
 refine RX (Zx (F:=[(b1,_)]) (A:=[(b0,J [.int .u16 cnt,.int .u8 tima,.int .u8 tma,.int .u8 tac,.bool over] 135)]) (B:=[]) (C:=[]) (R:=λv H=>v= .tuple #[]/\H=[(b0,J (iZ (nZ ⟨cnt,tima,tma,tac,over⟩)) 135)]) U K_ U ?_) U ?_
 ·exact λw hw=>aGR b0 ⟨cnt,tima,tma,tac,over⟩ ⟨k1,k2,k3,k4⟩ w (St.lentV hw)
 refine ZBB ?_
 refine ZBV ?_
 refine KL (λq0 z0=>?_) (λq0 z0=>?_)
 ·refine oG ?_
  refine aO K_ (aS (sig_fn (nZ ⟨cnt,tima,tma,tac,over⟩) (Tm.Ok.step (t:=⟨cnt,tima,tma,tac,over⟩) ⟨k1,k2,k3,k4⟩))) ?_
  refine ZA2 ?_
  refine KC (λq1 z1=>?_) (λq1 z1=>?_)
  ·refine ZBZ ?_
   refine sL ?_
   refine kR ?_
   refine ZBZ ?_
   refine KL (λq2 z2=>?_) (λq2 z2=>?_)
   ·refine ZBV ?_
    refine hU ?_
    refine tQ ?_
    have hov:over=true:=q2
    subst hov
    have e1:wW (nZ ⟨cnt,tima,tma,tac,true⟩)=pC (nZ) ⟨cnt,tima,tma,tac,true⟩:=He (t:=(nZ ⟨cnt,tima,tma,tac,true⟩)) q0 mY
    exact aU (λw hw=>eL U U U (aI (b:=b1) aE w hw)) ⟨U,uE⟩
   refine ZBV ?_
   refine hU ?_
   refine tQ ?_
   have hov:over=false:=q2
   subst hov
   have e1:wW (nZ ⟨cnt,tima,tma,tac,false⟩)=pC (nZ) ⟨cnt,tima,tma,tac,false⟩:=He (t:=(nZ ⟨cnt,tima,tma,tac,false⟩)) q0 mY
   exact aU (λw hw=>eL U U U (aI (b:=b1) aE w hw)) ⟨U,uE⟩
  refine ZA2 ?_
  refine tQ ?_
  have e1:(nZ ⟨cnt,tima,tma,tac,over⟩)=pC (nZ) ⟨cnt,tima,tma,tac,over⟩:=Hm (t:=(nZ ⟨cnt,tima,tma,tac,over⟩)) (.inr mY)
  exact aU (λw hw=>eL U U U (aI (b:=b1) aE w hw)) ⟨U,uE⟩
 refine bW ?_
 refine tQ ?_
 have e1:(nZ ⟨cnt,tima,tma,tac,over⟩)=pC (nZ) ⟨cnt,tima,tma,tac,over⟩:=Hm (t:=(nZ ⟨cnt,tima,tma,tac,over⟩)) (.inl q0)
 exact aU (λw hw=>eL U U U (aI (b:=b1) aE w hw)) ⟨U,uE⟩
def aGj(t:Tm)(h:t.Ok)(w:AI):aG prog 289 [.agg (iZ t).toArray,.func (.func 290) #[] #[]] w [] (V_ (.agg (iZ (pC (oD) t)).toArray)):=by
 obtain⟨cnt,tima,tma,tac,over⟩:=t
 obtain⟨k1,k2,k3,k4⟩:=h
 dsimp only at k1 k2 k3 k4
 refine aT func289 ?_
 refine ZAm ?_
 refine Cw λb0=>?_
 refine jT λb1=>?_
 refine ZA2 ?_
 refine O9 ?_
 refine ZBV ?_
 refine RX (Zx (F:=[(b1,_)]) (A:=[(b0,J [.int .u16 cnt,.int .u8 tima,.int .u8 tma,.int .u8 tac,.bool over] 135)]) (B:=[]) (C:=[]) (R:=λv H=>v= .tuple #[]/\H=[(b0,J (iZ (oD ⟨cnt,tima,tma,tac,over⟩)) 135)]) U K_ U ?_) U ?_
 ·exact λw hw=>aO5 b0 ⟨cnt,tima,tma,tac,over⟩ ⟨k1,k2,k3,k4⟩ w (St.lentV hw)
 refine ZBB ?_
 refine ZBV ?_
 refine KL (λq0 z0=>?_) (λq0 z0=>?_)
 ·refine oG ?_
  refine aO K_ (aS (sig_fn (oD ⟨cnt,tima,tma,tac,over⟩) (Tm.Ok.zero (t:=⟨cnt,tima,tma,tac,over⟩) ⟨k1,k2,k3,k4⟩))) ?_
  refine ZA2 ?_
  refine KC (λq1 z1=>?_) (λq1 z1=>?_)
  ·refine ZBZ ?_
   refine sL ?_
   refine kR ?_
   refine ZBZ ?_
   refine KL (λq2 z2=>?_) (λq2 z2=>?_)
   ·refine ZBV ?_
    refine hU ?_
    refine tQ ?_
    have hov:over=true:=q2
    subst hov
    have e1:wW (oD ⟨cnt,tima,tma,tac,true⟩)=pC (oD) ⟨cnt,tima,tma,tac,true⟩:=He (t:=(oD ⟨cnt,tima,tma,tac,true⟩)) q0 mY
    exact aU (λw hw=>eL U U U (aI (b:=b1) aE w hw)) ⟨U,uE⟩
   refine ZBV ?_
   refine hU ?_
   refine tQ ?_
   have hov:over=false:=q2
   subst hov
   have e1:wW (oD ⟨cnt,tima,tma,tac,false⟩)=pC (oD) ⟨cnt,tima,tma,tac,false⟩:=He (t:=(oD ⟨cnt,tima,tma,tac,false⟩)) q0 mY
   exact aU (λw hw=>eL U U U (aI (b:=b1) aE w hw)) ⟨U,uE⟩
  refine ZA2 ?_
  refine tQ ?_
  have e1:(oD ⟨cnt,tima,tma,tac,over⟩)=pC (oD) ⟨cnt,tima,tma,tac,over⟩:=Hm (t:=(oD ⟨cnt,tima,tma,tac,over⟩)) (.inr mY)
  exact aU (λw hw=>eL U U U (aI (b:=b1) aE w hw)) ⟨U,uE⟩
 refine bW ?_
 refine tQ ?_
 have e1:(oD ⟨cnt,tima,tma,tac,over⟩)=pC (oD) ⟨cnt,tima,tma,tac,over⟩:=Hm (t:=(oD ⟨cnt,tima,tma,tac,over⟩)) (.inl q0)
 exact aU (λw hw=>eL U U U (aI (b:=b1) aE w hw)) ⟨U,uE⟩
def aQz(t:Tm)(h:t.Ok)(x:Int)(hx:0<=x/\x<256)(xb:Nat)(w:AI)(hr:aK w xb 0 [.int .u8 x]):aG prog 289 [.agg (iZ t).toArray,.func (.func 291) #[] #[P_ xb]] w [] (V_ (.agg (iZ (pC (nV x) t)).toArray)):=by
 obtain⟨cnt,tima,tma,tac,over⟩:=t
 obtain⟨k1,k2,k3,k4⟩:=h
 dsimp only at k1 k2 k3 k4
 refine aT func289 ?_
 refine ZAm ?_
 refine Cw λb0=>?_
 refine jT λb1=>?_
 refine ZA2 ?_
 refine O9 ?_
 refine ZBV ?_
 refine RX (Zx (F:=[(b1,_)]) (A:=[(b0,J [.int .u16 cnt,.int .u8 tima,.int .u8 tma,.int .u8 tac,.bool over] 135)]) (B:=[]) (C:=[P_ xb]) (R:=λv H=>v= .tuple #[]/\H=[(b0,J (iZ (nV x ⟨cnt,tima,tma,tac,over⟩)) 135)]) U K_ U ?_) U ?_
 ·exact λw hw=>aOV b0 ⟨cnt,tima,tma,tac,over⟩ ⟨k1,k2,k3,k4⟩ x hx xb w ((bU hr aP w hw) 0 _ U) (hr.apart (Nat.succ_pos _) hw (.head _)) (St.lentV hw)
 refine ZBB ?_
 refine ZBV ?_
 refine KL (λq0 z0=>?_) (λq0 z0=>?_)
 ·refine oG ?_
  refine aO K_ (aS (sig_fn (nV x ⟨cnt,tima,tma,tac,over⟩) (Tm.Ok.tac_ (t:=⟨cnt,tima,tma,tac,over⟩) ⟨k1,k2,k3,k4⟩ x))) ?_
  refine ZA2 ?_
  refine KC (λq1 z1=>?_) (λq1 z1=>?_)
  ·refine ZBZ ?_
   refine sL ?_
   refine kR ?_
   refine ZBZ ?_
   refine KL (λq2 z2=>?_) (λq2 z2=>?_)
   ·refine ZBV ?_
    refine hU ?_
    refine tQ ?_
    have hov:over=true:=q2
    subst hov
    have e1:wW (nV x ⟨cnt,tima,tma,tac,true⟩)=pC (nV x) ⟨cnt,tima,tma,tac,true⟩:=He (t:=(nV x ⟨cnt,tima,tma,tac,true⟩)) q0 mY
    exact aU (λw hw=>eL U U U (aI (b:=b1) aE w hw)) ⟨U,uE⟩
   refine ZBV ?_
   refine hU ?_
   refine tQ ?_
   have hov:over=false:=q2
   subst hov
   have e1:wW (nV x ⟨cnt,tima,tma,tac,false⟩)=pC (nV x) ⟨cnt,tima,tma,tac,false⟩:=He (t:=(nV x ⟨cnt,tima,tma,tac,false⟩)) q0 mY
   exact aU (λw hw=>eL U U U (aI (b:=b1) aE w hw)) ⟨U,uE⟩
  refine ZA2 ?_
  refine tQ ?_
  have e1:(nV x ⟨cnt,tima,tma,tac,over⟩)=pC (nV x) ⟨cnt,tima,tma,tac,over⟩:=Hm (t:=(nV x ⟨cnt,tima,tma,tac,over⟩)) (.inr mY)
  exact aU (λw hw=>eL U U U (aI (b:=b1) aE w hw)) ⟨U,uE⟩
 refine bW ?_
 refine tQ ?_
 have e1:(nV x ⟨cnt,tima,tma,tac,over⟩)=pC (nV x) ⟨cnt,tima,tma,tac,over⟩:=Hm (t:=(nV x ⟨cnt,tima,tma,tac,over⟩)) (.inl q0)
 exact aU (λw hw=>eL U U U (aI (b:=b1) aE w hw)) ⟨U,uE⟩
def aOY(t:Tm)(h:t.Ok)(w:AI):aG prog 321 [.agg (iZ t).toArray] w [] (V_ (.tuple #[.agg (iZ (vE t)).toArray,.bool t.over])):=by
 obtain⟨cnt,tima,tma,tac,over⟩:=t
 obtain⟨k1,k2,k3,k4⟩:=h
 dsimp only at k1 k2 k3 k4
 refine aT func321 ?_
 refine ZAm ?_
 refine Cw λb0=>?_
 refine jT λb1=>?_
 refine kD ?_
 refine KC (λq0 z0=>?_) (λq0 z0=>?_)
 ·refine ZBZ ?_
  refine ZEm ?_
  refine kN ?_
  refine oG ?_
  refine aO K_ (aS (aCf ⟨cnt,tma,tma,tac,false⟩ ⟨k1,k3,k3,k4⟩)) ?_
  refine kN ?_
  have hov:over=true:=q0
  exact ZEq
 refine ZA2 ?_
 refine oG ?_
 refine aO K_ (aS (aCf ⟨cnt,tima,tma,tac,over⟩ ⟨k1,k2,k3,k4⟩)) ?_
 refine kN ?_
 have hov:over=false:=q0
 exact ZEq
def aMr(t:Tm)(h:t.Ok)(n:Int)(w:AI):aG prog 165 [.agg (iZ t).toArray,.int .i64 n] w [] (V_ (.int .u8 (readTm n t))):=by
 obtain⟨cnt,tima,tma,tac,over⟩:=t
 obtain⟨k1,k2,k3,k4⟩:=h
 dsimp only at k1 k2 k3 k4
 refine aT func165 ?_
 refine ZAm ?_
 refine Cw λb0=>?_
 refine kD ?_
 refine KC (λq0 z0=>?_) (λq0 z0=>?_)
 ·refine ZBZ ?_
  refine RW (jB U U aD) U (qM 256 aD aD) (RW (gF U U U) U vO (ZA2 ?_))
  exact E0 U ⟨U,Ie⟩
 refine ZBV ?_
 refine KC (λq1 z1=>?_) (λq1 z1=>?_)
 ·refine ZCy ?_
  exact E0 U ⟨U,Ie⟩
 refine ZBV ?_
 refine KC (λq2 z2=>?_) (λq2 z2=>?_)
 ·refine ZCy ?_
  exact E0 U ⟨U,Ie⟩
 refine ZBV ?_
 refine KC (λq3 z3=>?_) (λq3 z3=>?_)
 ·refine ZBZ ?_
  refine RW (v:=(.int .u8 (248+tac%8))) (dE U U) U (M Z (aMu k4)) (ZA2 ?_)
  exact E0 U ⟨U,Ie⟩
 refine aH ?_
 exact E0 U ⟨U,Ie⟩
def aIE(t:Tm)(h:t.Ok)(n x:Int)(hx:0<=x/\x<256)(w:AI):aG prog 287 [.agg (iZ t).toArray,.int .i64 n,.int .u8 x] w [] (V_ (.agg (iZ (writeTm n x t)).toArray)):=by
 obtain⟨cnt,tima,tma,tac,over⟩:=t
 obtain⟨k1,k2,k3,k4⟩:=h
 dsimp only at k1 k2 k3 k4
 refine aT func287 ?_
 refine ZAm ?_
 refine Cw λb0=>?_
 refine RX (eE (l:=[.int .u8 x]) U U) U ?_
 rintro _ _ ⟨b1,rfl,rfl⟩
 refine ZB9 ?_
 rintro _ _ ⟨b2,rfl,rfl⟩
 refine fG ?_
 refine KC (λq0 z0=>?_) (λq0 z0=>?_)
 ·refine ZAm ?_
  refine oG ?_
  refine aO K_ (aS (aGj ⟨cnt,tima,tma,tac,over⟩ ⟨k1,k2,k3,k4⟩)) ?_
  exact Jd
 refine ZBV ?_
 refine KC (λq1 z1=>?_) (λq1 z1=>?_)
 ·refine ZA2 ?_
  refine ZEm ?_
  refine kN ?_
  refine oG ?_
  exact Jd
 refine ZBV ?_
 refine KC (λq2 z2=>?_) (λq2 z2=>?_)
 ·refine ZA2 ?_
  refine hU ?_
  refine oG ?_
  exact Jd
 refine ZBV ?_
 refine KC (λq3 z3=>?_) (λq3 z3=>?_)
 ·refine ZAm ?_
  refine oG ?_
  refine RW (v:=(.func (.func 291) #[] #[P_ b1])) U U Gg (aO K_ (λw hw=>aQz ⟨cnt,tima,tma,tac,over⟩ ⟨k1,k2,k3,k4⟩ x hx b1 w (aI (b:=b1) (l:=[.int .u8 x]) aE w hw)) ?_)
  exact Jd
 refine ZA2 ?_
 refine oG ?_
 exact Jd
def aNc(p:Pt)(h:p.Ok)(w:AI):aG prog 322 [.agg (qD p).toArray] w [] (V_ (.tuple #[.agg (qD (tickPt p)).toArray,.bool (uO p)])):=by
 obtain⟨data,control,last,bits,count,sent⟩:=p
 obtain⟨k1,k2,k3,k4,k5,k6⟩:=h
 dsimp only at k1 k2 k3 k4 k5 k6
 refine aT func322 ?_
 refine Tc ?_
 refine tZ λb0 b1=>?_
 refine bW ?_
 refine KC (λq0 z0=>?_) (λq0 z0=>?_)
 ·refine ZAm ?_
  refine yU ?_
  refine hU ?_
  have e1:uO ⟨data,control,last,bits,count,sent⟩=false:=by unfold uO;dsimp only;simp only[ak,ai];omega
  exact aU (λw hw=>fN U U U (aI (b:=b1) aE w hw) U) ⟨U,Qd⟩
 refine aH ?_
 refine gY ?_
 refine kR ?_
 refine ZCy ?_
 refine KC (λq1 z1=>?_) (λq1 z1=>?_)
 ·refine ZAm ?_
  refine yU ?_
  refine hU ?_
  have e1:uO ⟨data,control,last,bits,count,sent⟩=false:=by unfold uO;dsimp only;simp only[ak,ai];omega
  exact aU (λw hw=>fN U U U (aI (b:=b1) aE w hw) U) ⟨U,Qd⟩
 refine ZBV ?_
 refine RW (iK U U aD) U J8 (RW (v:=(.int .u8 (data%128*2+1))) (dE U U) U (M Z (aP3 k1)) (kR ?_))
 refine kR ?_
 refine aH ?_
 refine oE ?_
 refine kR ?_
 refine ZCy ?_
 refine KC (λq2 z2=>?_) (λq2 z2=>?_)
 ·refine ZAm ?_
  refine yU ?_
  refine hU ?_
  have e1:uO ⟨data,control,last,bits,count,sent⟩=false:=by unfold uO;dsimp only;simp only[ak,ai];omega
  exact aU (λw hw=>fN U U U (aI (b:=b1) aE w hw) U) ⟨U,Qd⟩
 refine ZBV ?_
 refine RW (v:=(.int .u8 (control%128))) (zS U U) U (M Z (aMH k2)) (kN ?_)
 refine yU ?_
 refine hU ?_
 have e1:uO ⟨data,control,last,bits,count,sent⟩=true:=by unfold uO;dsimp only;simp only[ak,ai];omega
 exact aU (λw hw=>fN U U U (aI (b:=b1) aE w hw) U) ⟨U,Qd⟩
def aQc(p:Pt)(h:p.Ok)(w:AI):aG prog 294 [.agg (qD p).toArray] w [] (V_ (.agg (qD (beginPt p)).toArray)):=by
 obtain⟨data,control,last,bits,count,sent⟩:=p
 obtain⟨k1,k2,k3,k4,k5,k6⟩:=h
 dsimp only at k1 k2 k3 k4 k5 k6
 refine aT func294 ?_
 refine Tc ?_
 refine tZ λb0 b1=>?_
 refine aH ?_
 refine ZEm ?_
 refine kR ?_
 refine kR ?_
 refine ZBV ?_
 refine gY ?_
 refine qR ?_
 refine kN ?_
 refine yU ?_
 exact Sl
def aJX(p:Pt)(h:p.Ok)(n x:Int)(hx:0<=x/\x<256)(w:AI):aG prog 293 [.agg (qD p).toArray,.int .i64 n,.int .u8 x] w [] (V_ (.agg (qD (writePt n x p)).toArray)):=by
 obtain⟨data,control,last,bits,count,sent⟩:=p
 obtain⟨k1,k2,k3,k4,k5,k6⟩:=h
 dsimp only at k1 k2 k3 k4 k5 k6
 have hb:=aIT hx
 refine aT func293 ?_
 refine Tc ?_
 refine tZ λb0 b1=>?_
 refine fG ?_
 refine KC (λq0 z0=>?_) (λq0 z0=>?_)
 ·refine ZA2 ?_
  refine hU ?_
  refine yU ?_
  exact Oz
 refine ZBV ?_
 refine KC (λq1 z1=>?_) (λq1 z1=>?_)
 ·refine ZA2 ?_
  refine RW (v:=(.int .u8 (x/128*128+x%2))) (cM U U) U (M Z hb) (kR ?_)
  refine kR ?_
  refine ZCy ?_
  refine KC (λq2 z2=>?_) (λq2 z2=>?_)
  ·refine ZAm ?_
   refine yU ?_
   refine aO K_ (aS (aQc ⟨data,x/128*128+x%2,last,0,count,sent⟩ ⟨k1,tB,k3,tB,k5,k6⟩)) ?_
   exact Oz
  refine ZA2 ?_
  refine yU ?_
  exact Oz
 refine ZA2 ?_
 refine yU ?_
 exact Oz
def aJv(p:Pt)(h:p.Ok)(n:Int)(w:AI):aG prog 164 [.agg (qD p).toArray,.int .i64 n] w [] (V_ (.int .u8 (readPt n p))):=by
 obtain⟨data,control,last,bits,count,sent⟩:=p
 obtain⟨k1,k2,k3,k4,k5,k6⟩:=h
 dsimp only at k1 k2 k3 k4 k5 k6
 refine aT func164 ?_
 refine Tc ?_
 refine ZBF λb0=>?_
 refine kD ?_
 refine KC (λq0 z0=>?_) (λq0 z0=>?_)
 ·refine ZCy ?_
  exact E0 U ⟨U,Yc⟩
 refine ZBV ?_
 refine KC (λq1 z1=>?_) (λq1 z1=>?_)
 ·refine ZBZ ?_
  refine RW (v:=(.int .u8 (control/128*128+126+control%2))) (dE U U) U (M Z (aH3 k2)) (ZA2 ?_)
  exact E0 U ⟨U,Yc⟩
 refine aH ?_
 exact E0 U ⟨U,Yc⟩
def aCj(c:Cp)(h:c.Ok)(w:AI):aG prog 295 [.agg (cCp c).toArray] w [] (V_ (.bool (yT c))):=by
 obtain⟨page,left⟩:=c
 obtain⟨k1,k2⟩:=h
 dsimp only at k1 k2
 refine aT func295 ?_
 refine Vi ?_
 refine ZBF λb0=>?_
 refine cL ?_
 exact E0 U ⟨U,U⟩
def aLH(c:Cp)(h:c.Ok)(w:AI):aG prog 331 [.agg (cCp c).toArray] w [] (V_ (.int .u16 (fromCp c))):=by
 obtain⟨page,left⟩:=c
 obtain⟨k1,k2⟩:=h
 dsimp only at k1 k2
 refine aT func331 ?_
 refine Vi ?_
 refine ZBF λb0=>?_
 refine bW ?_
 refine KC (λq0 z0=>?_) (λq0 z0=>?_)
 ·refine ZBZ ?_
  refine RW (mM U U) U vO (Ea ?_)
  refine RW (iK U U aD) U Xm (ZA2 ?_)
  exact E0 U ⟨U,aCI⟩
 refine ZBV ?_
 refine Ea ?_
 refine RW (iK U U aD) U Xm (ZA2 ?_)
 exact E0 U ⟨U,aCI⟩
def Vx(c:Cp)(x:Int)(w:AI):aG prog 296 [.agg (cCp c).toArray,.int .u8 x] w [] (V_ (.agg (cCp (Ep x)).toArray)):=by
 refine aT func296 ?_
 refine ZAm ?_
 refine RX (eE (l:=cCp c) U U) U (tZ λb0 b1=>?_)
 refine ZBZ ?_
 refine RS ?_
 exact Sl
def aBa(c:Cp)(h:c.Ok)(a:Int)(w:AI):aG prog 328 [.agg (cCp c).toArray,.int .u16 a] w [] (V_ (.bool (letsCp c a))):=by
 obtain⟨page,left⟩:=c
 obtain⟨k1,k2⟩:=h
 dsimp only at k1 k2
 refine aT func328 ?_
 refine Vi ?_
 refine ZBF λb0=>?_
 refine ZBZ ?_
 refine yK ?_
 refine aO K_ (aS (aCj ⟨page,left⟩ ⟨k1,k2⟩)) ?_
 rw[show yT ⟨page,left⟩=decide (0<left)from rfl]
 refine ZBI ?_
 refine KL (λq0 z0=>?_) (λq0 z0=>?_)
 ·refine aH ?_
  exact E0 U ⟨U,(M Value.bool (by unfold letsCp yT;simp_all))⟩
 refine aH ?_
 exact E0 U ⟨U,(M Value.bool (by unfold letsCp yT;simp_all))⟩
def aLO(c:Cp)(h:c.Ok)(w:AI):aG prog 323 [.agg (cCp c).toArray] w [] (V_ (.tuple #[.agg (cCp (tickCp c)).toArray,.int .u16 (wI c),.int .i64 (Ci c),.bool (yT c)])):=by
 obtain⟨page,left⟩:=c
 obtain⟨k1,k2⟩:=h
 dsimp only at k1 k2
 refine aT func323 ?_
 refine Vi ?_
 refine tZ λb0 b1=>?_
 refine ZCy ?_
 refine yK ?_
 refine aO K_ (aS (aCj ⟨page,left⟩ ⟨k1,k2⟩)) ?_
 rw[show yT ⟨page,left⟩=decide (0<left)from rfl]
 refine ZAm ?_
 refine KC (λq0 z0=>?_) (λq0 z0=>?_)
 ·refine ZAm ?_
  refine yK ?_
  refine ZEm ?_
  refine ZBV ?_
  have e0:¬0<left:=by simpa using q0
  exact aU (λw hw=>aFb U U U (aI (b:=b1) aE w hw) U U U) ⟨U,by unfold tickCp wI Ci;simp only[ae e0,cu e0];rfl⟩
 refine ZBV ?_
 refine oE ?_
 refine ZBZ ?_
 refine yK ?_
 refine aO K_ (aS (aLH ⟨page,left⟩ ⟨k1,k2⟩)) ?_
 refine ZBI ?_
 refine Ea ?_
 refine RW (v:=(.int .u16 ((fromCp ⟨page,left⟩+(160-left))%65536))) U U ((Ia _).trans (M _ I)) (aH ?_)
 refine oE ?_
 refine kN ?_
 refine yK ?_
 refine ZAm ?_
 refine ZEm ?_
 refine ZBV ?_
 have e0:0<left:=by simpa using q0
 exact aU (λw hw=>aFb U U U (aI (b:=b1) aE w hw) U U U) ⟨U,by unfold tickCp wI Ci;simp only[ag e0,am e0];rfl⟩
def opens_fn(x:Int)(hx:0<=x/\x<256)(w:AI):aG prog 285 [.int .u8 x] w [] (V_ (.bool (Ig x))):=by
 refine aT func285 ?_
 refine ZCy ?_
 refine sK ?_
 exact pF
def aP4(m:Bk)(h:m.Ok)(a x:Int)(ha:0<=a/\a<32768)(hx:0<=x/\x<256)(w:AI):aG prog 281 [.agg (jY m).toArray,.int .u16 a,.int .u8 x] w [] (V_ (.agg (jY (oneB a x m)).toArray)):=by
 obtain⟨kind,banks,ram,on,mode,low,high,last⟩:=m
 obtain⟨k1,k2,k3,k4,k5,k6⟩:=h
 dsimp only at k1 k2 k3 k4 k5 k6
 refine aT func281 ?_
 refine ZAm ?_
 refine zV λb0=>?_
 refine jT λb1=>?_
 refine ZBV ?_
 refine RW (jB U U aD) U (qM 8192 aD aD) (ZCy ?_)
 refine KC (λq0 z0=>?_) (λq0 z0=>?_)
 ·refine Kv ?_
  refine sJ ?_
  exact Mg
 refine ZBV ?_
 refine KC (λq1 z1=>?_) (λq1 z1=>?_)
 ·refine ZAm ?_
  refine RW (cM U U) U aE4 (eR ?_)
  refine RY (Ec U U) U (sJ ?_)
  exact Mg
 refine ZBV ?_
 refine KC (λq2 z2=>?_) (λq2 z2=>?_)
 ·refine ZAm ?_
  refine RW (cM U U) U (by first|exact rE 2 4 aD rfl I (show _<(256:Int)by omega) (show _<(256:Int)by decide)|rfl) (eR ?_)
  refine sJ ?_
  exact Mg
 refine ZAm ?_
 refine RW (cM U U) U Eo (ZAm ?_)
 refine hU ?_
 refine uF ?_
 exact Mg
def aF0(m:Bk)(h:m.Ok)(a x:Int)(ha:0<=a/\a<32768)(hx:0<=x/\x<256)(w:AI):aG prog 282 [.agg (jY m).toArray,.int .u16 a,.int .u8 x] w [] (V_ (.agg (jY (twoB a x m)).toArray)):=by
 obtain⟨kind,banks,ram,on,mode,low,high,last⟩:=m
 obtain⟨k1,k2,k3,k4,k5,k6⟩:=h
 dsimp only at k1 k2 k3 k4 k5 k6
 refine aT func282 ?_
 refine ZAm ?_
 refine zV λb0=>?_
 refine jT λb1=>?_
 refine bW ?_
 refine KC (λq0 z0=>?_) (λq0 z0=>?_)
 ·refine ZA2 ?_
  refine uF ?_
  exact H5
 refine ZA2 ?_
 refine RW (cM U U) U (by first|exact Ct 8 aD I (show _<(65536:Int)by omega) (show _<(65536:Int)by decide)|rfl) (ZA2 ?_)
 refine KC (λq1 z1=>?_) (λq1 z1=>?_)
 ·refine Kv ?_
  refine sJ ?_
  exact H5
 refine ZAm ?_
 refine sK ?_
 refine eR ?_
 refine RY (Ec U U) U (sJ ?_)
 exact H5
def aGQ(m:Bk)(h:m.Ok)(a x:Int)(ha:0<=a/\a<32768)(hx:0<=x/\x<256)(w:AI):aG prog 283 [.agg (jY m).toArray,.int .u16 a,.int .u8 x] w [] (V_ (.tuple #[.agg (jY (threeB a x m)).toArray,.bool (heldB a x m)])):=by
 obtain⟨kind,banks,ram,on,mode,low,high,last⟩:=m
 obtain⟨k1,k2,k3,k4,k5,k6⟩:=h
 dsimp only at k1 k2 k3 k4 k5 k6
 refine aT func283 ?_
 refine ZAm ?_
 refine zV λb0=>?_
 refine jT λb1=>?_
 refine cL ?_
 refine RW (jB U U aD) U (qM 8192 aD aD) (ZCy ?_)
 refine KC (λq0 z0=>?_) (λq0 z0=>?_)
 ·refine Kv ?_
  refine sJ ?_
  refine kN ?_
  exact Mi
 refine ZBV ?_
 refine KC (λq1 z1=>?_) (λq1 z1=>?_)
 ·refine ZAm ?_
  refine RW (cM U U) U (by first|exact rE 7 128 aD rfl I (show _<(256:Int)by omega) (show _<(256:Int)by decide)|rfl) (eR ?_)
  refine RY (Ec U U) U (sJ ?_)
  refine kN ?_
  exact Mi
 refine ZBV ?_
 refine KC (λq2 z2=>?_) (λq2 z2=>?_)
 ·refine ZAm ?_
  refine sK ?_
  refine eR ?_
  refine sJ ?_
  refine kN ?_
  exact Mi
 refine ZBV ?_
 refine KL (λq3 z3=>?_) (λq3 z3=>?_)
 ·refine ZE1 ?_
  refine hU ?_
  refine uF ?_
  refine kN ?_
  have e1:heldB a x ⟨kind,banks,ram,on,mode,low,high,last⟩=(x==1):=by unfold heldB;dsimp only;rw[ep];simp only[ak,cj,eq,iff_false];omega
  exact aU (λw hw=>fN U U U (aI (b:=b1) aE w hw) U) ⟨U,y_W⟩
 refine ZE1 ?_
 refine hU ?_
 refine uF ?_
 refine kN ?_
 exact Mi
def aHe(m:Bk)(h:m.Ok)(a x:Int)(ha:0<=a/\a<32768)(hx:0<=x/\x<256)(w:AI):aG prog 284 [.agg (jY m).toArray,.int .u16 a,.int .u8 x] w [] (V_ (.agg (jY (fiveB a x m)).toArray)):=by
 obtain⟨kind,banks,ram,on,mode,low,high,last⟩:=m
 obtain⟨k1,k2,k3,k4,k5,k6⟩:=h
 dsimp only at k1 k2 k3 k4 k5 k6
 refine aT func284 ?_
 refine ZAm ?_
 refine zV λb0=>?_
 refine jT λb1=>?_
 refine ZBV ?_
 refine RW (jB U U aD) U (qM 4096 aD aD) (ZE1 ?_)
 refine KC (λq0 z0=>?_) (λq0 z0=>?_)
 ·refine ZBI ?_
  refine oQ true U q0 ?_
  refine Kv ?_
  refine sJ ?_
  exact Du
 refine ZBZ ?_
 refine KC (λq1 z1=>?_) (λq1 z1=>?_)
 ·refine Kv ?_
  refine sJ ?_
  exact Du
 refine ZBV ?_
 refine KC (λq2 z2=>?_) (λq2 z2=>?_)
 ·refine ZA2 ?_
  refine RW (v:=(.int .i64 (low/256*256))) (zS U U) U (M (Value.int .i64) (X7 (n:=low) I I)) (rH ?_)
  refine RW (v:=(.int .i64 (low/256*256+x))) (dE U U) U (M (Value.int .i64) (Wj (A:=low/256*256) I I I hx)) (sJ ?_)
  exact Du
 refine ZBV ?_
 refine KC (λq3 z3=>?_) (λq3 z3=>?_)
 ·refine ZA2 ?_
  refine RW (v:=(.int .i64 (low%256))) (cM U U) U (M _ (Y4 _)) (ZBI ?_)
  refine RW (cM U U) U Eo (eR ?_)
  refine RW (iK U U aD) U Ma (RW (v:=(.int .i64 (low%256+x%2*256))) (dE U U) U (M (Value.int .i64) (Rb (A:=x%2*256) I I I I)) (sJ ?_))
  exact Du
 refine aH ?_
 refine KC (λq4 z4=>?_) (λq4 z4=>?_)
 ·refine ZBI ?_
  refine oQ true U q4 ?_
  refine ZAm ?_
  refine sK ?_
  refine eR ?_
  refine sJ ?_
  exact Du
 refine ZBZ ?_
 refine KC (λq5 z5=>?_) (λq5 z5=>?_)
 ·refine ZAm ?_
  refine sK ?_
  refine eR ?_
  refine sJ ?_
  exact Du
 refine ZA2 ?_
 refine uF ?_
 exact Du
def aFR(m:Bk)(h:m.Ok)(a x:Int)(ha:0<=a/\a<65536)(hx:0<=x/\x<256)(w:AI):aG prog 280 [.agg (jY m).toArray,.int .u16 a,.int .u8 x] w [] (V_ (.tuple #[.agg (jY (writeB a x m)).toArray,.bool (latchB a x m)])):=by
 obtain⟨kind,banks,ram,on,mode,low,high,last⟩:=m
 obtain⟨k1,k2,k3,k4,k5,k6⟩:=h
 dsimp only at k1 k2 k3 k4 k5 k6
 refine aT func280 ?_
 refine ZAm ?_
 refine zV λb0=>?_
 refine jT λb1=>?_
 refine ZBV ?_
 refine RW (cM U U) U (by first|exact rE 15 32768 aD rfl I (show _<(65536:Int)by omega) (show _<(65536:Int)by decide)|rfl) (jJ ?_)
 refine KC (λq0 z0=>?_) (λq0 z0=>?_)
 ·refine ZAm ?_
  refine uF ?_
  refine ZAm ?_
  refine aO K_ (aS (aP4 ⟨kind,banks,ram,on,mode,low,high,last⟩ ⟨k1,k2,k3,k4,k5,k6⟩ (a%32768) x I hx)) ?_
  refine hU ?_
  exact Nw
 refine ZBV ?_
 refine KC (λq1 z1=>?_) (λq1 z1=>?_)
 ·refine ZAm ?_
  refine uF ?_
  refine ZAm ?_
  refine aO K_ (aS (aF0 ⟨kind,banks,ram,on,mode,low,high,last⟩ ⟨k1,k2,k3,k4,k5,k6⟩ (a%32768) x I hx)) ?_
  refine hU ?_
  exact Nw
 refine ZBV ?_
 refine KC (λq2 z2=>?_) (λq2 z2=>?_)
 ·refine ZAm ?_
  refine uF ?_
  refine ZAm ?_
  refine aO K_ (aS (aGQ ⟨kind,banks,ram,on,mode,low,high,last⟩ ⟨k1,k2,k3,k4,k5,k6⟩ (a%32768) x I hx)) ?_
  refine ZAm ?_
  refine hU ?_
  have e1:latchB a x ⟨kind,banks,ram,on,mode,low,high,last⟩=heldB (a%32768) x ⟨kind,banks,ram,on,mode,low,high,last⟩:=by unfold latchB;simp_all
  exact aU (λw hw=>fN U U U (aI (b:=b1) aE w hw) U) ⟨U,Z4⟩
 refine ZBV ?_
 refine KC (λq3 z3=>?_) (λq3 z3=>?_)
 ·refine ZAm ?_
  refine uF ?_
  refine ZAm ?_
  refine aO K_ (aS (aHe ⟨kind,banks,ram,on,mode,low,high,last⟩ ⟨k1,k2,k3,k4,k5,k6⟩ (a%32768) x I hx)) ?_
  refine hU ?_
  exact Nw
 refine ZA2 ?_
 refine uF ?_
 refine hU ?_
 exact Nw
def aBM(m:Bk)(h:m.Ok)(hb:0<m.banks)(a:Int)(ha:0<=a/\a<65536)(w:AI):aG prog 119 [.agg (jY m).toArray,.int .u16 a] w [] (V_ (.int .i64 (bankB a m))):=by
 obtain⟨kind,banks,ram,on,mode,low,high,last⟩:=m
 obtain⟨k1,k2,k3,k4,k5,k6⟩:=h
 dsimp only at k1 k2 k3 k4 k5 k6 hb
 refine aT func119 ?_
 refine ZAm ?_
 refine zV λb0=>?_
 refine bW ?_
 refine RW (cM U U) U (by first|exact Ct 14 aD I (show _<(65536:Int)by omega) (show _<(65536:Int)by decide)|rfl) (kV ?_)
 refine KC (λq0 z0=>?_) (λq0 z0=>?_)
 ·refine ZBZ ?_
  refine KC (λq1 z1=>?_) (λq1 z1=>?_)
  ·refine ZE1 ?_
   exact Ds
  exact Dk
 refine ZBV ?_
 refine KC (λq1 z1=>?_) (λq1 z1=>?_)
 ·refine ZBZ ?_
  refine KL (λq2 z2=>?_) (λq2 z2=>?_)
  ·refine ZE1 ?_
   refine RW (iK U U aD) U aEK (aH ?_)
   refine KC (λq3 z3=>?_) (λq3 z3=>?_)
   ·refine ZBZ ?_
    refine gY ?_
    refine ZCy ?_
    exact Ds
   exact Dk
  refine ZBZ ?_
  refine KC (λq3 z3=>?_) (λq3 z3=>?_)
  ·refine ZA2 ?_
   refine RW (iK U U aD) U aEK (aH ?_)
   exact ZEz
  refine ZBV ?_
  exact ZEz
 refine aH ?_
 refine KC (λq2 z2=>?_) (λq2 z2=>?_)
 ·refine ZBI ?_
  refine oQ true U q2 ?_
  refine ZBZ ?_
  refine KC (λq3 z3=>?_) (λq3 z3=>?_)
  ·refine cL ?_
   exact Ds
  exact Dk
 refine ZBV ?_
 refine KC (λq3 z3=>?_) (λq3 z3=>?_)
 ·refine ZBI ?_
  refine oQ true U q3 ?_
  refine ZBZ ?_
  refine KC (λq4 z4=>?_) (λq4 z4=>?_)
  ·refine cL ?_
   exact Ds
  exact Dk
 refine ZBZ ?_
 refine KC (λq4 z4=>?_) (λq4 z4=>?_)
 ·refine ZBZ ?_
  refine KC (λq5 z5=>?_) (λq5 z5=>?_)
  ·refine cL ?_
   exact Ds
  exact Dk
 exact Dk
def aIM(m:Bk)(h:m.Ok)(hb:0<m.banks)(a:Int)(ha:0<=a/\a<65536)(w:AI):aG prog 114 [.agg (jY m).toArray,.int .u16 a] w [] (V_ (.int .i64 (Cr a m))):=by
 have hb9:=aFJ h a
 have hb8:=h.banks
 refine aT func114 ?_
 refine ZAm ?_
 refine RX (eE (l:=jY m) U U) U (ZBF λb0=>?_)
 refine ZBZ ?_
 refine uF ?_
 refine ZBI ?_
 refine aO K_ (aS (aBM m h hb a ha)) ?_
 refine sN ?_
 refine rH ?_
 refine qR ?_
 refine gY ?_
 exact fD
def atB_fn(m:Bk)(h:m.Ok)(a:Int)(ha:0<=a/\a<65536)(w:AI):aG prog 162 [.agg (jY m).toArray,.int .u16 a] w [] (V_ (atT (atB_ a m))):=by
 obtain⟨kind,banks,ram,on,mode,low,high,last⟩:=m
 obtain⟨k1,k2,k3,k4,k5,k6⟩:=h
 dsimp only at k1 k2 k3 k4 k5 k6
 refine aT func162 ?_
 refine ZAm ?_
 refine zV λb0=>?_
 refine ZBV ?_
 rcases on with _|_
 ·refine ZA2 ?_
  refine KL (λq0 z0=>?_) (λq0 z0=>?_)
  ·refine Uo ?_
   exact aU (λ_ _=>dX U U) ⟨U,xT⟩
  refine ZA2 ?_
  refine KL (λq1 z1=>?_) (λq1 z1=>?_)
  ·refine uV ?_
   exact aU (λ_ _=>dX U U) ⟨U,xT⟩
  refine ZAm ?_
  refine jN ?_
  refine jJ ?_
  exact aU (λ_ _=>dX U U) ⟨U,xT⟩
 refine ZA2 ?_
 refine KL (λq0 z0=>?_) (λq0 z0=>?_)
 ·refine Uo ?_
  exact aU (λ_ _=>dX U U) ⟨U,xT⟩
 refine ZA2 ?_
 refine KL (λq1 z1=>?_) (λq1 z1=>?_)
 ·refine uV ?_
  exact aU (λ_ _=>dX U U) ⟨U,xT⟩
 refine ZAm ?_
 refine iO ?_
 refine ZCy ?_
 refine KC (λq2 z2=>?_) (λq2 z2=>?_)
 ·refine aH ?_
  exact aU (λ_ _=>dX U U) ⟨U,xT⟩
 refine ZBZ ?_
 refine eR ?_
 refine qR ?_
 refine jJ ?_
 refine KC (λq3 z3=>?_) (λq3 z3=>?_)
 ·refine aH ?_
  exact Hr
 refine ZBV ?_
 refine KC (λq4 z4=>?_) (λq4 z4=>?_)
 ·refine ZBI ?_
  rcases mode with _|_
  ·refine ZBZ ?_
   refine oQ false U U ?_
   refine aH ?_
   exact Hr
  refine ZBZ ?_
  refine oQ true U U ?_
  refine ZBZ ?_
  refine sN ?_
  refine gY ?_
  refine ZCy ?_
  exact Hr
 refine ZBV ?_
 refine KC (λq5 z5=>?_) (λq5 z5=>?_)
 ·refine ZAm ?_
  refine qR ?_
  refine ZCy ?_
  exact Hr
 refine ZBV ?_
 refine KC (λq6 z6=>?_) (λq6 z6=>?_)
 ·refine ZCy ?_
  refine KC (λq7 z7=>?_) (λq7 z7=>?_)
  ·refine aH ?_
   exact aU (λ_ _=>dX U U) ⟨U,xT⟩
  refine ZBV ?_
  refine sN ?_
  refine gY ?_
  refine ZCy ?_
  exact Hr
 refine ZBV ?_
 refine KC (λq7 z7=>?_) (λq7 z7=>?_)
 ·refine ZBZ ?_
  refine sN ?_
  refine gY ?_
  refine ZCy ?_
  exact Hr
 refine aH ?_
 exact aU (λ_ _=>dX U U) ⟨U,xT⟩
def clockB_fn(m:Bk)(h:m.Ok)(w:AI):aG prog 160 [.agg (jY m).toArray] w [] (V_ (atT (clockB m))):=by
 obtain⟨kind,banks,ram,on,mode,low,high,last⟩:=m
 obtain⟨k1,k2,k3,k4,k5,k6⟩:=h
 dsimp only at k1 k2 k3 k4 k5 k6
 refine aT func160 ?_
 refine ZAm ?_
 refine zV λb0=>?_
 refine ZBV ?_
 rcases on with _|_
 ·refine ZBZ ?_
  refine KL (λq0 z0=>?_) (λq0 z0=>?_)
  ·refine By ?_
   exact aU (λ_ _=>dX U U) ⟨U,Fc⟩
  refine ZAm ?_
  refine jN ?_
  refine Cv ?_
  exact aU (λ_ _=>dX U U) ⟨U,Fc⟩
 refine ZBZ ?_
 refine KL (λq0 z0=>?_) (λq0 z0=>?_)
 ·refine By ?_
  exact aU (λ_ _=>dX U U) ⟨U,Fc⟩
 refine ZAm ?_
 refine iO ?_
 refine aH ?_
 refine KL (λq1 z1=>?_) (λq1 z1=>?_)
 ·refine fG ?_
  exact aU (λ_ _=>dX U U) ⟨U,Fc⟩
 refine ZBV ?_
 refine KC (λq2 z2=>?_) (λq2 z2=>?_)
 ·refine aH ?_
  exact aU (λ_ _=>dX U U) ⟨U,Fc⟩
 refine ZBV ?_
 refine oE ?_
 refine ZBZ ?_
 exact aU (λ_ _=>dX U U) ⟨U,Fc⟩
def aKq(ti:ByteArray)(kind banks ram:Int)(cl ba wh:Bool)(w:AI):aG prog 89 [.agg #[.string ti,.int .i64 kind,.bool cl,.bool ba,.int .i64 banks,.int .i64 ram,.bool wh]] w [] (V_ (.agg (jY ⟨kind,banks,ram,decide (kind=0),false,1,0,255⟩).toArray)):=by
 refine aT func89 ?_
 refine ZAm ?_
 refine RX (eE (l:=[.string ti,.int .i64 kind,.bool cl,.bool ba,.int .i64 banks,.int .i64 ram,.bool wh]) U U) U (tZ λb0 b1=>?_)
 refine fG ?_
 refine RS ?_
 exact Sl
def C3(p:Pd)(w:AI):aG prog 190 [.agg (nB p).toArray] w [] (V_ (.int .u8 (yZ p))):=by
 obtain⟨sel,down⟩:=p
 refine aT func190 ?_
 refine Sh ?_
 refine ZBF λb0=>?_
 refine iT ?_
 refine RW (v:=(.int .u8 (aQ .u8 sel 16))) (cM U U) U U (ZAm ?_)
 refine KC (λq0 z0=>?_) (λq0 z0=>?_)
 ·refine ZBZ ?_
  refine RY (dE U U) U (ZCy ?_)
  refine RW (v:=(.int .u8 (aQ .u8 sel 32))) (cM U U) U U (ZAm ?_)
  refine KC (λq1 z1=>?_) (λq1 z1=>?_)
  ·refine ZBZ ?_
   refine RW (v:=(.int .u8 (shr .u8 down 4))) (jB U U aD) U U (RY (dE U U) U (ZBV ?_))
   refine Sw ?_
   exact E0 U ⟨U,(by unfold yZ Hj;dsimp only;rw[ag z1,ag z0])⟩
  refine ZBZ ?_
  refine Sw ?_
  exact E0 U ⟨U,(by unfold yZ Hj;dsimp only;rw[ae z1,ag z0])⟩
 refine aH ?_
 refine RW (v:=(.int .u8 (aQ .u8 sel 32))) (cM U U) U U (ZAm ?_)
 refine KC (λq1 z1=>?_) (λq1 z1=>?_)
 ·refine ZBZ ?_
  refine RW (v:=(.int .u8 (shr .u8 down 4))) (jB U U aD) U U (RY (dE U U) U (ZBV ?_))
  refine Sw ?_
  exact E0 U ⟨U,(by unfold yZ Hj;dsimp only;rw[ag z1,ae z0])⟩
 refine ZBZ ?_
 refine Sw ?_
 exact E0 U ⟨U,(by unfold yZ Hj;dsimp only;rw[ae z1,ae z0])⟩
def aRG(p:Pd)(w:AI):aG prog 163 [.agg (nB p).toArray] w [] (V_ (.int .u8 (So p))):=by
 obtain⟨sel,down⟩:=p
 refine aT func163 ?_
 refine Sh ?_
 refine ZBF λb0=>?_
 refine ZA2 ?_
 refine DR [4,5,6,7] (bQ [0,2,4,6,8,11,12,14,16,18]) ?_
 refine ZAm ?_
 refine DW (v:=(.int .u8 (aQ .u8 sel 48))) U U U U (DW (v:=_) U U U U (fZ U U U U Qv U U ?_))
 refine DZ U (cZ K_ U (aS (C3 ⟨sel,down⟩))) U gV (DW (v:=(.int .u8 (lK .u8 255 (yZ ⟨sel,down⟩)))) U U U U (DW (v:=_) U U U U (DW (v:=_) U U U U ?_)))
 exact fD
def aC0(p q:Pd)(w:AI):aG prog 167 [.agg (nB p).toArray,.agg (nB q).toArray] w [] (V_ (.tuple #[.agg (nB q).toArray,.bool (zD p q)])):=by
 refine aT func167 ?_
 refine ZAm ?_
 refine RX (eE (l:=nB p) U U) U (ZBF λb0=>?_)
 refine RX (eE (l:=nB q) U U) U ?_
 rintro _ _ ⟨b1,rfl,rfl⟩
 refine ZB9 ?_
 rintro _ _ ⟨b2,rfl,rfl⟩
 refine ZA2 ?_
 refine DR [1,2,3,4,5,6] (bQ [0,2,6,5,9,10,12,15,16]) ?_
 refine fZ U U U U Qv U U ?_
 refine fZ U U U U Qv U U ?_
 refine fZ U U U U Qv U U ?_
 refine DZ U (cZ K_ U (aS (C3 q))) U gV (DZ U (cZ K_ U (aS (C3 p))) U gV (DW (v:=_) U U U U (ZBI ?_)))
 refine DZ U iF U aY (ZA2 ?_)
 exact aU (λw hw=>fN U U U (aI (b:=b2) aE w hw) U) ⟨U,U⟩
def aIB(p:Pd)(x:Int)(w:AI):aG prog 292 [.agg (nB p).toArray,.int .u8 x] w [] (V_ (.tuple #[.agg (nB (rD x p)).toArray,.bool (zD p (rD x p))])):=by
 obtain⟨sel,down⟩:=p
 refine aT func292 ?_
 refine Sh ?_
 refine tZ λb0 b1=>?_
 refine ZBZ ?_
 refine yK ?_
 refine ZBI ?_
 refine RW (v:=(.int .u8 (aQ .u8 x 48))) U U U (ZAm ?_)
 refine RS ?_
 refine aO K_ (aS (aC0 ⟨sel,down⟩ (rD x ⟨sel,down⟩))) ?_
 refine ZAm ?_
 exact ZEn
def aOc(p:Pd)(x:Int)(w:AI):aG prog 120 [.agg (nB p).toArray,.int .u8 x] w [] (V_ (.tuple #[.agg (nB (rA x p)).toArray,.bool (zD p (rA x p))])):=by
 obtain⟨sel,down⟩:=p
 refine aT func120 ?_
 refine Sh ?_
 refine tZ λb0 b1=>?_
 refine ZBZ ?_
 refine yK ?_
 refine ZA2 ?_
 refine RS ?_
 refine aO K_ (aS (aC0 ⟨sel,down⟩ (rA x ⟨sel,down⟩))) ?_
 refine ZAm ?_
 exact ZEn
def aRL(l:List gG)(a:AC)(cp:Nat)(hll:l.length<=1000000)(n:Int)(w:AI)(hE:eX w qN a l):aG prog 121 [.slice a l.length cp,.int .u64 n] w [] (V_ (.int .u8 (jQ l n))):=by
 refine aT func121 ?_
 refine fG ?_
 refine mV ?_
 refine yC (σ:=Nat×AH) [5,6,7,10,11,12,13,14,15,16,17,18,19,20,21,22,23,24,25,26,27,28,29,30,31,32,33,34,35,36,37,38] (λq=>[(5,q.2),(10,.int .i64 q.1)]) (λq=>q.1<=l.length/\((Dg n (l.take q.1)=none/\q.2= .pointer none)\/∃c0,Dg n (l.take q.1)=some c0/\∃b0 o0,q.2= .pointer (some ⟨b0,o0,none⟩)/\w.cell? ⟨b0,o0,none⟩=some (.int .u64 c0.at_)/\w.cell? ⟨b0,o0+1,none⟩=some (.int .u8 c0.down))) (λq=>l.length-q.1) (0,.pointer none) ?_ ?_ ?_
 ·exact⟨aq _,.inl ⟨U,U⟩⟩
 ·exact .cons U (.cons U .nil)
 rintro⟨i,pv⟩ y3 ⟨hi,hb9⟩
 dsimp only at hi hb9⊢
 refine ZBV ?_
 refine KC (λq0 z0=>?_) (λq0 z0=>?_)
 ·refine ZBZ ?_
  obtain⟨bx,ox,rfl,hrx⟩:=hE.row (i:=i) I
  obtain⟨c,hcx0⟩:∃c,l[i]? =some c:=⟨_,ap I⟩
  refine ZE1 ?_
  refine Py ?_
  refine ZA2 ?_
  rcases hb9 with⟨hb,rfl⟩|⟨c0,hb,b0,o0,rfl,hc0,hc1⟩
  ·refine DR [4,14,15,16,17] (bQ [0,2,4,6,8,10,12,14,16,18,20,22,24,26,28,30,32,34,36,38,40]) ?_
   refine ZA2 ?_
   refine DL U U U (λw hw=>A1) U (ZAm ?_)
   refine KE (λq1 z1=>?_) (λq1 z1=>?_)
   ·refine ZBI ?_
    refine vB true U U U U U ?_
    refine Cv ?_
    refine pU ?_
    exact⟨(i+1,_),⟨aR,.inr ⟨c,by rw[best_step hcx0,hb];exact aDQ I rfl,_,_,U,aBp,aE3⟩⟩,yQ,.cons U (.cons U .nil),bB,λ_ h=>h⟩
   refine sB ?_
   refine pU ?_
   exact⟨(i+1,_),⟨aR,.inl ⟨aDt,U⟩⟩,yQ,.cons U (.cons U .nil),bB,λ_ h=>h⟩
  refine DR [4,14,15,16,17] (bQ [0,2,4,6,8,10,12,14,16,18,20,22,24,26,28,30,32,34,36,38,40]) ?_
  refine ZA2 ?_
  refine DL U U U (λw hw=>A1) U (ZAm ?_)
  refine KE (λq1 z1=>?_) (λq1 z1=>?_)
  ·refine ZBI ?_
   refine vB false U U U U U ?_
   refine ZBZ ?_
   refine DL U U U (λw hw=>A1) U (ZA2 ?_)
   refine DL U U U (gS hc0 aP) U (ZBZ ?_)
   refine KC (λq2 z2=>?_) (λq2 z2=>?_)
   ·refine ZBV ?_
    refine pU ?_
    exact⟨(i+1,_),⟨aR,.inr ⟨c,by rw[best_step hcx0,hb];exact aDQ I (am I),_,_,U,aBp,aE3⟩⟩,yQ,.cons U (.cons U .nil),bB,λ_ h=>h⟩
   refine pT ?_
   exact⟨(i+1,_),⟨aR,.inr ⟨c0,by rw[best_step hcx0,hb];exact better_no (.inr (cu I)),b0,o0,U,hc0,hc1⟩⟩,yQ,.cons U (.cons U .nil),bB,λ_ h=>h⟩
  refine sB ?_
  refine pU ?_
  exact⟨(i+1,_),⟨aR,.inr ⟨c0,aDt,b0,o0,U,hc0,hc1⟩⟩,yQ,.cons U (.cons U .nil),bB,λ_ h=>h⟩
 refine ZA2 ?_
 obtain rfl:i=l.length:=by omega
 rw[dj]at hb9
 rcases hb9 with⟨hb,rfl⟩|⟨c0,hb,b0,o0,rfl,hc0,hc1⟩
 ·refine ZAm ?_
  refine jN ?_
  refine ZCy ?_
  exact E0 U ⟨U,(by unfold jQ;rw[hb])⟩
 refine ZAm ?_
 refine iO ?_
 refine ZE1 ?_
 refine W (aW U U (dN hc1 aP)) U (ZA2 ?_)
 exact E0 U ⟨U,(by unfold jQ;rw[hb])⟩
def aQu(b:Nat)(s m h day sub:Int)(halt carry:Bool)(d0 d1 d2 d3 d4:Int)(k:0<=s/\s<256)(w:AI)(hst:St w [b] [(b,J [.int .u8 s,.int .u8 m,.int .u8 h,.int .i64 day,.int .i64 sub,.bool halt,.bool carry,.int .u8 d0,.int .u8 d1,.int .u8 d2,.int .u8 d3,.int .u8 d4] 133)] w):aG prog 338 [P_ b,.int .u8 63,.int .u8 60] w [b] (λv H=>v= .bool (decide ((s+1)%64=60))/\H=[(b,J [.int .u8 (if(s+1)%64=60 then 0 else(s+1)%64),.int .u8 m,.int .u8 h,.int .i64 day,.int .i64 sub,.bool halt,.bool carry,.int .u8 d0,.int .u8 d1,.int .u8 d2,.int .u8 d3,.int .u8 d4] 133)]):=by
 refine cG func338 hst ?_
 refine cL ?_
 refine sL ?_
 refine ZBI ?_
 refine RW (v:=(.int .u8 ((s+1)%64))) (cM U U) U (M Z (eI (p:=λx=>aQ .u8 ((x+1)%256) 63=(x+1)%64) eW k.1 k.2)) (kR ?_)
 refine cL ?_
 refine KC (λq0 z0=>?_) (λq0 z0=>?_)
 ·refine ZBV ?_
  exact EV U aJ ⟨M Value.bool (cu z0).symm,by rw[ae z0];rfl⟩
 refine ZBV ?_
 refine ZEm ?_
 exact Wx
def aIH(b:Nat)(s m h day sub:Int)(halt carry:Bool)(d0 d1 d2 d3 d4:Int)(k:0<=m/\m<256)(w:AI)(hst:St w [b] [(b,J [.int .u8 s,.int .u8 m,.int .u8 h,.int .i64 day,.int .i64 sub,.bool halt,.bool carry,.int .u8 d0,.int .u8 d1,.int .u8 d2,.int .u8 d3,.int .u8 d4] 133)] w):aG prog 338 [.pointer (some ⟨b,1,none⟩),.int .u8 63,.int .u8 60] w [b] (λv H=>v= .bool (decide ((m+1)%64=60))/\H=[(b,J [.int .u8 s,.int .u8 (if(m+1)%64=60 then 0 else(m+1)%64),.int .u8 h,.int .i64 day,.int .i64 sub,.bool halt,.bool carry,.int .u8 d0,.int .u8 d1,.int .u8 d2,.int .u8 d3,.int .u8 d4] 133)]):=by
 refine cG func338 hst ?_
 refine cL ?_
 refine sL ?_
 refine ZBI ?_
 refine RW (v:=(.int .u8 ((m+1)%64))) (cM U U) U (M Z (eI (p:=λx=>aQ .u8 ((x+1)%256) 63=(x+1)%64) eW k.1 k.2)) (kR ?_)
 refine cL ?_
 refine KC (λq0 z0=>?_) (λq0 z0=>?_)
 ·refine ZBV ?_
  exact EV U aJ ⟨M Value.bool (cu z0).symm,by rw[ae z0];rfl⟩
 refine ZBV ?_
 refine ZEm ?_
 exact Wx
def aGL(b:Nat)(s m h day sub:Int)(halt carry:Bool)(d0 d1 d2 d3 d4:Int)(k:0<=h/\h<256)(w:AI)(hst:St w [b] [(b,J [.int .u8 s,.int .u8 m,.int .u8 h,.int .i64 day,.int .i64 sub,.bool halt,.bool carry,.int .u8 d0,.int .u8 d1,.int .u8 d2,.int .u8 d3,.int .u8 d4] 133)] w):aG prog 338 [.pointer (some ⟨b,2,none⟩),.int .u8 31,.int .u8 24] w [b] (λv H=>v= .bool (decide ((h+1)%32=24))/\H=[(b,J [.int .u8 s,.int .u8 m,.int .u8 (if(h+1)%32=24 then 0 else(h+1)%32),.int .i64 day,.int .i64 sub,.bool halt,.bool carry,.int .u8 d0,.int .u8 d1,.int .u8 d2,.int .u8 d3,.int .u8 d4] 133)]):=by
 refine cG func338 hst ?_
 refine cL ?_
 refine sL ?_
 refine ZBI ?_
 refine RW (v:=(.int .u8 ((h+1)%32))) (cM U U) U (M Z (eI (p:=λx=>aQ .u8 ((x+1)%256) 31=(x+1)%32) eW k.1 k.2)) (kR ?_)
 refine cL ?_
 refine KC (λq0 z0=>?_) (λq0 z0=>?_)
 ·refine ZBV ?_
  exact EV U aJ ⟨M Value.bool (cu z0).symm,by rw[ae z0];rfl⟩
 refine ZBV ?_
 refine ZEm ?_
 exact Wx
def aPb(b:Nat)(c:Ck)(hc:c.Fo)(w:AI)(hst:St w [b] [(b,J (nX c) 133)] w):aG prog 312 [P_ b] w [b] (λv H=>v= .tuple #[]/\H=[(b,J (nX (secCk c)) 133)]):=by
 obtain⟨s,m,h,day,sub,halt,carry,d0,d1,d2,d3,d4⟩:=c
 obtain⟨k1,k2,k3,k4,k5⟩:=hc
 dsimp only at k1 k2 k3 k4
 refine cG func312 hst ?_
 refine aH ?_
 refine W (iB K_ U (kK (aQu b s m h day sub halt carry d0 d1 d2 d3 d4 k1))) U (ZBI ?_)
 refine KL (λq0 z0=>?_) (λq0 z0=>?_)
 ·refine Aa ?_
  have e1:¬(s+1)%64=60:=by simpa using q0
  exact EN aJ ⟨U,by unfold secCk dayCk;simp only[e1,ne_eq,not_true_eq_false,not_false_eq_true,if_true,if_false];rfl⟩
 refine ZA2 ?_
 refine W (iB K_ U (kK (aIH b (if(s+1)%64=60 then 0 else(s+1)%64) m h day sub halt carry d0 d1 d2 d3 d4 k2))) U (ZAm ?_)
 refine KL (λq1 z1=>?_) (λq1 z1=>?_)
 ·refine bW ?_
  have e1:(s+1)%64=60:=by simpa using q0
  have e2:¬(m+1)%64=60:=by simpa using q1
  exact EN aJ ⟨U,by unfold secCk dayCk;simp only[e1,e2,ne_eq,not_true_eq_false,not_false_eq_true,if_true,if_false];rfl⟩
 refine ZA2 ?_
 refine W (iB K_ U (kK (aGL b (if(s+1)%64=60 then 0 else(s+1)%64) (if(m+1)%64=60 then 0 else(m+1)%64) h day sub halt carry d0 d1 d2 d3 d4 k3))) U (ZA2 ?_)
 refine KC (λq2 z2=>?_) (λq2 z2=>?_)
 ·refine ZBI ?_
  have e1:(s+1)%64=60:=by simpa using q0
  have e2:(m+1)%64=60:=by simpa using q1
  have e3:¬(h+1)%32=24:=by simpa using q2
  exact EN aJ ⟨U,by unfold secCk dayCk;simp only[e1,e2,e3,ne_eq,not_true_eq_false,not_false_eq_true,if_true,if_false];rfl⟩
 refine ZCy ?_
 refine gY ?_
 refine ZAm ?_
 refine ZEm ?_
 refine bW ?_
 refine KC (λq3 z3=>?_) (λq3 z3=>?_)
 ·refine ZBV ?_
  refine qO ?_
  refine ZEm ?_
  refine ZBI ?_
  have e1:(s+1)%64=60:=by simpa using q0
  have e2:(m+1)%64=60:=by simpa using q1
  have e3:(h+1)%32=24:=by simpa using q2
  have e4:=z3
  exact EN aJ ⟨U,aAG⟩
 refine ZBI ?_
 have e1:(s+1)%64=60:=by simpa using q0
 have e2:(m+1)%64=60:=by simpa using q1
 have e3:(h+1)%32=24:=by simpa using q2
 have e4:=z3
 exact EN aJ ⟨U,aAG⟩
def tickCk_fn(c:Ck)(hc:c.Ok)(w:AI):aG prog 327 [.agg (nX c).toArray,.int .i64 1] w [] (V_ (.agg (nX (tickCk c)).toArray)):=by
 obtain⟨s,m,h,day,sub,halt,carry,d0,d1,d2,d3,d4⟩:=c
 obtain⟨⟨k1,k2,k3,k4,k5⟩,k6⟩:=hc
 dsimp only at k1 k2 k3 k4 k6
 have hf9:(⟨s,m,h,day,sub+1,halt,carry,d0,d1,d2,d3,d4⟩:Ck).Fo:=⟨k1,k2,k3,k4,k5⟩
 have hsub9:∀k:Nat,(rR (⟨s,m,h,day,sub+1,halt,carry,d0,d1,d2,d3,d4⟩:Ck) k).sub=sub+1-1048576*k:=λk=>Zo _ k
 refine aT func327 ?_
 refine ZAm ?_
 refine Wb λb0=>?_
 refine jT λb1=>?_
 refine aH ?_
 refine KL (λq0 z0=>?_) (λq0 z0=>?_)
 ·refine ZCy ?_
  refine W (bJ U U U Vh) U (qO ?_)
  obtain rfl:=q0
  exact aU (λw hw=>eL U U U (aI (b:=b1) aE w hw)) ⟨U,by unfold tickCk;rw[ag rfl];rfl⟩
 refine ZAm ?_
 refine iO ?_
 refine ZE1 ?_
 refine RY (tD U U) U (gY ?_)
 refine kN ?_
 refine dK (σ:=Nat) [18,19,20,21,22,23,24,25] (λ_=>[]) (λk=>[(b1,J [.int .u8 0,.int .u8 0,.int .u8 0,.int .i64 0,.int .i64 0,.bool false,.bool false,.int .u8 0,.int .u8 0,.int .u8 0,.int .u8 0,.int .u8 0] 133),(b0,J (nX (rR (⟨s,m,h,day,sub+1,halt,carry,d0,d1,d2,d3,d4⟩:Ck) k)) 133)]) (λk=>1048576*(k:Int)<=sub+1) (λk=>((sub+1)/1048576).toNat-k) 0 ?_ ?_ ?_ ?_
 ·show(1048576:Int)*(0:Nat)<=sub+1;omega
 ·exact .nil
 ·exact λ_ h=>h
 rintro k y4 hk
 dsimp only at hk⊢
 have hs9:=hsub9 k
 refine ZBZ ?_
 refine W (aW U U (bT (v:= .int .i64 (rR (⟨s,m,h,day,sub+1,halt,carry,d0,d1,d2,d3,d4⟩:Ck) k).sub) aE U)) U (ZAm ?_)
 refine KC (λq1 z1=>?_) (λq1 z1=>?_)
 ·refine aH ?_
  refine oE ?_
  refine ZBI ?_
  refine qO ?_
  refine RX (cB (F:=[(b1,_)]) (A:=[(b0,_)]) K_ U (dG (aPb b0 {rR (⟨s,m,h,day,sub+1,halt,carry,d0,d1,d2,d3,d4⟩:Ck) k with sub:=(rR (⟨s,m,h,day,sub+1,halt,carry,d0,d1,d2,d3,d4⟩:Ck) k).sub-1048576} ((hf9.secs k).sub_ _)))) U (ZBB ?_)
  refine ZBI ?_
  exact⟨k+1,aR,aR,.nil,bB,λ_ h=>h.as (by rw[aHU];rfl)⟩
 refine ZA2 ?_
 refine W (bJ U U U Vh) U (qO ?_)
 obtain rfl:=q0
 exact aU (λw hw=>eL U U U (aI (b:=b1) aE w hw)) ⟨U,by unfold tickCk;rw[ae Bool.false_ne_true];dsimp only;rw[show((sub+1)/1048576).toNat=k by omega];rfl⟩
def aDU(n:Int)(x:Bool)(hn:n=6\/n=7)(w:AI):aG prog 350 [.int .i64 n,.bool x] w [] (V_ (.int .u8 (mE x (if n=6 then 64 else 128)))):=by
 refine aT func350 ?_
 refine bW ?_
 refine KC (λq0 z0=>?_) (λq0 z0=>?_)
 ·refine ZBI ?_
  rcases hn with rfl|rfl
  ·refine ZAm ?_
   refine RY (iK U U I) U (ZA2 ?_)
   exact E0 U ⟨U,(by unfold mE;rw[ag q0];rfl)⟩
  refine ZAm ?_
  refine RY (iK U U I) U (ZA2 ?_)
  exact E0 U ⟨U,(by unfold mE;rw[ag q0];rfl)⟩
 refine aH ?_
 exact E0 U ⟨U,(by unfold mE;rw[ae (by rw[q0];decide)])⟩
def aMg(c:Ck)(hc:c.Ok)(w:AI):aG prog 339 [.agg (nX c).toArray] w [] (V_ (.agg (nX (Bx c)).toArray)):=by
 obtain⟨s,m,h,day,sub,halt,carry,d0,d1,d2,d3,d4⟩:=c
 obtain⟨⟨k1,k2,k3,k4,k5⟩,k6⟩:=hc
 dsimp only at k1 k2 k3 k4 k6
 refine aT func339 ?_
 refine ZAm ?_
 refine Wb λb0=>?_
 refine jT λb1=>?_
 refine ZAm ?_
 refine DR [2,3,4,5,6,7,8,9,10,11,12,13,14,15,16,17,18,19,20,21] (bQ [0,2,4,6,8,10,12,14,16,18,20,22,24,26,28,30,36,38,33,34,41,42,44,46,49]) ?_
 refine ZE1 ?_
 refine wG ?_
 refine ZAm ?_
 refine Sj ?_
 refine DW U (cM U U) U Eo (ZBZ ?_)
 refine DZ U (cZ K_ U (aS (aDU 6 halt aD))) U gV (DY U (dE U U) U (DZ U (cZ K_ U (aS (aDU 7 carry aD))) U gV (DW (v:=(.int .u8 (day/256%2+mE halt 64+mE carry 128))) U (dE U U) U (M Z ((M (λz=>bI .u8 (bI .u8 z (mE halt 64)) (mE carry 128)) (show day/256%256%2=day/256%2 by omega)).trans (aF5 I halt carry))) ?_)))
 refine DY U (De (l:=[.int .u8 s,.int .u8 m,.int .u8 h,.int .u8 (day%256),.int .u8 (day/256%2+mE halt 64+mE carry 128)]) (z:=[.int .u8 0,.int .u8 0,.int .u8 0,.int .u8 0,.int .u8 0]) (ps:=[(0,.int .u8 s),(1,.int .u8 m),(2,.int .u8 h),(3,.int .u8 (day%256)),(4,.int .u8 (day/256%2+mE halt 64+mE carry 128))]) U U U U) U (ZBI ?_)
 refine DZ U iF U aY (ZA2 ?_)
 exact W (bJ U U U Vh) U Sl
def aQh(c:Ck)(hc:c.Ok)(n:Int)(w:AI):aG prog 161 [.agg (nX c).toArray,.int .i64 n] w [] (V_ (.int .u8 (Ee n c))):=by
 obtain⟨s,m,h,day,sub,halt,carry,d0,d1,d2,d3,d4⟩:=c
 obtain⟨⟨k1,k2,k3,k4,k5⟩,k6⟩:=hc
 dsimp only at k1 k2 k3 k4 k6
 refine aT func161 ?_
 refine ZAm ?_
 refine Wb λb0=>?_
 refine ZCy ?_
 refine KL (λq0 z0=>?_) (λq0 z0=>?_)
 ·refine cL ?_
  exact E0 U ⟨U,(by unfold Ee;rw[ag I])⟩
 refine ZBZ ?_
 refine KC (λq1 z1=>?_) (λq1 z1=>?_)
 ·refine ZBV ?_
  exact E0 U ⟨U,(by unfold Ee;rw[ag I])⟩
 refine ZAm ?_
 rcases(show n=0\/n=1\/n=2\/n=3\/n=4 by omega)with rfl|rfl|rfl|rfl|rfl
 ·refine ZA2 ?_
  exact RY (eB 0 U U U U aD) U pF
 ·refine ZA2 ?_
  exact RY (eB 1 U U U U aD) U pF
 ·refine ZA2 ?_
  exact RY (eB 2 U U U U aD) U pF
 ·refine ZA2 ?_
  exact RY (eB 3 U U U U aD) U pF
 refine ZA2 ?_
 exact RY (eB 4 U U U U aD) U pF
def aPc(c:Ck)(hc:c.Ok)(n x:Int)(hx:0<=x/\x<256)(w:AI):aG prog 286 [.agg (nX c).toArray,.int .i64 n,.int .u8 x] w [] (V_ (.agg (nX (writeCk n x c)).toArray)):=by
 obtain⟨s,m,h,day,sub,halt,carry,d0,d1,d2,d3,d4⟩:=c
 obtain⟨⟨k1,k2,k3,k4,k5⟩,k6⟩:=hc
 dsimp only at k1 k2 k3 k4 k6
 refine aT func286 ?_
 refine ZAm ?_
 refine Wb λb0=>?_
 refine jT λb1=>?_
 refine fG ?_
 refine KC (λq0 z0=>?_) (λq0 z0=>?_)
 ·refine ZAm ?_
  refine RW (cM U U) U T1 (kR ?_)
  refine kN ?_
  exact Ex
 refine ZBV ?_
 refine KC (λq1 z1=>?_) (λq1 z1=>?_)
 ·refine ZAm ?_
  refine RW (cM U U) U T1 (kN ?_)
  exact Ex
 refine ZBV ?_
 refine KC (λq2 z2=>?_) (λq2 z2=>?_)
 ·refine ZAm ?_
  refine RW (cM U U) U aE4 (kN ?_)
  exact Ex
 refine ZBV ?_
 refine KC (λq3 z3=>?_) (λq3 z3=>?_)
 ·refine ZA2 ?_
  refine RW (v:=(.int .i64 (day/256*256))) (zS U U) U (M (Value.int .i64) (X7 (n:=day) I I)) (rH ?_)
  refine RW (v:=(.int .i64 (day/256*256+x))) (dE U U) U (M (Value.int .i64) (Wj (A:=day/256*256) I I I hx)) (kN ?_)
  exact Ex
 refine ZBV ?_
 refine KC (λq4 z4=>?_) (λq4 z4=>?_)
 ·refine ZBZ ?_
  refine RW (v:=(.int .i64 (day%256))) (cM U U) U (M (Value.int .i64) (Y4 day)) (ZBI ?_)
  refine RW (cM U U) U Eo (eR ?_)
  refine RW (iK U U aD) U Ma (RW (v:=(.int .i64 (day%256+x%2*256))) (dE U U) U (M (Value.int .i64) (Rb (A:=x%2*256) I I I I)) (kN ?_))
  refine RW (cM U U) U J5 (RW (v:=(.bool (decide (x/64%2=1)))) U U (M Value.bool A0) (ZBI ?_))
  refine Ej ?_
  refine RW (v:=(.bool (decide (x/128=1)))) U U (M Value.bool A0) (kR ?_)
  refine kN ?_
  exact Ex
 refine ZA2 ?_
 exact Ex
end Go.Proofs.YtacejanlmhbddaaGreat
