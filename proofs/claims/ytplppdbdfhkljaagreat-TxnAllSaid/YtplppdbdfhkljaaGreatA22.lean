/-
  TxnAll: what a transaction's operation does, on the code's side and on the document's.
-/
import Derived.Test.YtplppdbdfhkljaaGreatA21
set_option maxRecDepth 100000
set_option maxHeartbeats 16000000
section
set_option linter.unusedSimpArgs false
set_option linter.unusedVariables false
namespace Go.Proofs.YtplppdbdfhkljaaGreat
open Go.RowKit Go.MapKept Go.ChangeMaps
structure PuAt(D:Dk)(n:Nat)(gs:Nat→Gn)(sl:Nat→Sl)(K:Int):Prop where
 pos:0<n
 live:Live D (gs (n-1)).J
 on:D.On
 n72:D.n=72
 gen:∀i,i<n→((gs i).J.used=0↔(gs i).J.keys D.n=[])∧(gs i).J.last.ring=20∧(gs i).J.last.number≤K∧(gs i).J.turn≤K∧(gs i).J.used≤5000
 dead:∀i,i+1<n→(gs i).J.lives<D.lives
 life:0≤D.lives∧D.lives≤K
 sl:∀i,i<3→∀T M,(sl i).live=some (T,M)→(sl i).gen<n∧MOk M 50∧cntM M 50≤40
theorem PuAt.homes{D:Dk}{n:Nat}{gs:Nat→Gn}{sl:Nat→Sl}{K:Int}(h:PuAt D n gs sl K){i:Nat}(hi:i<n):(gs i).J.homes D.n=50:=by
 unfold Jn.homes;rw[h.n72,(h.gen i hi).2.1]
theorem PuAt.may{D:Dk}{n:Nat}{gs:Nat→Gn}{sl:Nat→Sl}{K:Int}(h:PuAt D n gs sl K){i:Nat}(hi:i+1<n):(gs i).J.may D≠0:=by
 have:=h.dead i hi
 unfold Jn.may
 rw[if_pos (.inr (by omega))];decide
theorem upF_self{α:Type}(f:Nat→α)(i:Nat):upF f i (f i)=f:=by
 funext k
 unfold upF
 split
 ·rename_i e;rw[e]
 ·rfl
theorem read_done{J:Jn}{D:Dk}(hoff:D.off=false)(i:Int):(J.read D i).2.2=J.done:=by
 unfold Jn.read
 split
 ·rfl
 ·rename_i hm
  split
  ·rfl
  ·split
   ·rfl
   ·rw[hoff]
    have:J.done=false:=by
     by_cases e:J.done=true
     ·exact absurd (by unfold Jn.may;rw[if_pos (.inl e)];decide) hm
     ·simpa using e
    rw[this];rfl
theorem readTx_done{J:Jn}{D:Dk}(hoff:D.off=false)(M:Nat→Option Sec)(i:Int):(readTx J D M i).2.2=J.done:=by
 unfold readTx
 split
 ·rfl
 ·exact read_done hoff i
theorem cnt_wr{M:Nat→Option Sec}{i:Int}{b:List UInt8}(ho:MOk M 50)(h:cntM M 50≤40):cntM (wrM M 50 i b) 50≤40:=by
 unfold wrM
 split
 ·rename_i e
  obtain⟨h0,h1,_,h3⟩:=wrE_ok e
  rw[cntM_put ho (by omega)]
  split
  ·exact h
  ·rename_i hn
   have:=h3 (by simpa using hn)
   omega
 ·exact h
theorem com_lives(J:Jn)(D:Dk)(l:List Put):(J.com D l).lives=J.lives:=by
 have hput:∀(J:Jn) (D:Dk),(J.put D l).lives=J.lives:=fun J D=>by unfold Jn.put;split<;>rfl
 have hck:(J.ck D).lives=J.lives:=by
  unfold Jn.ck Jn.settle
  split
  ·rfl
  ·split
   ·rfl
   ·split
    ·rfl
    ·split<;>rfl
 unfold Jn.com
 split
 ·rfl
 ·split
  ·rfl
  ·split
   ·rfl
   ·split
    ·rfl
    ·split
     ·split
      ·exact hck
      ·rw[hput];exact hck
     ·exact hput J D
def wE(s:Sl)(i:Int)(len:Nat):Int:=match s.live with
 | none=>5
 | some (_,M)=>wrE M 50 i len
def wS(s:Sl)(i:Int)(b:List UInt8):Sl:=match s.live with
 | none=>s
 | some (T,M)=> { s with live:=some (T,wrM M 50 i b) }
theorem wS_live{s:Sl}{T:Int}{M:Nat→Option Sec}(h:s.live=some (T,M))(i:Int)(b:List UInt8):wS s i b = { s with live:=some (T,wrM M 50 i b) }:=by unfold wS;rw[h]
theorem wS_none{s:Sl}(h:s.live=none)(i:Int)(b:List UInt8):wS s i b=s:=by unfold wS;rw[h]
theorem co_write{w:World}{F:Nat→Prop}{g:DG}{D:Dk}{n:Nat}{gs:Nat→Gn}{sl:Nat→Sl}{K:Int}(h:CoAt w F g D n gs sl)(hp:PuAt D n gs sl K){i:Nat}(hi:i<3)(hF:∀k,w.heap.size≤k→F k)(I:Int)(v:Value)(b:List UInt8)(hr:Rd w v b)(hb:b.length≤1000000) :
  Calls Tryz.prog 64 #[.pointer (some ⟨(sl i).tb,0,none⟩),.int .i64 I,v] w fun e w'=>e=.returned (.int .i64 (wE (sl i) I b.length))∧CoAt w' F g D n gs (upF sl i (wS (sl i) I b))∧∃S,Upd S w w'∧∀k,k∈S→(sl i).live≠none∧k=(sl i).wb:=by
 have ht:=h.tx i hi
 cases hl:(sl i).live with
 | none=>
  unfold CoSl at ht
  rw[hl] at ht
  obtain⟨T,hT⟩:=ht
  obtain⟨a,c,e,_⟩:=id hr
  subst e
  refine(writeT_over (.inr ⟨_,T,rfl,hT⟩) I a b.length c).mono ?_
  rintro e w' ⟨rfl,k,rfl⟩
  refine⟨by unfold wE;rw[hl],?_,[],(Upd.refl _ _).drewN k,by simp⟩
  rw[wS_none hl,upF_self]
  exact h.below ((Upd.refl _ _).drewN k)
 | some p=>
  obtain⟨T,M⟩:=p
  have ht2:=ht
  unfold CoSl at ht
  rw[hl] at ht
  obtain⟨t1,t2,t3,t4⟩:=ht
  obtain⟨_,p2,p3⟩:=hp.sl i hi T M hl
  have hj:=h.jn _ t1
  obtain⟨b1,b2⟩:=t2.codes
  obtain⟨j1,_,j3,j4,j5⟩:=hj.kinds
  have hne:(sl i).wb∉((gs (sl i).gen).j g).all:=fun q=>by
   simp only[JG.all,List.mem_cons,List.not_mem_nil,or_false] at q
   have b2':kd w (sl i).wb=none:=b2
   rcases q with q | q | q | q | q
   ·rw[q,j1] at b2';exact absurd b2' (by decide)
   ·exact t4 _ t1 q
   ·rw[q,j3] at b2';exact absurd b2' (by decide)
   ·rw[q,j4] at b2';exact absurd b2' (by decide)
   ·exact t3 q
  refine(writeT_spec (t:=⟨(sl i).tb,(sl i).wb,F⟩) (j:=(gs (sl i).gen).j g) t2 hF hj hne p2 (hp.homes t1) I v b hr hb).mono ?_
  rintro e w' ⟨rfl,e2,e3,e4⟩
  refine⟨by unfold wE;rw[hl],?_,[(sl i).wb],e4,fun k hk=>⟨by simp,by simpa using hk⟩⟩
  have:=h.step (y:=(sl i).gen) (i:=i) (s':=wS (sl i) I b) e4 hi t1 e3 rfl (fun k hk=> .inr (.inl ⟨by rw[hl];simp,by simpa using hk⟩)) (by
   rw[wS_live hl]
   exact⟨t1,e2,t3,t4⟩) (by rw[wS_live hl]) (fun _=>⟨by rw[hl];simp,by rw[wS_live hl]⟩)
  rw[upF_self] at this
  exact this
theorem do_write{w:World}{r:RG}{D:Dk}{n:Nat}{gs:Nat→Gn}{sl:Nat→Sl}{K:Int}(h:DoAt w r D n gs sl)(hp:PuAt D n gs sl K){i:Nat}(hi:i<3)(I:Int)(b:List UInt8) :
  Calls Tryz.prog 88 #[.pointer (some ⟨(sl i).x.tb,0,none⟩),.int .i64 I,.string (str b)] w fun e w'=>e=.returned (.int .i64 (wE (sl i) I b.length))∧DoAt w' r D n gs (upF sl i (wS (sl i) I b))∧∃S,Upd S w w'∧∀k,k∈S→k=(sl i).x.ob:=by
 have ht:=h.tx i hi
 cases hl:(sl i).live with
 | none=>
  obtain⟨a,_⟩:=ht
  rw[hl] at a
  obtain⟨jb,T,M,a,_⟩:=a
  refine(rtwrite_over a I (str b)).mono ?_
  rintro e w' ⟨rfl,rfl⟩
  refine⟨by unfold wE;rw[hl],?_,[],Upd.refl _ _,by simp⟩
  rw[wS_none hl,upF_self];exact h
 | some p=>
  obtain⟨T,M⟩:=p
  have ht2:=ht
  obtain⟨a,a2⟩:=ht
  rw[hl] at a
  have a:RtAt w (sl i).x (gs (sl i).gen).q.jb T M 50 false:=a
  obtain⟨p1,p2,p3⟩:=hp.sl i hi T M hl
  refine(rtwrite_spec a p2 I b).mono ?_
  rintro e w' ⟨rfl,e2,e3⟩
  refine⟨by unfold wE;rw[hl],?_,[(sl i).x.ob],e3,fun k hk=>by simpa using hk⟩
  have hj:=h.jq _ p1
  have:=h.step (y:=(sl i).gen) (i:=i) (s':=wS (sl i) I b) (J':=(gs (sl i).gen).J) (D':=D) e3 hi p1 (hj.1.upd e3 (fun k hk q=>by
   have hk2:k=(sl i).x.ob:=by simpa using q
   have hd:=a.kinds.2
   obtain⟨k1,k2,k3⟩:=hj.1.kinds
   obtain⟨r1,_,_⟩:=h.rdk.kinds
   unfold QG.all at hk
   rw[List.mem_append,QG.mem_own,hj.2] at hk
   rcases hk with(c | c | c) | c
   ·rw[← hk2,c,k1] at hd;exact absurd hd (by decide)
   ·rw[← hk2,c,k2] at hd;exact absurd hd (by decide)
   ·exact a2.2.2 _ p1 (hk2.symm.trans c)
   ·simp[RG.all] at c
    rcases c with c | c | c
    ·rw[← hk2,c,r1] at hd;exact absurd hd (by decide)
    ·exact a2.1 (hk2.symm.trans c)
    ·exact a2.2.1 (hk2.symm.trans c))) rfl (fun k hk=> .inr (.inl (by simpa using hk))) (by
   rw[wS_live hl]
   exact⟨e2,a2⟩) (by rw[wS_live hl])
  rw[upF_self] at this
  exact this
theorem pu_write{D:Dk}{n:Nat}{gs:Nat→Gn}{sl:Nat→Sl}{K:Int}(hp:PuAt D n gs sl K){i:Nat}(hi:i<3)(I:Int)(b:List UInt8):PuAt D n gs (upF sl i (wS (sl i) I b)) K:=by
 refine⟨hp.pos,hp.live,hp.on,hp.n72,hp.gen,hp.dead,hp.life,fun k hk T M hl=>?_⟩
 by_cases e:k=i
 ·subst e
  rw[upF_same] at hl ⊢
  cases h0:(sl k).live with
  | none=>
   rw[wS_none h0] at hl ⊢
   exact hp.sl k hk T M hl
  | some p=>
   obtain⟨T0,M0⟩:=p
   rw[wS_live h0] at hl ⊢
   obtain⟨a,b2,c⟩:=hp.sl k hk T0 M0 h0
   injection hl with hl
   injection hl with _ hl
   subst hl
   exact⟨a,b2.wr I b,cnt_wr b2 c⟩
 ·rw[upF_ne _ _ e] at hl ⊢
  exact hp.sl k hk T M hl
def rV(s:Sl)(gs:Nat→Gn)(D:Dk)(i:Int):List UInt8 × Int:=match s.live with
 | none=>([],5)
 | some (_,M)=>((readTx (gs s.gen).J D M i).1,(readTx (gs s.gen).J D M i).2.1)
theorem co_read{w:World}{F:Nat→Prop}{g:DG}{D:Dk}{n:Nat}{gs:Nat→Gn}{sl:Nat→Sl}{K:Int}(h:CoAt w F g D n gs sl)(hp:PuAt D n gs sl K){i:Nat}(hi:i<3)(I:Int) :
  Calls Tryz.prog 89 #[.pointer (some ⟨(sl i).tb,0,none⟩),.int .i64 I] w fun e w'=>∃v,e=.returned (.tuple #[v,.int .i64 (rV (sl i) gs D I).2])∧OwnN w' 5 (fun k=>w.heap.size≤k) v (rV (sl i) gs D I).1∧CoAt w' F g D n gs sl∧∃S,Upd S w w'∧∀k,k∈S→(sl i).live≠none∧k=(gs (sl i).gen).jb:=by
 have ht:=h.tx i hi
 cases hl:(sl i).live with
 | none=>
  unfold CoSl at ht
  rw[hl] at ht
  obtain⟨T,hT⟩:=ht
  refine(readT_over (.inr ⟨_,T,rfl,hT⟩) I).mono ?_
  rintro e w' ⟨rfl,k,rfl⟩
  refine⟨_,by unfold rV;rw[hl],.inr ⟨by unfold rV;rw[hl],rfl⟩,h.below ((Upd.refl _ _).drewN k),[],(Upd.refl _ _).drewN k,by simp⟩
 | some p=>
  obtain⟨T,M⟩:=p
  have ht2:=ht
  unfold CoSl at ht
  rw[hl] at ht
  obtain⟨t1,t2,t3,t4⟩:=ht
  obtain⟨_,p2,p3⟩:=hp.sl i hi T M hl
  have hj:=h.jn _ t1
  obtain⟨b1,b2⟩:=t2.codes
  obtain⟨j1,_,j3,j4,j5⟩:=hj.kinds
  have hne:(sl i).wb∉((gs (sl i).gen).j g).all:=fun q=>by
   simp only[JG.all,List.mem_cons,List.not_mem_nil,or_false] at q
   have b2':kd w (sl i).wb=none:=b2
   rcases q with q | q | q | q | q
   ·rw[q,j1] at b2';exact absurd b2' (by decide)
   ·exact t4 _ t1 q
   ·rw[q,j3] at b2';exact absurd b2' (by decide)
   ·rw[q,j4] at b2';exact absurd b2' (by decide)
   ·exact t3 q
  refine(readT_spec (t:=⟨(sl i).tb,(sl i).wb,F⟩) (j:=(gs (sl i).gen).j g) t2 hj hne p2 I).mono ?_
  rintro e w' ⟨v,rfl,e2,e3,e4,e5⟩
  have e3':JnAt w' F ((gs (sl i).gen).j g) (gs (sl i).gen).J D:=by
   rw[readTx_done hp.on.1] at e3;exact e3
  refine⟨v,by unfold rV;rw[hl],by unfold rV;rw[hl];exact e2,?_,[(gs (sl i).gen).jb],e5,fun k hk=>⟨by simp,List.mem_singleton.1 hk⟩⟩
  have:=h.step (y:=(sl i).gen) (i:=i) (s':=sl i) e5 hi t1 e3' rfl (fun k hk=> .inr (.inr (by
   have hk2:k=(gs (sl i).gen).jb:=List.mem_singleton.1 hk
   rw[hk2];simp[JG.all,Gn.j]))) (by
   unfold CoSl;rw[hl]
   exact⟨t1,e4,t3,t4⟩) rfl (fun q=>⟨q,rfl⟩)
  rw[upF_self,upF_self] at this
  exact this
theorem do_read{w:World}{r:RG}{D:Dk}{n:Nat}{gs:Nat→Gn}{sl:Nat→Sl}{K:Int}(h:DoAt w r D n gs sl)(hp:PuAt D n gs sl K){i:Nat}(hi:i<3)(I:Int) :
  Calls Tryz.prog 90 #[.pointer (some ⟨(sl i).x.tb,0,none⟩),.int .i64 I] w fun e w'=>e=.returned (.tuple #[strV (rV (sl i) gs D I).1,.int .i64 (rV (sl i) gs D I).2])∧Upd [] w w':=by
 have ht:=h.tx i hi
 cases hl:(sl i).live with
 | none=>
  obtain⟨a,_⟩:=ht
  rw[hl] at a
  obtain⟨jb,T,M,a,_⟩:=a
  refine(rtread_over a I).mono ?_
  rintro e w' ⟨rfl,rfl⟩
  exact⟨by unfold rV;rw[hl];rfl,Upd.refl _ _⟩
 | some p=>
  obtain⟨T,M⟩:=p
  obtain⟨a,a2⟩:=ht
  rw[hl] at a
  have a:RtAt w (sl i).x (gs (sl i).gen).q.jb T M 50 false:=a
  obtain⟨p1,p2,p3⟩:=hp.sl i hi T M hl
  refine(rtread_spec a (h.jq _ p1).1 p2 I).mono ?_
  rintro e w' ⟨rfl,e2⟩
  exact⟨by unfold rV;rw[hl],e2⟩
def tch(s:Sl):Nat:=match s.live with
 | none=>0
 | some (_,M)=>cntM M 50
theorem co_touched{w:World}{F:Nat→Prop}{g:DG}{D:Dk}{n:Nat}{gs:Nat→Gn}{sl:Nat→Sl}{K:Int}(h:CoAt w F g D n gs sl)(hp:PuAt D n gs sl K){i:Nat}(hi:i<3) :
  Calls Tryz.prog 10 #[.pointer (some ⟨(sl i).tb,0,none⟩)] w fun e w'=>e=.returned (.int .i64 (tch (sl i):Int))∧Upd [] w w':=by
 have ht:=h.tx i hi
 cases hl:(sl i).live with
 | none=>
  unfold CoSl at ht
  rw[hl] at ht
  obtain⟨T,hT⟩:=ht
  refine(touched_over (.inr ⟨_,T,rfl,hT⟩)).mono ?_
  rintro e w' ⟨rfl,k,rfl⟩
  exact⟨by unfold tch;rw[hl];rfl,(Upd.refl _ _).drewN k⟩
 | some p=>
  obtain⟨T,M⟩:=p
  unfold CoSl at ht
  rw[hl] at ht
  obtain⟨t1,t2,t3,t4⟩:=ht
  obtain⟨_,p2,p3⟩:=hp.sl i hi T M hl
  refine(touched_spec (t:=⟨(sl i).tb,(sl i).wb,F⟩) t2 p2).mono ?_
  rintro e w' ⟨rfl,k,rfl⟩
  exact⟨by unfold tch;rw[hl],(Upd.refl _ _).drewN k⟩
theorem do_touched{w:World}{r:RG}{D:Dk}{n:Nat}{gs:Nat→Gn}{sl:Nat→Sl}{K:Int}(h:DoAt w r D n gs sl)(hp:PuAt D n gs sl K){i:Nat}(hi:i<3) :
  Calls Tryz.prog 37 #[.pointer (some ⟨(sl i).x.tb,0,none⟩)] w fun e w'=>e=.returned (.int .i64 (tch (sl i):Int))∧w=w':=by
 have ht:=h.tx i hi
 cases hl:(sl i).live with
 | none=>
  obtain⟨a,_⟩:=ht
  rw[hl] at a
  obtain⟨jb,T,M,a,b⟩:=a
  refine(rtouched_spec a b).mono ?_
  rintro e w' ⟨rfl,rfl⟩
  exact⟨by unfold tch;rw[hl];rfl,rfl⟩
 | some p=>
  obtain⟨T,M⟩:=p
  obtain⟨a,a2⟩:=ht
  rw[hl] at a
  have a:RtAt w (sl i).x (gs (sl i).gen).q.jb T M 50 false:=a
  obtain⟨p1,p2,p3⟩:=hp.sl i hi T M hl
  refine(rtouched_spec a p2).mono ?_
  rintro e w' ⟨rfl,rfl⟩
  exact⟨by unfold tch;rw[hl];rfl,rfl⟩
theorem held_hu{D:Dk}{J:Jn}(h:Held D J):J.used=0↔J.keys D.n=[]:=by
 constructor
 ·exact h.nokeys
 ·intro e
  by_cases q:J.used=0
  ·exact q
  ·exact absurd e (h.keys q)
theorem tx_dead{J:Jn}{D:Dk}(hm:J.may D≠0)(T:Int)(l:List Put):(J.txD D T l).1=D∧J.txJ D T l=J:=by
 unfold Jn.txD Jn.txJ
 split
 ·exact⟨rfl,rfl⟩
 ·unfold Jn.comD Jn.com
  rw[if_pos hm,if_pos hm]
  exact⟨rfl,rfl⟩
theorem tx_live{J:Jn}{D:Dk}(hL:Live D J)(hon:D.On)(hn:J.last.number≤1000)(ht:J.turn≤1000)(T:Int)(l:List Put) :
  Live (J.txD D T l).1 (J.txJ D T l)∧(J.txD D T l).1.On∧(J.txD D T l).1.n=D.n∧(J.txD D T l).1.lives=D.lives∧(J.txJ D T l).last.ring=J.last.ring∧(J.txJ D T l).last.number≤J.last.number+1∧(J.txJ D T l).turn≤J.turn+1:=by
 have hno:Live D J∧D.On∧D.n=D.n∧D.lives=D.lives∧J.last.ring=J.last.ring∧J.last.number≤J.last.number+1∧J.turn≤J.turn+1:=⟨hL,hon,rfl,rfl,rfl,by omega,by omega⟩
 unfold Jn.txD Jn.txJ
 by_cases h0:J.turn-1≠T
 ·rw[if_pos h0,if_pos h0];exact hno
 ·rw[if_neg h0,if_neg h0]
  by_cases hf:J.fits D.n l≠0∨l=[]
  ·obtain⟨q1,q2⟩:=hL.comNo hf
   rw[q1,q2];exact hno
  ·rw[not_or] at hf
   have hf0:J.fits D.n l=0:=by
    by_cases e:J.fits D.n l=0
    ·exact e
    ·exact absurd e hf.1
   rcases hL.com ⟨by omega,by omega⟩ (by omega) hf0 hf.2 with⟨_,q2,_,q4,q5,q6,q7,q8,_⟩ | ⟨_,q,_⟩
   ·refine⟨q2,⟨q2.held.calm.off,q8 hon.2⟩,q7,?_,q5,q6,by omega⟩
    have:=q2.held.lives
    rw[com_lives] at this
    rw[← this];exact hL.held.lives
   ·exact absurd hon.2 q
def cE(s:Sl)(gs:Nat→Gn)(D:Dk):Int:=match s.live with
 | none=>5
 | some (T,M)=>((gs s.gen).J.txD D (T-1) (txL M 50)).2
def cD(s:Sl)(gs:Nat→Gn)(D:Dk):Dk:=match s.live with
 | none=>D
 | some (T,M)=>((gs s.gen).J.txD D (T-1) (txL M 50)).1
def cG(s:Sl)(gs:Nat→Gn)(D:Dk):Nat→Gn:=match s.live with
 | none=>gs
 | some (T,M)=>upF gs s.gen { gs s.gen with J:=(gs s.gen).J.txJ D (T-1) (txL M 50) }
def cS(s:Sl):Sl:={ s with live:=none }
theorem cS_none{s:Sl}(h:s.live=none):cS s=s:=by
 obtain⟨tb,wb,x,gen,live⟩:=s
 cases h;rfl
theorem PuAt.mono{D:Dk}{n:Nat}{gs:Nat→Gn}{sl:Nat→Sl}{K K':Int}(h:PuAt D n gs sl K)(hK:K≤K'):PuAt D n gs sl K':=
 ⟨h.pos,h.live,h.on,h.n72,fun i hi=>by obtain⟨a,b,c,d,e⟩:=h.gen i hi;exact⟨a,b,by omega,by omega,e⟩,h.dead,by have:=h.life;omega,h.sl⟩
theorem pu_over{D:Dk}{n:Nat}{gs:Nat→Gn}{sl:Nat→Sl}{K:Int}(hp:PuAt D n gs sl K)(i:Nat):PuAt D n gs (upF sl i (cS (sl i))) K:=by
 refine⟨hp.pos,hp.live,hp.on,hp.n72,hp.gen,hp.dead,hp.life,fun k hk T M hl=>?_⟩
 by_cases e:k=i
 ·subst e;rw[upF_same] at hl;simp[cS] at hl
 ·rw[upF_ne _ _ e] at hl ⊢;exact hp.sl k hk T M hl
theorem pu_commit{D:Dk}{n:Nat}{gs:Nat→Gn}{sl:Nat→Sl}{K:Int}(hp:PuAt D n gs sl K)(hK:K≤1000){i:Nat}(hi:i<3):PuAt (cD (sl i) gs D) n (cG (sl i) gs D) (upF sl i (cS (sl i))) (K+1):=by
 cases hl:(sl i).live with
 | none=>
  unfold cD cG
  rw[hl]
  exact(pu_over hp i).mono (by omega)
 | some p=>
  obtain⟨T,M⟩:=p
  unfold cD cG
  rw[hl]
  obtain⟨p1,p2,p3⟩:=hp.sl i hi T M hl
  show PuAt ((gs (sl i).gen).J.txD D (T-1) (txL M 50)).1 n (upF gs (sl i).gen { gs (sl i).gen with J:=(gs (sl i).gen).J.txJ D (T-1) (txL M 50) }) (upF sl i (cS (sl i))) (K+1)
  by_cases hg:(sl i).gen+1<n
  ·obtain⟨d1,d2⟩:=tx_dead (hp.may hg) (T-1) (txL M 50)
   rw[d1,d2]
   have:upF gs (sl i).gen { gs (sl i).gen with J:=(gs (sl i).gen).J } = gs:=upF_self _ _
   rw[this]
   exact(pu_over hp i).mono (by omega)
  ·have hgn:(sl i).gen=n-1:=by omega
   obtain⟨g1,g2,g3,g4,g5⟩:=hp.gen _ p1
   have hL:=hp.live
   rw[← hgn] at hL
   obtain⟨q1,q2,q3,q4,q5,q6,q7⟩:=tx_live hL hp.on (by omega) (by omega) (T-1) (txL M 50)
   refine⟨hp.pos,?_,q2,q3.trans hp.n72,fun k hk=>?_,fun k hk=>?_,?_,(pu_over hp i).sl⟩
   ·rw[← hgn,upF_same];exact q1
   ·by_cases e:k=(sl i).gen
    ·subst e
     rw[upF_same]
     refine⟨held_hu q1.held,q5.trans g2,by show((gs (sl i).gen).J.txJ D (T-1) (txL M 50)).last.number≤K+1;omega,by show((gs (sl i).gen).J.txJ D (T-1) (txL M 50)).turn≤K+1;omega,?_⟩
     have h1:=q1.held.used
     have h2:=q1.held.jok.ring1
     show((gs (sl i).gen).J.txJ D (T-1) (txL M 50)).used≤5000
     omega
    ·rw[upF_ne _ _ e,q3]
     obtain⟨a,b,c,d,f⟩:=hp.gen k hk
     exact⟨a,b,by omega,by omega,f⟩
   ·rw[upF_ne _ _ (by omega),q4];exact hp.dead k hk
   ·rw[q4];have:=hp.life;omega
theorem over_tb{w:World}{tb:Nat}(h:OverV w (.pointer (some ⟨tb,0,none⟩))):∃T:Int,w.heap[tb]?=some (.cells #[.pointer none,.int .u64 T,.map none] 101 (0,0)):=by
 rcases h with h | ⟨t,T,e,hb⟩
 ·cases h
 ·cases e;exact⟨T,hb⟩
theorem CoSl.out{w:World}{F:Nat→Prop}{g:DG}{D:Dk}{n:Nat}{gs:Nat→Gn}{sl:Nat→Sl}(h:CoAt w F g D n gs sl){i:Nat}(hi:i<3)(hl:(sl i).live≠none){y:Nat}(hy:y<n):(sl i).wb∉((gs y).j g).all:=fun q=>by
 obtain⟨_,_,k3⟩:=(h.tx i hi).lt
 obtain⟨_,l2,l3,l4⟩:=k3 hl
 obtain⟨j1,_,j3,j4,j5⟩:=(h.jn y hy).kinds
 simp only[JG.all,List.mem_cons,List.not_mem_nil,or_false] at q
 rcases q with q | q | q | q | q
 ·rw[q,j1] at l2;exact absurd l2 (by decide)
 ·exact l4 y hy q
 ·rw[q,j3] at l2;exact absurd l2 (by decide)
 ·rw[q,j4] at l2;exact absurd l2 (by decide)
 ·exact l3 q
theorem co_commit{w:World}{F:Nat→Prop}{g:DG}{D:Dk}{n:Nat}{gs:Nat→Gn}{sl:Nat→Sl}{K:Int}(h:CoAt w F g D n gs sl)(hp:PuAt D n gs sl K)(hK:K≤1000){i:Nat}(hi:i<3)(hF:∀k,w.heap.size≤k→F k) :
  Calls Tryz.prog 11 #[.pointer (some ⟨(sl i).tb,0,none⟩)] w fun e w'=>e=.returned (.int .i64 (cE (sl i) gs D))∧CoAt w' F g (cD (sl i) gs D) n (cG (sl i) gs D) (upF sl i (cS (sl i)))∧∃S,Upd S w w'∧∀k,k∈S→(sl i).live≠none∧(k=(sl i).tb∨k∈((gs (sl i).gen).j g).all):=by
 have ht:=h.tx i hi
 cases hl:(sl i).live with
 | none=>
  have ht0:=ht
  unfold CoSl at ht
  rw[hl] at ht
  obtain⟨T,hT⟩:=ht
  refine(commitT_over (.inr ⟨_,T,rfl,hT⟩)).mono ?_
  rintro e w' ⟨rfl,k,rfl⟩
  refine⟨by unfold cE;rw[hl],?_,[],(Upd.refl _ _).drewN k,by simp⟩
  unfold cD cG
  rw[hl,cS_none hl,upF_self]
  exact h.below ((Upd.refl _ _).drewN k)
 | some p=>
  obtain⟨T,M⟩:=p
  have ht2:=ht
  unfold CoSl at ht
  rw[hl] at ht
  obtain⟨t1,t2,t3,t4⟩:=ht
  obtain⟨_,p2,p3⟩:=hp.sl i hi T M hl
  have hj:=h.jn _ t1
  obtain⟨_,_,_,_,g5⟩:=hp.gen _ t1
  have hne:=CoSl.out h hi (by rw[hl];simp) t1
  refine(commitT_spec (t:=⟨(sl i).tb,(sl i).wb,F⟩) (j:=(gs (sl i).gen).j g) t2 hj hF hne p2 (by omega) g5).mono ?_
  rintro e w' ⟨rfl,e2,e3,e4⟩
  refine⟨by unfold cE;rw[hl],?_,_,e4,fun k hk=>⟨by simp,by simpa using hk⟩⟩
  have hn':((gs (sl i).gen).J.txD D (T-1) (txL M 50)).1.n=D.n:=by
   by_cases hg:(sl i).gen+1<n
   ·rw[(tx_dead (hp.may hg) (T-1) (txL M 50)).1]
   ·obtain⟨g1,g2,g3,g4,_⟩:=hp.gen _ t1
    have hL:=hp.live
    rw[show n-1=(sl i).gen by omega] at hL
    exact(tx_live hL hp.on (by omega) (by omega) (T-1) (txL M 50)).2.2.1
  have:=h.step (y:=(sl i).gen) (i:=i) (s':=cS (sl i)) e4 hi t1 e3 hn' (fun k hk=>by
   rcases List.mem_cons.1 hk with q | q
   ·exact .inl q
   ·exact .inr (.inr q)) (by
   unfold CoSl
   exact over_tb e2) rfl (fun q=>by simp[cS] at q)
  unfold cD cG
  rw[hl]
  exact this
theorem DoSl.out{w:World}{r:RG}{D:Dk}{n:Nat}{gs:Nat→Gn}{sl:Nat→Sl}(h:DoAt w r D n gs sl){i:Nat}(hi:i<3){y:Nat}(hy:y<n):(sl i).x.tb∉(gs y).q.all∧(sl i).x.ob∉(gs y).q.all:=by
 obtain⟨i1,i2,_⟩:=(h.tx i hi).kinds
 obtain⟨_,ib,ic,id⟩:=h.tx i hi
 obtain⟨hjy,hry⟩:=h.jq y hy
 obtain⟨y1,y2,y3⟩:=hjy.kinds
 obtain⟨r1,r2,r3⟩:=h.rdk.kinds
 constructor
 ·intro q
  unfold QG.all at q
  rw[List.mem_append,QG.mem_own,hry] at q
  simp[RG.all] at q
  rcases q with(c | c | c) | (c | c | c)
  ·rw[c,y1] at i1;exact absurd i1 (by decide)
  ·rw[c,y2] at i1;exact absurd i1 (by decide)
  ·rw[c,y3] at i1;exact absurd i1 (by decide)
  ·rw[c,r1] at i1;exact absurd i1 (by decide)
  ·rw[c,r2] at i1;exact absurd i1 (by decide)
  ·rw[c,r3] at i1;exact absurd i1 (by decide)
 ·intro q
  unfold QG.all at q
  rw[List.mem_append,QG.mem_own,hry] at q
  simp[RG.all] at q
  rcases q with(c | c | c) | (c | c | c)
  ·rw[c,y1] at i2;exact absurd i2 (by decide)
  ·rw[c,y2] at i2;exact absurd i2 (by decide)
  ·exact id y hy c
  ·rw[c,r1] at i2;exact absurd i2 (by decide)
  ·exact ib c
  ·exact ic c
theorem do_commit{w:World}{r:RG}{D:Dk}{n:Nat}{gs:Nat→Gn}{sl:Nat→Sl}{K:Int}(h:DoAt w r D n gs sl)(hp:PuAt D n gs sl K)(hK:K≤1000){i:Nat}(hi:i<3) :
  Calls Tryz.prog 91 #[.pointer (some ⟨(sl i).x.tb,0,none⟩)] w fun e w'=>e=.returned (.int .i64 (cE (sl i) gs D))∧DoAt w' r (cD (sl i) gs D) n (cG (sl i) gs D) (upF sl i (cS (sl i)))∧∃S,Upd S w w'∧∀k,k∈S→k=(sl i).x.tb∨((sl i).live≠none∧k∈(gs (sl i).gen).q.all):=by
 have ht:=h.tx i hi
 cases hl:(sl i).live with
 | none=>
  obtain⟨a,_⟩:=ht
  rw[hl] at a
  obtain⟨jb,T,M,a,_⟩:=a
  refine(rtcommit_over a).mono ?_
  rintro e w' ⟨rfl,rfl⟩
  refine⟨by unfold cE;rw[hl],?_,[],Upd.refl _ _,by simp⟩
  unfold cD cG
  rw[hl,cS_none hl,upF_self];exact h
 | some p=>
  obtain⟨T,M⟩:=p
  have ht2:=ht
  obtain⟨a,a2⟩:=ht
  rw[hl] at a
  have a:RtAt w (sl i).x (gs (sl i).gen).q.jb T M 50 false:=a
  obtain⟨p1,p2,p3⟩:=hp.sl i hi T M hl
  obtain⟨g1,g2,g3,g4,g5⟩:=hp.gen _ p1
  obtain⟨o1,o2⟩:=DoSl.out h hi p1
  refine(rtcommit_spec a (h.jq _ p1).1 p2 (hp.homes p1) p3 o1 o2 (by omega) (by omega) g1).mono ?_
  rintro e w' ⟨rfl,e2,e3,e4⟩
  refine⟨by unfold cE;rw[hl],?_,_,e4,fun k hk=>?_⟩
  ·have hn':((gs (sl i).gen).J.txD D (T-1) (txL M 50)).1.n=D.n:=by
    by_cases hg:(sl i).gen+1<n
    ·rw[(tx_dead (hp.may hg) (T-1) (txL M 50)).1]
    ·have hL:=hp.live
     rw[show n-1=(sl i).gen by omega] at hL
     exact(tx_live hL hp.on (by omega) (by omega) (T-1) (txL M 50)).2.2.1
   have:=h.step (y:=(sl i).gen) (i:=i) (s':=cS (sl i)) e4 hi p1 e3 hn' (fun k hk=>by
    rcases List.mem_cons.1 hk with q | q
    ·exact .inl q
    ·exact .inr (.inr q)) ⟨⟨_,T,M,e2,p2⟩,a2⟩ rfl
   unfold cD cG
   rw[hl]
   exact this
  ·rcases List.mem_cons.1 hk with q | q
   ·exact .inl q
   ·exact .inr ⟨by simp,q⟩
theorem co_abort{w:World}{F:Nat→Prop}{g:DG}{D:Dk}{n:Nat}{gs:Nat→Gn}{sl:Nat→Sl}{K:Int}(h:CoAt w F g D n gs sl)(hp:PuAt D n gs sl K){i:Nat}(hi:i<3) :
  Calls Tryz.prog 22 #[.pointer (some ⟨(sl i).tb,0,none⟩)] w fun e w'=>e=.returned (.tuple #[])∧CoAt w' F g D n gs (upF sl i (cS (sl i)))∧∃S,Upd S w w'∧∀k,k∈S→k=(sl i).tb:=by
 have ht:=h.tx i hi
 obtain⟨i1,i2,_⟩:=ht.lt
 have hstep:∀{w':World},Upd [(sl i).tb] w w'→(∃T:Int,w'.heap[(sl i).tb]?=some (.cells #[.pointer none,.int .u64 T,.map none] 101 (0,0)))→CoAt w' F g D n gs (upF sl i (cS (sl i))):=fun {w'} hu hT=>by
  have hy:=hp.pos
  have hj:=h.jn 0 hy
  obtain⟨j1,j2,j3,j4,j5⟩:=hj.kinds
  have hk:∀k,kd w k≠some 101→k<w.heap.size→w'.heap[k]?=w.heap[k]?:=fun k h1 h2=>hu.block k h2 fun q=>h1 (by rw[List.mem_singleton.1 q];exact i2)
  have hj':JnAt w' F ((gs 0).j g) (gs 0).J D:=hj.world (hk _ (by rw[j1];decide) hj.lt.1) (hk _ (by rw[j2];decide) hj.lt.2) (hk _ (by rw[j3];decide) hj.disk.lt.1) (hk _ (by rw[j4];decide) hj.disk.lt.2.1) (hk _ (by rw[j5];decide) hj.disk.lt.2.2) (fun k c _ e=>hk k (by rw[kd_cells e];decide) (blk_lt e))
  have:=h.step (y:=0) (i:=i) (s':=cS (sl i)) hu hi hy hj' rfl (fun k hk=> .inl (List.mem_singleton.1 hk)) (by unfold CoSl;exact hT) rfl (fun q=>by simp[cS] at q)
  rw[upF_self] at this
  exact this
 cases hl:(sl i).live with
 | none=>
  unfold CoSl at ht
  rw[hl] at ht
  obtain⟨T,hT⟩:=ht
  refine(abort_over (.inr ⟨_,T,rfl,hT⟩)).mono ?_
  rintro e w' ⟨rfl,e2,S,e3,e4⟩
  have hS:∀k,k∈S→k∈[(sl i).tb]:=fun k hk=>by
   have:=e3 k hk
   injection this with this;injection this with this;injection this with this
   rw[this];simp
  exact⟨rfl,hstep (e4.mono hS) (over_tb e2),S,e4,fun k hk=>List.mem_singleton.1 (hS k hk)⟩
 | some p=>
  obtain⟨T,M⟩:=p
  unfold CoSl at ht
  rw[hl] at ht
  obtain⟨t1,t2,t3,t4⟩:=ht
  refine(abort_spec (t:=⟨(sl i).tb,(sl i).wb,F⟩) t2).mono ?_
  rintro e w' ⟨rfl,e2,_,e4⟩
  exact⟨rfl,hstep e4 ⟨_,e2⟩,_,e4,fun k hk=>List.mem_singleton.1 hk⟩
theorem do_over{w:World}{r:RG}{D:Dk}{n:Nat}{gs:Nat→Gn}{sl:Nat→Sl}{K:Int}(h:DoAt w r D n gs sl)(hp:PuAt D n gs sl K){i:Nat}(hi:i<3) :
  (∃C:Array Value,C.size=4∧w.heap[(sl i).x.tb]?=some (.cells C 154 (0,0)))∧DoAt (w.setCell ⟨(sl i).x.tb,3,none⟩ (.bool true)) r D n gs (upF sl i (cS (sl i)))∧Upd [(sl i).x.tb] w (w.setCell ⟨(sl i).x.tb,3,none⟩ (.bool true)):=by
 have ht:=h.tx i hi
 have hu:Upd [(sl i).x.tb] w (w.setCell ⟨(sl i).x.tb,3,none⟩ (.bool true)):=(Upd.refl _ _).set _ (.inl (by simp))
 have key:∀{jb:Nat} {T:Int} {M:Nat→Option Sec} {ov:Bool},RtAt w (sl i).x jb T M 50 ov→MOk M 50→(∃C:Array Value,C.size=4∧w.heap[(sl i).x.tb]?=some (.cells C 154 (0,0)))∧DoAt (w.setCell ⟨(sl i).x.tb,3,none⟩ (.bool true)) r D n gs (upF sl i (cS (sl i))):=fun {jb T M ov} a b=>by
  refine⟨⟨_,by rfl,a.st⟩,?_⟩
  have hR:RtAt (w.setCell ⟨(sl i).x.tb,3,none⟩ (.bool true)) (sl i).x jb T M 50 true:=by
   refine⟨?_,a.own.upd hu (by simpa using Ne.symm a.ne),a.hm1⟩
   exact blk_set a.st 3 (.bool true)
  have hy:=hp.pos
  obtain⟨o1,_⟩:=DoSl.out h hi hy
  have:=h.step (y:=0) (i:=i) (s':=cS (sl i)) (J':=(gs 0).J) (D':=D) hu hi hy ((h.jq 0 hy).1.upd hu (fun k hk q=>o1 (by rw[← List.mem_singleton.1 q];exact hk))) rfl (fun k hk=> .inl (List.mem_singleton.1 hk)) ⟨⟨jb,T,M,hR,b⟩,ht.2⟩ rfl
  rw[upF_self] at this
  exact this
 cases hl:(sl i).live with
 | none=>
  obtain⟨a,_⟩:=ht
  rw[hl] at a
  obtain⟨jb,T,M,a,b⟩:=a
  exact⟨(key a b).1,(key a b).2,hu⟩
 | some p=>
  obtain⟨T,M⟩:=p
  obtain⟨a,a2⟩:=ht
  rw[hl] at a
  have a:RtAt w (sl i).x (gs (sl i).gen).q.jb T M 50 false:=a
  obtain⟨p1,p2,p3⟩:=hp.sl i hi T M hl
  exact⟨(key a p2).1,(key a p2).2,hu⟩
theorem co_begin{w:World}{g:DG}{D:Dk}{n:Nat}{gs:Nat→Gn}{sl:Nat→Sl}{K:Int}(h:CoAt w AnyF g D n gs sl)(hp:PuAt D n gs sl K) :
  Calls Tryz.prog 12 #[.pointer (some ⟨(gs (n-1)).jb,0,none⟩)] w fun e w'=>∃tb wb:Nat,e=.returned (.tuple #[.pointer (some ⟨tb,0,none⟩),.int .i64 0])∧w.heap.size≤tb∧w.heap.size≤wb∧TxAt w' ⟨tb,wb,AnyF⟩ (gs (n-1)).jb ((gs (n-1)).J.turn-1) (fun _=>none)∧CoAt w' AnyF g D n gs sl∧Upd ((gs (n-1)).j g).all w w':=by
 have hy:n-1<n:=by have:=hp.pos;omega
 have hj:=h.jn _ hy
 obtain⟨_,_,_,_,g5⟩:=hp.gen _ hy
 refine(begin_ok (j:=(gs (n-1)).j g) hj (fun _ _=>trivial) hp.live.held.may g5).mono ?_
 rintro e w' ⟨t,rfl,e1,e2,e3,e4,e5,e6⟩
 obtain⟨tb,wb,tF⟩:=t
 have e6':tF=AnyF:=e6
 subst e6'
 refine⟨tb,wb,rfl,e1,e2,e3,?_,e5⟩
 have h0:=h.tx 0 (by omega)
 obtain⟨k1,k2,k3⟩:=h0.lt
 have hcodes:=hj.kinds
 obtain⟨j1,j2,j3,j4,j5⟩:=hcodes
 have hs:CoSl w' AnyF g n gs (sl 0):=h0.step e5 (fun q=>by
   simp only[JG.all,List.mem_cons,List.not_mem_nil,or_false] at q
   rcases q with q | q | q | q | q
   ·rw[q,j1] at k2;exact absurd k2 (by decide)
   ·rw[q,j2] at k2;exact absurd k2 (by decide)
   ·rw[q,j3] at k2;exact absurd k2 (by decide)
   ·rw[q,j4] at k2;exact absurd k2 (by decide)
   ·rw[q,j5] at k2;exact absurd k2 (by decide)) (fun hl=>CoSl.out h (by omega) hl hy) (fun k q=>by
   simp only[JG.all,List.mem_cons,List.not_mem_nil,or_false] at q
   rcases q with q | q | q | q | q
   ·rw[q,j1];decide
   ·rw[q,j2];decide
   ·rw[q,j3];decide
   ·rw[q,j4];decide
   ·rw[q,j5];decide) (Nat.le_refl _) (fun _ _=>rfl) (fun a ha hl=>(k3 hl).2.2.2 a ha)
 have:=h.step (y:=n-1) (i:=0) (s':=sl 0) (J':=(gs (n-1)).J) e5 (by omega) hy e4 rfl (fun k hk=> .inr (.inr hk)) hs rfl (fun q=>⟨q,rfl⟩)
 rw[upF_self,upF_self] at this
 exact this
theorem do_begin{w:World}{r:RG}{D:Dk}{n:Nat}{gs:Nat→Gn}{sl:Nat→Sl}{K:Int}(h:DoAt w r D n gs sl)(hp:PuAt D n gs sl K) :
  Calls Tryz.prog 32 #[.pointer (some ⟨(gs (n-1)).q.jb,0,none⟩)] w fun e w'=>∃x:XG,e=.returned (.tuple #[.pointer (some ⟨x.tb,0,none⟩),.int .i64 0])∧w.heap.size≤x.tb∧w.heap.size≤x.ob∧RtAt w' x (gs (n-1)).q.jb (gs (n-1)).J.turn (fun _=>none) 50 false∧Upd [] w w':=by
 have hy:n-1<n:=by have:=hp.pos;omega
 have hj:=(h.jq _ hy).1
 have:=rbegin_spec hj hp.live.held.may (by rw[hp.homes hy];omega)
 rw[hp.homes hy] at this
 exact this
def newS(gs:Nat→Gn)(n tb wb:Nat)(x:XG):Sl:=⟨tb,wb,x,n-1,some ((gs (n-1)).J.turn,fun _=>none)⟩
theorem co_new{w w0:World}{g:DG}{D:Dk}{n:Nat}{gs:Nat→Gn}{sl:Nat→Sl}{K:Int}(h0:CoAt w0 AnyF g D n gs sl)(h:CoAt w AnyF g D n gs sl)(hp:PuAt D n gs sl K){tb wb:Nat}{x:XG}(h1:w0.heap.size≤tb)(h2:w0.heap.size≤wb)(ht:TxAt w ⟨tb,wb,AnyF⟩ (gs (n-1)).jb ((gs (n-1)).J.turn-1) (fun _=>none))(i:Nat) :
  CoAt w AnyF g D n gs (upF sl i (newS gs n tb wb x)):=by
 have hy:n-1<n:=by have:=hp.pos;omega
 refine h.put ⟨hy,ht,?_,fun k hk=>?_⟩ (fun k hk _=>⟨?_,fun hl=>?_⟩)
 ·have:=h0.disk.lt.2.2
  show wb≠g.mb
  omega
 ·have:=(h0.jn k hk).lt.2
  have e:((gs k).j g).ab=(gs k).ab:=rfl
  show wb≠(gs k).ab
  omega
 ·have:=(h0.tx k hk).lt.1
  show tb≠(sl k).tb
  omega
 ·have:=((h0.tx k hk).lt.2.2 hl).1
  show wb≠(sl k).wb
  omega
theorem do_new{w w0:World}{r:RG}{D:Dk}{n:Nat}{gs:Nat→Gn}{sl:Nat→Sl}(h0:DoAt w0 r D n gs sl)(h:DoAt w r D n gs sl){tb wb:Nat}{x:XG}(h1:w0.heap.size≤x.tb)(h2:w0.heap.size≤x.ob)(ht:RtAt w x (gs (n-1)).q.jb (gs (n-1)).J.turn (fun _=>none) 50 false)(i:Nat) :
  DoAt w r D n gs (upF sl i (newS gs n tb wb x)):=by
 refine h.put ⟨ht,?_,?_,fun k hk=>?_⟩ (fun k hk _=>?_)
 ·have:=h0.rdk.last.lt
  show x.ob≠r.lb
  omega
 ·have:=h0.rdk.wait.lt
  show x.ob≠r.wb
  omega
 ·have:=(h0.jq k hk).1.lt (gs k).q.nb (by simp[QG.all,QG.own])
  show x.ob≠(gs k).q.nb
  omega
 ·obtain⟨_,_,a,b⟩:=(h0.tx k hk).kinds
  exact⟨by show x.tb≠_;omega,by show x.ob≠_;omega⟩
theorem pu_new{D:Dk}{n:Nat}{gs:Nat→Gn}{sl:Nat→Sl}{K:Int}(hp:PuAt D n gs sl K)(i:Nat)(tb wb:Nat)(x:XG):PuAt D n gs (upF sl i (newS gs n tb wb x)) K:=by
 refine⟨hp.pos,hp.live,hp.on,hp.n72,hp.gen,hp.dead,hp.life,fun k hk T M hl=>?_⟩
 by_cases e:k=i
 ·subst e
  rw[upF_same] at hl ⊢
  have hl':some ((gs (n-1)).J.turn,(fun _=>none:Nat→Option Sec))=some (T,M):=hl
  injection hl' with hl'
  injection hl' with _ hl'
  subst hl'
  exact⟨by show n-1<n;have:=hp.pos;omega,MOk.none 50,by rw[cntM_none];omega⟩
 ·rw[upF_ne _ _ e] at hl ⊢;exact hp.sl k hk T M hl
theorem u0_homeL(J:Jn):∀(l:List Nat) (D:Dk),homeL J.u0 D l=homeL J D l
 | [],_=>rfl
 | i :: l,D=>by
  show(if(D.write ((2+J.last.ring+i:Nat):Int) ((J.away i).getD [])).2≠0 then D.write ((2+J.last.ring+i:Nat):Int) ((J.away i).getD []) else homeL J.u0 (D.write ((2+J.last.ring+i:Nat):Int) ((J.away i).getD [])).1 l)=(if(D.write ((2+J.last.ring+i:Nat):Int) ((J.away i).getD [])).2≠0 then D.write ((2+J.last.ring+i:Nat):Int) ((J.away i).getD []) else homeL J (D.write ((2+J.last.ring+i:Nat):Int) ((J.away i).getD [])).1 l)
  rw[u0_homeL J l]
theorem u0_settleD(J:Jn)(D:Dk):J.u0.settleD D=J.settleD D:=by
 unfold Jn.settleD
 have e:J.u0.keys D.n=J.keys D.n:=rfl
 rw[e,u0_homeL];rfl
theorem note_ok0{J:Jn}{n:Nat}{l:List Put}(hJ:J.u0.Ok n)(hg:PutsGood (J.homes n) l)(ht:J.turn<4611686018427387000):(J.note l).u0.Ok n:=by
 have hok:=notedM_ok (J:=J.u0) hJ hg l.length (Nat.le_refl _)
 have hr:=hJ.ring0
 have hr':8≤J.last.ring:=hr
 refine⟨hJ.ring0,hJ.ring1,hJ.fits,hJ.lplace,Nat.mod_lt _ (by omega),hJ.num0,hJ.num1,hJ.lturn0,?_,?_,?_,?_⟩
 ·have h0:1≤J.turn:=hJ.turn0
  show 1≤J.turn+1;omega
 ·show J.turn+1<4611686018427389000;omega
 ·show 0≤100000000;omega
 ·intro i s e
  refine hok.away i s ?_
  rw[notedM_all]
  exact e
theorem Scan.ok0{D:Dk}{J J':Jn}(h:Scan D J J')(hD:D.Ok)(hJ:J.u0.Ok D.n)(ht:J'.turn<4611686018427387000):J'.u0.Ok D.n:=by
 induction h with
 | stop _=>exact hJ
 | step hs h ih=>
  refine ih (note_ok0 hJ (stands_good hD) ?_) ht
  have:=h.turn.1
  have e:∀(J:Jn) l,(J.note l).turn=J.turn+1:=fun _ _=>rfl
  rw[e] at this
  omega
theorem Scan.lives{D:Dk}{J J':Jn}(h:Scan D J J'):J'.lives=J.lives:=by
 induction h with
 | stop _=>rfl
 | step _ _ ih=>exact ih
theorem open_both{D D':Dk}{J':Jn}(ho:OpenR D D' (some J') 0)(hon:D.On)(hok:D.Ok)(ht:J'.turn<4611686018427380000)(hn:J'.last.number<4611686018427380000) :
  ∃J,D.anc.number≠0∧Scan D D.boot J∧J.last.number<4611686018427380000∧J.turn<4611686018427380000∧openJ D J=J'∧openD D J=D'∧J'.lives=D.lives:=by
 cases ho with
 | keep h1 h2 h3=>
  refine⟨D.boot,h2,.stop h3,hn,ht,?_,?_,rfl⟩
  ·unfold openJ;rw[if_pos h3]
  ·unfold openD;rw[if_pos h3]
 | @ok J h1 h2 h3 h4 h5 h6 h7=>
  have e1:J.settled.last.number=J.last.number+1:=rfl
  have e2:J.settled.turn=J.turn:=rfl
  rw[e1] at hn
  rw[e2] at ht
  have hJ:=h4.ok0 hok (Dk.boot_ok h2) (by omega)
  refine⟨J,h2,h4,by omega,ht,?_,?_,?_⟩
  ·unfold openJ;rw[if_neg h3]
  ·unfold openD
   rw[if_neg h3,← u0_settleD,(settleD_eq hon hok hJ).1,u0_homeD]
  ·show J.lives=D.lives
   rw[h4.lives];rfl
theorem power_on(D:Dk):(D.power []).On:=⟨rfl,rfl⟩
theorem co_power{w:World}{g:DG}{D:Dk}{n:Nat}{gs:Nat→Gn}{sl:Nat→Sl}(h:CoAt w AnyF g D n gs sl) :
  Calls Tryz.prog 33 #[.pointer (some ⟨g.db,0,none⟩),.slice none 0 0] w fun e w'=>e=.returned (.tuple #[])∧CoAt w' AnyF g (D.power []) n gs sl∧Upd [g.db,g.lb,g.mb] w w':=by
 refine(power_spec h.disk (.slice none 0 0) [] (RdL.nil _ _)).mono ?_
 rintro e w' ⟨rfl,e2,e3⟩
 exact⟨rfl,h.turn e3 e2.any rfl,e3⟩
theorem do_power{w:World}{r:RG}{D:Dk}{n:Nat}{gs:Nat→Gn}{sl:Nat→Sl}(h:DoAt w r D n gs sl) :
  Calls Tryz.prog 34 #[.pointer (some ⟨r.rb,0,none⟩),.slice none 0 0] w fun e w'=>e=.returned (.tuple #[])∧DoAt w' r (D.power []) n gs sl∧Upd r.all w w':=by
 refine(rpower_spec h.rdk).mono ?_
 rintro e w' ⟨rfl,e2,e3⟩
 exact⟨rfl,h.turn e3 e2 rfl,e3⟩
theorem co_open{w:World}{g:DG}{D:Dk}{n:Nat}{gs:Nat→Gn}{sl:Nat→Sl}(h:CoAt w AnyF g D n gs sl){J:Jn}(hH:Held D J)(hon:D.On)(h1:J.last.number≤2000)(h2:J.turn≤2000) :
  Calls Tryz.prog 35 #[.pointer (some ⟨g.db,0,none⟩)] w fun e w'=>∃(jb ab:Nat) (D':Dk) (J':Jn),e=.returned (.tuple #[.pointer (some ⟨jb,0,none⟩),.int .i64 0])∧w.heap.size≤jb∧w.heap.size≤ab∧CoAt w' AnyF g D' n gs sl∧JnAt w' AnyF ⟨jb,ab,g,AnyF⟩ J' D'∧OpenR D D' (some J') 0∧Live D' J'∧D'.On∧D'.n=D.n∧J'.turn=J.turn∧J'.last.ring=J.last.ring∧J'.last.number≤J.last.number+1∧Upd [g.db,g.lb,g.mb] w w':=by
 refine(open_main h.disk hon.1).mono ?_
 rintro e w' ⟨D',r,err,ho,hat,hu⟩
 rcases hH.open ⟨by omega,by omega⟩ ho with⟨rfl,J',rfl,q1,q2,q3,q4,q5,q6,q7,q8⟩ | ⟨_,_,q,_⟩
 ·obtain⟨jb,ab,e1,e2,e3,e4⟩:=hat
  exact⟨jb,ab,D',J',e1,e2,e3,h.turn hu e4.any.disk q7,e4.any,ho,q1,⟨q1.held.calm.off,q8 hon.2⟩,q7,q4,q5,q6,hu⟩
 ·exact absurd hon.2 q
theorem do_open{w:World}{r:RG}{D:Dk}{n:Nat}{gs:Nat→Gn}{sl:Nat→Sl}(h:DoAt w r D n gs sl){D':Dk}{J':Jn}(ho:OpenR D D' (some J') 0)(hon:D.On)(hn:D'.n=D.n)(h1:J'.last.number≤3000)(h2:J'.turn≤3000) :
  Calls Tryz.prog 31 #[.pointer (some ⟨r.rb,0,none⟩)] w fun e w'=>∃q:QG,q.r=r∧e=.returned (.tuple #[.pointer (some ⟨q.jb,0,none⟩),.int .i64 0])∧(∀k,k∈q.own→w.heap.size≤k)∧DoAt w' r D' n gs sl∧RjmAt w' q J' D'∧Upd r.all w w':=by
 obtain⟨J,a1,a2,a3,a4,a5,a6,_⟩:=open_both ho hon h.rdk.ok (by omega) (by omega)
 refine(ropen_spec h.rdk a1 a2 a3 a4).mono ?_
 rintro e w' ⟨q,rfl,rfl,e3,e4,e5⟩
 rw[a5,a6] at e4
 exact⟨q,rfl,rfl,e3,h.turn e5 e4.disk hn,e4,e5⟩
theorem co_gen{w w0:World}{g:DG}{D:Dk}{n:Nat}{gs:Nat→Gn}{sl:Nat→Sl}{D0:Dk}(h0:CoAt w0 AnyF g D0 n gs sl)(h:CoAt w AnyF g D n gs sl){y:Gn}(h1:w0.heap.size≤y.jb)(h2:w0.heap.size≤y.ab)(hj:JnAt w AnyF ⟨y.jb,y.ab,g,AnyF⟩ y.J D):CoAt w AnyF g D (n+1) (upF gs n y) sl:=
 h.grow hj (fun k hk=>by
  obtain⟨a,b⟩:=(h0.jn k hk).lt
  have e1:((gs k).j g).jb=(gs k).jb:=rfl
  have e2:((gs k).j g).ab=(gs k).ab:=rfl
  omega) (fun i hi hl=>by
  have:=((h0.tx i hi).lt.2.2 hl).1
  omega)
theorem do_gen{w w0:World}{r:RG}{D:Dk}{n:Nat}{gs:Nat→Gn}{sl:Nat→Sl}{D0:Dk}{K:Int}(h0:DoAt w0 r D0 n gs sl)(h:DoAt w r D n gs sl)(hs:∀i,i<3→(sl i).live≠none→(sl i).gen<n){y:Gn}(h1:∀k,k∈y.q.own→w0.heap.size≤k)(hr:y.q.r=r)(hj:RjmAt w y.q y.J D):DoAt w r D (n+1) (upF gs n y) sl:=
 h.grow hj hr (fun k hk b hb q=>by
  have:=h1 b hb
  have:=(h0.jq k hk).1.lt b (by simp[QG.all,q])
  omega) (fun i hi=>by
  have:=h1 y.q.nb (by simp[QG.own])
  have:=(h0.tx i hi).kinds.2.2.2
  omega) hs
theorem pu_gen{D D':Dk}{n:Nat}{gs:Nat→Gn}{sl:Nat→Sl}{K:Int}(hp:PuAt D n gs sl K)(hK:K≤1000){y:Gn}(hL:Live D' y.J)(hon:D'.On)(hn:D'.n=D.n)(ht:y.J.turn≤K)(hr:y.J.last.ring=20)(hm:y.J.last.number≤K+1)(hl:D'.lives=D.lives+1):PuAt D' (n+1) (upF gs n y) sl (K+1):=by
 have hlt:∀k,k<n→upF gs n y k=gs k:=fun k hk=>upF_ne _ _ (by omega)
 refine⟨by omega,by rw[Nat.add_sub_cancel,upF_same];exact hL,hon,hn.trans hp.n72,fun k hk=>?_,fun k hk=>?_,by have:=hp.life;omega,fun i hi T M h=>?_⟩
 ·by_cases e:k=n
  ·subst e
   rw[upF_same]
   have h1:=hL.held.used
   have h2:=hL.held.jok.ring1
   exact⟨held_hu hL.held,hr,hm,by omega,by omega⟩
  ·rw[upF_ne _ _ e,hn]
   obtain⟨a,b,c,d,f⟩:=hp.gen k (by omega)
   exact⟨a,b,by omega,by omega,f⟩
 ·rw[hlt k (by omega),hl]
  by_cases e:k+1<n
  ·have:=hp.dead k e;omega
  ·have h3:=hp.live.held.lives
   rw[show n-1=k by omega] at h3
   omega
 ·obtain⟨a,b⟩:=hp.sl i hi T M h
  exact⟨by omega,b⟩
theorem PuAt.gensl{D:Dk}{n:Nat}{gs:Nat→Gn}{sl:Nat→Sl}{K:Int}(hp:PuAt D n gs sl K):∀i,i<3→(sl i).live≠none→(sl i).gen<n:=fun i hi hl=>by
 cases h:(sl i).live with
 | none=>exact absurd h hl
 | some p=>obtain⟨T,M⟩:=p;exact(hp.sl i hi T M h).1
theorem power_lives{D:Dk}{n:Nat}{gs:Nat→Gn}{sl:Nat→Sl}{K:Int}(hp:PuAt D n gs sl K)(hK:K≤1000):(D.power []).lives=D.lives+1:=by
 have:=hp.life
 show wrap64 (D.lives+1)=D.lives+1
 unfold wrap64;omega
section
attribute [-go_sem] loadCells storeCells Instr.build Instr.buildSlice run_string_add_if run_slice_l run_slice_h run_slice_string run_slice_string_h run_slice_string_l
def Blk(g:DG)(r:RG)(n:Nat)(gs:Nat→Gn)(sl:Nat→Sl)(k:Nat):Prop:=
 k∈[g.db,g.lb,g.mb]∨k∈r.all∨(∃i,i<n∧(k=(gs i).jb∨k=(gs i).ab∨k∈(gs i).q.own))∨∃i,i<3∧(k=(sl i).tb∨((sl i).live≠none∧k=(sl i).wb)∨k=(sl i).x.tb∨k=(sl i).x.ob)
def UpB(P:Nat→Prop)(w w':World):Prop:=∃S,Upd S w w'∧∀k,k∈S→P k∨w.heap.size≤k
theorem UpB.of{P:Nat→Prop}{w w':World}{S:List Nat}(hu:Upd S w w')(h:∀k,k∈S→P k):UpB P w w':=⟨S,hu,fun k hk=> .inl (h k hk)⟩
theorem UpB.below{P:Nat→Prop}{w w':World}(hu:Upd [] w w'):UpB P w w':=⟨[],hu,by simp⟩
theorem UpB.trans{P:Nat→Prop}{a b c:World}(h:UpB P a b)(k:UpB P b c):UpB P a c:=by
 obtain⟨S,h1,h2⟩:=h
 obtain⟨T,k1,k2⟩:=k
 refine⟨S++T,(h1.mono (fun x hx=>List.mem_append_left _ hx)).trans (k1.mono (fun x hx=>List.mem_append_right _ hx)),fun x hx=>?_⟩
 rcases List.mem_append.1 hx with q | q
 ·exact h2 x q
 ·rcases k2 x q with r | r
  ·exact .inl r
  ·exact .inr (Nat.le_trans h1.size r)
theorem UpB.keep{P:Nat→Prop}{w w':World}(h:UpB P w w'){k:Nat}(hk:k<w.heap.size)(hn:¬P k):w'.heap[k]?=w.heap[k]?:=by
 obtain⟨S,h1,h2⟩:=h
 refine h1.block k hk fun q=>?_
 rcases h2 k q with r | r
 ·exact hn r
 ·omega
theorem blk_kd{w:World}{F:Nat→Prop}{g:DG}{r:RG}{D D':Dk}{n:Nat}{gs:Nat→Gn}{sl:Nat→Sl}(co:CoAt w F g D n gs sl)(dd:DoAt w r D' n gs sl){k:Nat}(h:Blk g r n gs sl k):k<w.heap.size∧kd w k≠some 5∧(kd w k∈codeT∨kd w k∈docT):=by
 rcases h with h | h | ⟨i,hi,h⟩ | ⟨i,hi,h⟩
 ·obtain⟨a,b,c⟩:=co.disk.kinds
  obtain⟨l1,l2,l3⟩:=co.disk.lt
  simp only[List.mem_cons,List.not_mem_nil,or_false] at h
  rcases h with rfl | rfl | rfl
  ·rw[a];exact⟨l1,by decide,.inl (by decide)⟩
  ·rw[b];exact⟨l2,by decide,.inl (by decide)⟩
  ·rw[c];exact⟨l3,by decide,.inl (by decide)⟩
 ·obtain⟨a,b,c⟩:=dd.rdk.kinds
  have hl:=dd.rdk.lt k h
  simp[RG.all] at h
  rcases h with rfl | rfl | rfl
  ·rw[a];exact⟨hl,by decide,.inr (by decide)⟩
  ·rw[b];exact⟨hl,by decide,.inr (by decide)⟩
  ·rw[c];exact⟨hl,by decide,.inr (by decide)⟩
 ·have hj:=co.jn i hi
  obtain⟨a,b,_⟩:=hj.kinds
  obtain⟨l1,l2⟩:=hj.lt
  rcases h with rfl | rfl | h
  ·have a':kd w (gs i).jb=_:=a
   rw[a'];exact⟨l1,by decide,.inl (by decide)⟩
  ·have b':kd w (gs i).ab=_:=b
   rw[b'];exact⟨l2,by decide,.inl (by decide)⟩
  ·have hq:=(dd.jq i hi).1
   have hd:=hq.docs k (by simp[QG.all,h])
   refine⟨hq.lt k (by simp[QG.all,h]),fun e=>?_,.inr hd⟩
   rw[e] at hd;revert hd;decide
 ·obtain⟨k1,k2,k3⟩:=(co.tx i hi).lt
  obtain⟨x1,x2,x3,x4⟩:=(dd.tx i hi).kinds
  rcases h with rfl | ⟨hl,rfl⟩ | rfl | rfl
  ·rw[k2];exact⟨k1,by decide,.inl (by decide)⟩
  ·obtain⟨l1,l2,_⟩:=k3 hl
   rw[l2];exact⟨l1,by decide,.inl (by decide)⟩
  ·rw[x1];exact⟨x3,by decide,.inr (by decide)⟩
  ·rw[x2];exact⟨x4,by decide,.inr (by decide)⟩
def SameB(gs gs':Nat→Gn)(sl sl':Nat→Sl):Prop:=(∀i,(gs' i).jb=(gs i).jb∧(gs' i).ab=(gs i).ab∧(gs' i).q=(gs i).q)∧∀i,(sl' i).tb=(sl i).tb∧(sl' i).x=(sl i).x∧(sl' i).wb=(sl i).wb∧((sl' i).live≠none→(sl i).live≠none)
theorem SameB.blk{g:DG}{r:RG}{n:Nat}{gs gs':Nat→Gn}{sl sl':Nat→Sl}(h:SameB gs gs' sl sl'){k:Nat}(hb:Blk g r n gs' sl' k):Blk g r n gs sl k:=by
 obtain⟨h1,h2⟩:=h
 rcases hb with a | a | ⟨i,hi,a⟩ | ⟨i,hi,a⟩
 ·exact .inl a
 ·exact .inr (.inl a)
 ·obtain⟨q1,q2,q3⟩:=h1 i
  rw[q1,q2,q3] at a
  exact .inr (.inr (.inl ⟨i,hi,a⟩))
 ·obtain⟨q1,q2,q3,q4⟩:=h2 i
  rw[q1,q2,q3] at a
  exact .inr (.inr (.inr ⟨i,hi,a.imp id (Or.imp (fun⟨x,y⟩=>⟨q4 x,y⟩) id)⟩))
theorem SameB.refl(gs:Nat→Gn)(sl:Nat→Sl):SameB gs gs sl sl:=⟨fun _=>⟨rfl,rfl,rfl⟩,fun _=>⟨rfl,rfl,rfl,id⟩⟩
theorem sameB_wS(gs:Nat→Gn)(sl:Nat→Sl)(i:Nat)(I:Int)(b:List UInt8):SameB gs gs sl (upF sl i (wS (sl i) I b)):=by
 refine⟨fun _=>⟨rfl,rfl,rfl⟩,fun k=>?_⟩
 by_cases e:k=i
 ·subst e
  rw[upF_same]
  cases h:(sl k).live with
  | none=>rw[wS_none h];exact⟨rfl,rfl,rfl,fun q=>absurd h q⟩
  | some p=>obtain⟨T,M⟩:=p;rw[wS_live h];exact⟨rfl,rfl,rfl,fun _=>by simp⟩
 ·rw[upF_ne _ _ e];exact⟨rfl,rfl,rfl,id⟩
theorem sameB_cS(gs:Nat→Gn)(sl:Nat→Sl)(i:Nat)(D:Dk):SameB gs (cG (sl i) gs D) sl (upF sl i (cS (sl i))):=by
 refine⟨fun k=>?_,fun k=>?_⟩
 ·cases h:(sl i).live with
  | none=>
   have e:cG (sl i) gs D=gs:=by unfold cG;rw[h]
   rw[e];exact⟨rfl,rfl,rfl⟩
  | some p=>
   obtain⟨T,M⟩:=p
   have e:cG (sl i) gs D=upF gs (sl i).gen { gs (sl i).gen with J:=(gs (sl i).gen).J.txJ D (T-1) (txL M 50) }:=by unfold cG;rw[h]
   rw[e]
   by_cases e:k=(sl i).gen
   ·subst e;rw[upF_same];exact⟨rfl,rfl,rfl⟩
   ·rw[upF_ne _ _ e];exact⟨rfl,rfl,rfl⟩
 ·by_cases e:k=i
  ·subst e
   rw[upF_same]
   exact⟨rfl,rfl,rfl,fun q=>by simp[cS] at q⟩
  ·rw[upF_ne _ _ e];exact⟨rfl,rfl,rfl,id⟩
theorem sameB_over(gs:Nat→Gn)(sl:Nat→Sl)(i:Nat):SameB gs gs sl (upF sl i (cS (sl i))):=by
 refine⟨fun _=>⟨rfl,rfl,rfl⟩,fun k=>?_⟩
 by_cases e:k=i
 ·subst e
  rw[upF_same]
  exact⟨rfl,rfl,rfl,fun q=>by simp[cS] at q⟩
 ·rw[upF_ne _ _ e];exact⟨rfl,rfl,rfl,id⟩
def Do7(w:World)(g:DG)(r:RG)(n:Nat)(gs:Nat→Gn)(sl:Nat→Sl)(K:Int)(w':World):Prop:=
 ∃D' gs' sl',CoAt w' AnyF g D' n gs' sl'∧DoAt w' r D' n gs' sl'∧PuAt D' n gs' sl' (K+1)∧SameB gs gs' sl sl'∧UpB (Blk g r n gs sl) w w'
theorem slBlk{g:DG}{r:RG}{n:Nat}{gs:Nat→Gn}{sl:Nat→Sl}{i:Nat}(hi:i<3){k:Nat}(h:k=(sl i).tb∨((sl i).live≠none∧k=(sl i).wb)∨k=(sl i).x.tb∨k=(sl i).x.ob):Blk g r n gs sl k:=.inr (.inr (.inr ⟨i,hi,h⟩))
theorem jnBlk{g:DG}{r:RG}{n:Nat}{gs:Nat→Gn}{sl:Nat→Sl}{y:Nat}(hy:y<n){k:Nat}(h:k∈((gs y).j g).all):Blk g r n gs sl k:=by
 simp only[JG.all,List.mem_cons,List.not_mem_nil,or_false] at h
 rcases h with h | h | h | h | h
 ·exact .inr (.inr (.inl ⟨y,hy,.inl h⟩))
 ·exact .inr (.inr (.inl ⟨y,hy,.inr (.inl h)⟩))
 ·exact .inl (by rw[h];simp[Gn.j])
 ·exact .inl (by rw[h];simp[Gn.j])
 ·exact .inl (by rw[h];simp[Gn.j])
theorem rqBlk{g:DG}{r:RG}{n:Nat}{gs:Nat→Gn}{sl:Nat→Sl}{y:Nat}(hy:y<n)(hr:(gs y).q.r=r){k:Nat}(h:k∈(gs y).q.all):Blk g r n gs sl k:=by
 unfold QG.all at h
 rw[List.mem_append,hr] at h
 rcases h with h | h
 ·exact .inr (.inr (.inl ⟨y,hy,.inr (.inr h)⟩))
 ·exact .inr (.inl h)
theorem ownN_spR{w:World}{F:Nat→Prop}{v:Value}{l:List UInt8}(h:OwnN w 5 F v l):SpR w v∧∀k,v.ownBlock=some k→F k:=by
 rcases h with⟨⟨k,rest,hF,rfl,hb⟩,hm⟩ | ⟨_,rfl⟩
 ·refine⟨.inr ⟨k,_,_,_,rfl,hb,by simp,by omega,hm _ _ _ rfl⟩,fun q hq=>?_⟩
  simp[Value.ownBlock] at hq
  subst hq;exact hF
 ·exact⟨.inl rfl,fun k hk=>by simp[Value.ownBlock] at hk⟩
theorem UpB.late{P:Nat→Prop}{a b c:World}(h:UpB P a b){S:List Nat}(hu:Upd S b c)(hS:∀k,k∈S→P k∨a.heap.size≤k):UpB P a c:=by
 obtain⟨T,h1,h2⟩:=h
 refine⟨T++S,(h1.mono (fun x hx=>List.mem_append_left _ hx)).trans (hu.mono (fun x hx=>List.mem_append_right _ hx)),fun x hx=>?_⟩
 rcases List.mem_append.1 hx with q | q
 ·exact h2 x q
 ·exact hS x q
theorem twin_rd{w:World}{k:Nat}{l:List UInt8}(hk:w.heap[k]?=some (.cells (bts l++tw3 3).toArray 5 (0,0))):Rd w (.slice (some ⟨k,0,none⟩) l.length (l.length+3)) l:=
 ⟨_,_,rfl,by omega,fun _=>⟨k,0,rfl,fun i hi=>by
  rw[blk_cell hk,List.getElem?_toArray,Nat.zero_add,List.getElem?_append_left (by rw[bts_length];exact hi)]
  simp[bts]
  exact⟨_,List.getElem?_eq_getElem hi,rfl⟩⟩⟩
end
end Go.Proofs.YtplppdbdfhkljaaGreat
end
