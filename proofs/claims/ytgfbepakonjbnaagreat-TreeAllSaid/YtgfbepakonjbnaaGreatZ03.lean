/-
  Numbers in bytes: octet.At, journal.of, journal.lay.
-/
import Derived.Test.YtgfbepakonjbnaaGreatZ02
import Derived.Deep.QuietTactic
import Derived.BigQuiet
set_option maxRecDepth 100000
set_option maxHeartbeats 16000000
section
namespace Go.Proofs.YtgfbepakonjbnaaGreat
open Go.RowKit
def be(n v:Nat):List UInt8:=(List.range n).map λ i=>UInt8.ofNat (v / 256 ^ (n-1-i))
def beN(l:List UInt8):Nat:=l.foldl (λ a c=>a*256+c.toNat) 0
def num(b:List UInt8)(a n:Nat):Nat:=beN ((b.drop a).take n)
def F8(b:List UInt8)(a n:Nat):Int:=(num b a n:Int)
def put(b:List UInt8)(a n v:Nat):List UInt8:=b.take a++(be n v++b.drop (a+n))
theorem P0(n v:Nat):(be n v).length=n:=by simp[be]
theorem Ag0{b:List UInt8}{a n v:Nat}(h:a+n<=b.length):(put b a n v).length=b.length:=by
 simp[put,P0];omega
theorem Ae6(l:List UInt8)(c:UInt8):beN (l ++ [c])=beN l*256+c.toNat:=by simp[beN]
theorem Bg1(l:List UInt8):beN l<256 ^ l.length:=by
 have key:∀(l:List UInt8) (x:Nat),l.foldl (λ a c=>a*256+c.toNat) x<(x+1)*256 ^ l.length:=by
  intro l;induction l with
  | nil=>intro x;simp
  | cons c l ih=>
   intro x;rw[List.foldl_cons,List.length_cons,Nat.pow_succ];refine Nat.lt_of_lt_of_le (ih _) ?_;have h1:x*256+c.toNat+1<=(x+1)*256:=by have:=c.toNat_lt;omega
   calc (x*256+c.toNat+1)*256 ^ l.length<=((x+1)*256)*256 ^ l.length:=Nat.mul_le_mul_right _ h1
    _=(x+1)*(256 ^ l.length*256):=by rw[Nat.mul_assoc,Nat.mul_comm 256]
 have:=key l 0;simpa [beN] using this
theorem I9(n:Int)(h0:0<=n)(h1:n<18446744073709551616):IntKind.u64.wrap n=n:=by
 rw[IntKind.wrap_u64];omega
theorem Co2(x c:Nat)(hc:c<256):x*256 ||| c=x*256+c:=by
 have h2:=Nat.two_pow_add_eq_or_of_lt (i:=8) (b:=c) (by omega) x;rw[show(2:Nat) ^ 8=256 from rfl,Nat.mul_comm 256 x] at h2;exact h2.symm
theorem Cj4(x c:Nat)(hx:x*256+255<18446744073709551616)(hc:c<256):bits BinOp.or IntKind.u64 (IntKind.u64.wrap ((x:Int)*256)) (IntKind.u64.wrap (c:Int))=((x*256+c:Nat):Int):=by
 obtain⟨y,hy⟩:∃y,y=x*256:=⟨_,rfl⟩;have hyi:(x:Int)*256=(y:Int):=by omega
 rw[hyi,I9 _ (by omega) (by omega),I9 _ (by omega) (by omega)];have h1:y<18446744073709551616:=by omega
 have h2:c<18446744073709551616:=by omega
 rw[u64_or_nat y c h1 h2,hy,Co2 x c hc]
theorem Bv0(v:Value)(b:List UInt8)(a n:Nat)(w:World)(hr:Rd w v b)(h1:1<=n)(h8:n<=8)(hl:a+n<=b.length)(hb:b.length<=1000000) :
  Calls Tryz.prog 178 #[v,.int .i64 (a:Int),.int .i64 (n:Int)] w λ e w'=>e=.returned (.tuple #[.int .u64 (num b a n:Int),.int .i64 0])/\w=w':=by
 obtain⟨ao,cap,rfl,hc,hh⟩:=hr;obtain⟨bk,off,rfl,hcell⟩:=hh (by omega);clear hh;have hcell':∀i,i<n->w.cell? ⟨bk,off+a+i,none⟩=some (.int .u8 ((b[a+i]?.getD 0).toNat:Int)):=by
  intro i hi;have:=hcell (a+i) (by omega);rw[Nat.add_assoc,this];simp[bv,List.getElem?_eq_getElem (show a+i<b.length by omega)]
 have HC:=η hcell';clear hcell hcell';go_enter Tryz.func178,Tryz.ntmps178
 go_wp2
 go_loop [8,36] (λ x i=>∃k:Nat,k<=n/\i=.int .i64 (k:Int)/\x=.int .u64 (beN ((b.drop a).take k):Int)) (λ _ i=>n-(intOf i).toNat)
 case atStart=>exact⟨0,by omega,rfl,rfl⟩
 case round=>
  obtain⟨k,hk,rfl,rfl⟩:=hrel;by_cases hlt:k<n
  ·have hck:=HC.out k hlt;have hx:=Bg1 ((b.drop a).take k);have hlen:((b.drop a).take k).length=k:=by simp;omega
   rw[hlen] at hx;have hx7:beN ((b.drop a).take k)<256 ^ 7:=Nat.lt_of_lt_of_le hx (Nat.pow_le_pow_right (by omega) (by omega));have hstep:beN ((b.drop a).take (k+1))=beN ((b.drop a).take k)*256+(b[a+k]?.getD 0).toNat:=by
    have hkl:k<(b.drop a).length:=by simp;omega
    rw[List.take_succ_eq_append_getElem hkl,Ae6];simp[List.getElem?_eq_getElem (show a+k<b.length by omega)]
   have hor:=Cj4 (beN ((b.drop a).take k)) (b[a+k]?.getD 0).toNat (by omega) (UInt8.toNat_lt _);rw[← hstep] at hor;have HOR:=η hor;clear hor hstep hx hx7 hlen;go_wp2
   go_round
   case rel=>exact⟨k+1,by omega,by go_num,congrArg (Value.int IntKind.u64) HOR.out⟩
   case measure=>simp[intOf];omega
  ·obtain rfl:k=n:=by omega
   go_wp2
   go_ret2;exact⟨rfl,rfl⟩
theorem Z6(v:Value)(b:List UInt8)(a n:Nat)(w:World)(hr:Rd w v b)(h1:1<=n)(h8:n<=8)(hl:a+n<=b.length)(hb:b.length<=1000000) :
  Calls Tryz.prog 183 #[v,.int .i64 (a:Int),.int .i64 (n:Int)] w λ e w'=>e=.returned (.int .u64 (F8 b a n))/\w=w':=by
 have H:=η (Bv0 v b a n w hr h1 h8 hl hb);clear hr h1 h8 hl hb;go_enter Tryz.func183,Tryz.ntmps183
 go_wp2_with (go_at_call 178;refine H.out.mono ?_;rintro e w' ⟨rfl,rfl⟩)
 go_ret;exact⟨rfl,rfl⟩
def Ap9(b:List UInt8)(a n v k:Nat):List UInt8:=b.take a++((be n v).take k++b.drop (a+k))
theorem Bd0(b:List UInt8)(a n v:Nat):Ap9 b a n v 0=b:=by simp[Ap9]
theorem Bd1(b:List UInt8)(a n v:Nat):Ap9 b a n v n=put b a n v:=by
 have:(be n v).take n=be n v:=List.take_of_length_le (by rw[P0];omega);unfold Ap9 put;rw[this]
theorem As5{b:List UInt8}{a n v k:Nat}(hk:k<=n)(h:a+n<=b.length):(Ap9 b a n v k).length=b.length:=by
 simp[Ap9,P0];omega
theorem Bd2{b:List UInt8}{a n v k:Nat}(hk:k<n)(h:a+n<=b.length):(Ap9 b a n v k).set (a+k) (UInt8.ofNat (v / 256 ^ (n-1-k)))=Ap9 b a n v (k+1):=by
 unfold Ap9;have e1:(b.take a).length=a:=by simp;omega
 have e2:((be n v).take k).length=k:=by simp[P0];omega
 rw[List.set_append_right _ _ (by omega),e1,Nat.add_sub_cancel_left,List.set_append_right _ _ (by omega),e2,Nat.sub_self];have e3:b.drop (a+k)=b[a+k] :: b.drop (a+(k+1)):=List.drop_eq_getElem_cons (by omega);have e4:(be n v).take (k+1)=(be n v).take k ++ [UInt8.ofNat (v / 256 ^ (n-1-k))]:=by
  rw[List.take_succ_eq_append_getElem (by simp[P0];omega)];simp[be]
 rw[e3,e4,αz];simp
theorem Bx6(bk cp a n v:Nat)(l:List UInt8)(rest:List Value)(w:World)(hb:w.heap[bk]?=some (.cells (bts l++rest).toArray 5 (0,0)))(h8:n<=8)(hl:a+n<=l.length)(hll:l.length<=1000000) :
  Calls Tryz.prog 165 #[.slice (some ⟨bk,0,none⟩) l.length cp,.int .i64 (a:Int),.int .u64 (v:Int),.int .i64 (n:Int)] w λ e w'=>e=.returned (.tuple #[])/\w'.heap[bk]?=some (.cells (bts (put l a n v)++rest).toArray 5 (0,0))/\Upd [bk] w w':=by
 have HB:=η hb;clear hb;go_enter Tryz.func165,Tryz.ntmps165
 go_wp2
 go_loopw [10] (λ i wr=>∃k:Nat,k<=n/\i=.int .i64 (k:Int)/\wr.heap[bk]?=some (.cells (bts (Ap9 l a n v k)++rest).toArray 5 (0,0))/\Upd [bk] w wr) (λ i _=>n-(intOf i).toNat)
 case atStart=>exact⟨0,by omega,rfl,by rw[Bd0];exact HB.out,Upd.refl _ _⟩
 case round=>
  obtain⟨k,hk,rfl,h1,h3⟩:=hrel;by_cases hlt:k<n
  ·have hlen:=As5 (v:=v) hk hl;obtain⟨old,hcl⟩:∃old,wr.cell? ⟨bk,a+k,none⟩=some old:=by
    rw[A4 h1];exact⟨_,Array.getElem?_eq_getElem (by simp;omega)⟩
   have hf:=E4 h1 (a+k);have hs:0<=8*((n:Int)-1-k):=by omega
   have hs2:8*((n:Int)-1-k)<=56:=by omega
   have hbyte:Value.int IntKind.u8 ((v:Int) / 2 ^ (8*(n-1-k)) % 256)=bv (UInt8.ofNat (v / 256 ^ (n-1-k))):=by
    unfold bv;congr 1
    have e1:(2:Int) ^ (8*(n-1-k))=((256 ^ (n-1-k):Nat):Int):=by
     rw[show(256:Nat)=2 ^ 8 from rfl,← Nat.pow_mul,Int.natCast_pow];rfl
    rw[UInt8.toNat_ofNat',e1];omega
   have hfin:(wr.setCell ⟨bk,a+k,none⟩ (bv (UInt8.ofNat (v / 256 ^ (n-1-k))))).heap[bk]?=some (.cells (bts (Ap9 l a n v (k+1))++rest).toArray 5 (0,0)):=by
    rw[B3 h1,← Bd2 hlt hl];congr 2
    rw[αs,List.set_append_left _ _ (by simp;omega)];simp[bts,List.map_set]
   rw[← hbyte] at hfin;have HFIN:=η hfin;have H3:=η h3;clear h1 h3 hfin hbyte hlen;go_wp2
   go_roundw
   case rel=>exact⟨k+1,by omega,by go_num,HFIN.out,H3.out.set _ (.inl (by simp))⟩
   case measure=>simp[intOf];omega
  ·obtain rfl:k=n:=by omega
   rw[Bd1] at h1;have H1:=η h1;have H3:=η h3;clear h1 h3;go_wp2
   go_end0
   exact⟨rfl,H1.out,H3.out⟩
theorem Ac1(bk len cp a n:Nat)(v:Int)(l:List UInt8)(rest:List Value)(w:World)(hb:w.heap[bk]?=some (.cells (bts l++rest).toArray 5 (0,0)))(hv:0<=v)(hlen:l.length=len)(h8:n<=8)(hl:a+n<=len)(hll:len<=1000000) :
  Calls Tryz.prog 165 #[.slice (some ⟨bk,0,none⟩) len cp,.int .i64 (a:Int),.int .u64 v,.int .i64 (n:Int)] w λ e w'=>e=.returned (.tuple #[])/\w'.heap[bk]?=some (.cells (bts (put l a n v.toNat)++rest).toArray 5 (0,0))/\Upd [bk] w w':=by
 subst hlen;obtain⟨v,rfl⟩:=Int.eq_ofNat_of_zero_le hv;exact Bx6 bk cp a n v l rest w hb h8 hl hll
theorem Bg2(b:List UInt8)(a n:Nat):num b a n<256 ^ n:=by
 refine Nat.lt_of_lt_of_le (Bg1 _) (Nat.pow_le_pow_right (by omega) ?_);simp;omega
theorem T6(b:List UInt8)(a n:Nat):0<=F8 b a n:=by unfold F8;omega
theorem Br1(b:List UInt8)(a:Nat):F8 b a 4<4294967296:=by
 have:=Bg2 b a 4;unfold F8;omega
theorem Co3(b:List UInt8)(a:Nat):F8 b a 2<65536:=by
 have:=Bg2 b a 2;unfold F8;omega
def T7(t:Int):Sec:=put (put F9 0 8 t.toNat) 504 8 t.toNat
theorem N2{b:List UInt8}{L:Nat}(h:b.length=L){a n v:Nat}(h2:a+n<=L):(put b a n v).length=L:=by rw[Ag0 (by omega)];exact h
@[simp] theorem L4 (t : Int) : (T7 t).length = 512 := N2 (N2 C0 (by omega)) (by omega)
def O4(b:Sec):Int:=if F8 b 0 8=F8 b 504 8 then F8 b 0 8 else 0
theorem An7(b:Sec):0<=O4 b:=by
 unfold O4;split
 ·exact T6 _ _ _
 ·omega
structure Anc where
 number:Int
 turn:Int
 place:Nat
 ring:Nat
def Anc.val(a:Anc):Array Value:=#[.int .u64 a.number,.int .u64 a.turn,.int .i64 (a.place:Int),.int .i64 (a.ring:Int)]
def Anc.sector(a:Anc):Sec:=put (put (put (T7 a.number) 8 8 a.turn.toNat) 16 4 a.place) 20 4 a.ring
@[simp] theorem Anc.sector_length (a : Anc) : a.sector.length = 512 := N2 (N2 (N2 (L4 _) (by omega)) (by omega)) (by omega)
def V1(b:Sec):Anc:=⟨O4 b,F8 b 8 8,num b 16 4,num b 20 4⟩
def Anc.okB(a:Anc)(sectors:Nat):Bool:=a.number != 0 && decide (1<=a.turn) && decide (a.turn<4611686018427387904) && (decide (8<=a.ring) && decide (a.ring<=1024) && decide (a.place<a.ring) && decide (a.ring+10<=sectors))
theorem As6(t:Int)(w:World)(ht:0<=t) :
  Calls Tryz.prog 164 #[.int .u64 t] w λ e w'=>e=.returned (.slice (some ⟨w.heap.size,0,none⟩) 512 512)/\w'.heap[w.heap.size]?=some (.cells (bts (T7 t)).toArray 5 (0,0))/\Upd [] w w':=by
 have hmk:=P7;go_enter Tryz.func164,Tryz.ntmps164
 go_wp2_with fail
 refine(Ac1 w.heap.size 512 512 0 8 t F9 [] _ (by simpa using A6 _) ht C0 (by omega) (by omega) (by omega)).mono ?_;rintro e w1 ⟨rfl,h1,hu1⟩;have H1:=η h1;have HU1:=η hu1;clear h1 hu1;go_wp2_with fail
 refine(Ac1 w.heap.size 512 512 504 8 t (put F9 0 8 t.toNat) [] _ H1.out ht (N2 C0 (by omega)) (by omega) (by omega) (by omega)).mono ?_;rintro e w2 ⟨rfl,h2,hu2⟩;have H2:=η h2;have HU2:=η hu2;clear h2 hu2;go_wp2
 go_ret;refine⟨rfl,?_,?_⟩
 ·have:=H2.out;rw[List.append_nil] at this;exact this
 ·exact((((Upd.refl [] w).alloc _).late HU1.out (λ i hi=> .inr (by simp at hi;omega))).late HU2.out (λ i hi=> .inr (by simp at hi;omega)))
theorem Bj6(v:Value)(b:Sec)(w:World)(hr:Rd w v b)(hl:b.length=512) :
  Calls Tryz.prog 182 #[v] w λ e w'=>e=.returned (.int .u64 (O4 b))/\w=w':=by
 have HR:=η hr;have HL:=η hl;clear hr hl;by_cases hq:F8 b 0 8=F8 b 504 8
 ·have hb:(F8 b 0 8 == F8 b 504 8)=true:=by simp[hq]
  have HT:Hid (O4 b=F8 b 0 8):=by show O4 b=_;unfold O4;rw[if_pos hq]
  clear hq;go_enter Tryz.func182,Tryz.ntmps182
  go_wp2_with fail
  refine(Z6 v b 0 8 w HR.out (by omega) (by omega) (by rw[HL.out];omega) (by rw[HL.out];omega)).mono ?_;rintro e w' ⟨rfl,rfl⟩;go_wp2_with fail
  refine(Z6 v b 504 8 w HR.out (by omega) (by omega) (by rw[HL.out];omega) (by rw[HL.out];omega)).mono ?_;rintro e w' ⟨rfl,rfl⟩;go_wp2
  go_ret;exact⟨M0 (by rw[HT.out]),rfl⟩
 ·have hb:(F8 b 0 8 == F8 b 504 8)=false:=by rw[beq_eq_false_iff_ne];exact hq
  have HT:Hid (O4 b=0):=by show O4 b=_;unfold O4;rw[if_neg hq]
  clear hq;go_enter Tryz.func182,Tryz.ntmps182
  go_wp2_with fail
  refine(Z6 v b 0 8 w HR.out (by omega) (by omega) (by rw[HL.out];omega) (by rw[HL.out];omega)).mono ?_;rintro e w' ⟨rfl,rfl⟩;go_wp2_with fail
  refine(Z6 v b 504 8 w HR.out (by omega) (by omega) (by rw[HL.out];omega) (by rw[HL.out];omega)).mono ?_;rintro e w' ⟨rfl,rfl⟩;go_wp2
  go_ret;exact⟨M0 (by rw[HT.out]),rfl⟩
end Go.Proofs.YtgfbepakonjbnaaGreat
namespace Go.Proofs.YtgfbepakonjbnaaGreat
open Go.RowKit
theorem As7(a:Anc)(w:World)(h1:a.place<9223372036854775808)(h2:a.ring<9223372036854775808)(h3:0<=a.number)(h4:0<=a.turn) :
  Calls Tryz.prog 184 #[.agg a.val] w λ e w'=>e=.returned (.slice (some ⟨w.heap.size+1,0,none⟩) 512 512)/\w'.heap[w.heap.size+1]?=some (.cells (bts a.sector).toArray 5 (0,0))/\Upd [] w w':=by
 unfold Anc.val;have hw1:=I9 (a.place:Int) (by omega) (by omega);have hw2:=I9 (a.ring:Int) (by omega) (by omega);go_enter Tryz.func184,Tryz.ntmps184
 go_wp2_with fail
 refine(As6 a.number _ h3).mono ?_;rintro e w1 ⟨rfl,g1,hu1⟩;rw[World.size_alloc] at g1;have c1:w1.heap[w.heap.size]?=some (.cells #[.int .u64 a.number,.int .u64 a.turn,.int .i64 (a.place:Int),.int .i64 (a.ring:Int)] 187 (0,0)):=(hu1.block _ (by simp) (by simp)).trans (A6 _);have hc1:=A4 c1;have C1:=η c1;have G1:=η g1;have U1:=η (((Upd.refl [] w).alloc _).trans hu1);clear c1 g1 hu1;rw[World.size_alloc];go_wp2_with fail
 refine(Ac1 (w.heap.size+1) 512 512 8 8 a.turn _ [] _ (by simpa using G1.out) h4 (L4 _) (by omega) (by omega) (by omega)).mono ?_;rintro e w2 ⟨rfl,g2,hu2⟩;have c2:w2.heap[w.heap.size]?=_:=(hu2.block _ (A2 C1.out) (by simp)).trans C1.out;have hc2:=A4 c2;have C2:=η c2;have G2:=η g2;have U2:=η (U1.out.late hu2 (λ i hi=> .inr (by simp at hi;omega)));clear c2 g2 hu2 hc1;go_wp2_with fail
 refine(Ac1 (w.heap.size+1) 512 512 16 4 a.place _ [] _ G2.out (by omega) (N2 (L4 _) (by omega)) (by omega) (by omega) (by omega)).mono ?_;rintro e w3 ⟨rfl,g3,hu3⟩;have c3:w3.heap[w.heap.size]?=_:=(hu3.block _ (A2 C2.out) (by simp)).trans C2.out;have hc3:=A4 c3;have G3:=η g3;have U3:=η (U2.out.late hu3 (λ i hi=> .inr (by simp at hi;omega)));clear c3 g3 hu3 hc2;go_wp2_with fail
 refine(Ac1 (w.heap.size+1) 512 512 20 4 a.ring _ [] _ G3.out (by omega) (N2 (N2 (L4 _) (by omega)) (by omega)) (by omega) (by omega) (by omega)).mono ?_;rintro e w4 ⟨rfl,g4,hu4⟩;have G4:=η g4;have U4:=η (U3.out.late hu4 (λ i hi=> .inr (by simp at hi;omega)));clear g4 hu4 hc3;go_wp2
 go_ret;refine⟨rfl,?_,U4.out⟩;have:=G4.out;rw[List.append_nil] at this;exact this
theorem Co4(g t:Int)(p r sectors:Nat)(f:Bool)(hf:f=(g != 0 && decide (1<=t) && decide (t<4611686018427387904) && (decide ((8:Int)<=(r:Int)) && decide ((r:Int)<=1024) && decide ((p:Int)<(r:Int)) && decide ((8:Int)<=(sectors:Int)-2-(r:Int))))):f=Anc.okB ⟨g,t,p,r⟩ sectors:=by
 subst hf;unfold Anc.okB;rw[Bool.eq_iff_iff];simp only[Bool.and_eq_true,decide_eq_true_eq,bne_iff_ne];omega
theorem Br2(v:Value)(b:Sec)(sectors:Nat)(w:World)(hr:Rd w v b)(hl:b.length=512)(hs:sectors<=4096) :
  Calls Tryz.prog 105 #[v,.int .i64 (sectors:Int)] w λ e w'=>e=.returned (.tuple #[.agg (V1 b).val,.bool ((V1 b).okB sectors)])/\Upd [] w w':=by
 have HR:=η hr;have HL:=η hl;clear hr hl;have n0:=T6 b 8 8;have n1:=T6 b 16 4;have n2:=T6 b 20 4;have n3:=Br1 b 16;have n4:=Br1 b 20;have nt:=An7 b;have c1:=λ W=>Bj6 v b W;have c2:=λ W (hW:Rd W v b)=>Z6 v b 8 8 W hW (by omega) (by omega) (by rw[HL.out];omega) (by rw[HL.out];omega);have c3:=λ W (hW:Rd W v b)=>Z6 v b 16 4 W hW (by omega) (by omega) (by rw[HL.out];omega) (by rw[HL.out];omega);have c4:=λ W (hW:Rd W v b)=>Z6 v b 20 4 W hW (by omega) (by omega) (by rw[HL.out];omega) (by rw[HL.out];omega);have hres:∀(g t p r:Int),g=O4 b->t=F8 b 8 8->p=F8 b 16 4->r=F8 b 20 4->∀f:Bool,f=(g != 0 && decide (1<=t) && decide (t<4611686018427387904) && (decide (8<=r) && decide (r<=1024) && decide (p<r) && decide (8<=(sectors:Int)-2-r)))->
   Value.tuple #[.agg #[.int .u64 g,.int .u64 t,.int .i64 p,.int .i64 r],.bool f]=.tuple #[.agg (V1 b).val,.bool ((V1 b).okB sectors)]:=by
  intro g t p r e1 e2 e3 e4 f ef;subst e1 e2 e3 e4 ef;exact congrArg (λ x=>Value.tuple #[.agg (V1 b).val,.bool x]) (Co4 (O4 b) (F8 b 8 8) (num b 16 4) (num b 20 4) sectors _ rfl)
 generalize O4 b=g at *;generalize F8 b 8 8=t at *;generalize F8 b 16 4=p at *;generalize F8 b 20 4=r at *;have HC1:=η c1;have HC2:=η c2;have HC3:=η c3;have HC4:=η c4;have HRES:=η hres;clear c1 c2 c3 c4 hres;go_enter Tryz.func105,Tryz.ntmps105
 go_wp2_with fail
 refine(HC1.out _ (HR.out.alloc _) HL.out).mono ?_;rintro e w' ⟨rfl,rfl⟩;go_wp2_with fail
 refine(HC2.out _ (HR.out.alloc _)).mono ?_;rintro e w' ⟨rfl,rfl⟩;go_wp2_with fail
 refine(HC3.out _ (HR.out.alloc _)).mono ?_;rintro e w' ⟨rfl,rfl⟩;go_wp2_with fail
 refine(HC4.out _ (HR.out.alloc _)).mono ?_;rintro e w' ⟨rfl,rfl⟩;go_wp2
 all_goals
  refine bodyPost_ret (v:=.tuple #[.agg #[.int .u64 g,.int .u64 t,.int .i64 p,.int .i64 r],.bool (g != 0 && decide (1<=t) && decide (t<4611686018427387904) && (decide (8<=r) && decide (r<=1024) && decide (p<r) && decide (8<=(sectors:Int)-2-r)))]) ?_ rfl ⟨congrArg Ending.returned (HRES.out g t p r rfl rfl rfl rfl _ rfl),?_⟩
  ·simp[results,Tryz.results105,go_sem, *];try (intros;omega)
  ·exact((((Upd.refl [] w).alloc _).alloc _))
end Go.Proofs.YtgfbepakonjbnaaGreat
namespace Go.Proofs.YtgfbepakonjbnaaGreat
open Go.RowKit
structure JG where
 jb:Nat
 ab:Nat
 d:DG
 F:Nat->Prop
def Al3:Nat->Prop:=λ _=>True
structure Jn where
 lives:Int
 done:Bool
 last:Anc
 turn:Int
 place:Nat
 used:Nat
 away:Nat->Option Sec
structure Jn.Ok(J:Jn)(n:Nat):Prop where
 ring0:8<=J.last.ring
 ring1:J.last.ring<=1024
 fits:J.last.ring+10<=n
 lplace:J.last.place<J.last.ring
 place:J.place<J.last.ring
 num0:1<=J.last.number
 num1:J.last.number<18446744073709551616
 lturn0:1<=J.last.turn
 turn0:1<=J.turn
 turn1:J.turn<4611686018427389000
 used:J.used<=100000000
 away:∀i s,J.away i=some s->i+2+J.last.ring<n/\s.length=512
def Jn.homes(J:Jn)(n:Nat):Nat:=n-2-J.last.ring
structure D6(w:World)(F:Nat->Prop)(j:JG)(J:Jn)(D:Dk):Prop where
 disk:C9 w F j.d D
 st:w.heap[j.jb]?=some (.cells #[.pointer (some ⟨j.d.db,0,none⟩),.int .i64 J.lives,.bool J.done,.int .u64 J.last.number,.int .u64 J.last.turn,.int .i64 (J.last.place:Int),.int .i64 (J.last.ring:Int),.int .u64 J.turn,.int .i64 (J.place:Int),.int .i64 (J.used:Int),.map (some j.ab)] 189 (0,0))
 away:P8 w F j.ab J.away
 ne:j.ab≠j.d.mb
 ok:J.Ok D.n
structure Qt(w w':World):Prop where
 heap:w'.heap=w.heap
 upd:Upd [] w w'
theorem Qt.of_drewN{w w':World}{n:Nat}(h:w'=w.drewN n):Qt w w':=by subst h;exact⟨rfl,(Upd.refl _ _).drewN n⟩
theorem Qt.trans{a b c:World}(h:Qt a b)(k:Qt b c):Qt a c:=⟨k.heap.trans h.heap,h.upd.trans k.upd⟩
theorem D6.world{w w':World}{F:Nat->Prop}{j:JG}{J:Jn}{D:Dk}(h:D6 w F j J D)(h0:w'.heap[j.jb]?=w.heap[j.jb]?)(h1:w'.heap[j.ab]?=w.heap[j.ab]?)(h2:w'.heap[j.d.db]?=w.heap[j.d.db]?)(h3:w'.heap[j.d.lb]?=w.heap[j.d.lb]?)(h4:w'.heap[j.d.mb]?=w.heap[j.d.mb]?)
  (ha:∀k c,F k->w.heap[k]?=some (.cells c 5 (0,0))->w'.heap[k]?=w.heap[k]?):D6 w' F j J D:=
 ⟨h.disk.world h2 h3 h4 ha,h0.trans h.st,h.away.world h1 ha,h.ne,h.ok⟩
theorem D6.qt{w w':World}{F:Nat->Prop}{j:JG}{J:Jn}{D:Dk}(h:D6 w F j J D)(hq:Qt w w'):D6 w' F j J D:=
 h.world (by rw[hq.heap]) (by rw[hq.heap]) (by rw[hq.heap]) (by rw[hq.heap]) (by rw[hq.heap]) (λ _ _ _ _=>by rw[hq.heap])
theorem D6.mono{w:World}{F G:Nat->Prop}{j:JG}{J:Jn}{D:Dk}(h:D6 w F j J D)(hFG:∀k,F k->G k):D6 w G j J D:=
 ⟨h.disk.mono hFG,h.st,h.away.mono hFG,h.ne,h.ok⟩
theorem D6.lt{w:World}{F:Nat->Prop}{j:JG}{J:Jn}{D:Dk}(h:D6 w F j J D):j.jb<w.heap.size/\j.ab<w.heap.size:=by
 obtain⟨f,hf,_⟩:=h.away;exact⟨A2 h.st,hf.lt⟩
theorem D6.below{w w':World}{F:Nat->Prop}{j:JG}{J:Jn}{D:Dk}(h:D6 w F j J D)(hu:Upd [] w w'):D6 w' F j J D:=
 h.world (hu.block _ h.lt.1 (by simp)) (hu.block _ h.lt.2 (by simp)) (hu.block _ h.disk.lt.1 (by simp)) (hu.block _ h.disk.lt.2.1 (by simp)) (hu.block _ h.disk.lt.2.2 (by simp)) (λ _ _ _ hk=>hu.block _ (A2 hk) (by simp))
theorem C9.drewN{w:World}{F:Nat->Prop}{g:DG}{D:Dk}(h:C9 w F g D)(n:Nat):C9 (w.drewN n) F g D:=
 h.world rfl rfl rfl (λ _ _ _ _=>rfl)
theorem D6.drewN{w:World}{F:Nat->Prop}{j:JG}{J:Jn}{D:Dk}(h:D6 w F j J D)(n:Nat):D6 (w.drewN n) F j J D:=
 h.world rfl rfl rfl rfl rfl (λ _ _ _ _=>rfl)
theorem Q4{w:World}{F:Nat->Prop}{j:JG}{J:Jn}{D:Dk}(h:D6 w F j J D) :
  Calls Tryz.prog 168 #[.pointer (some ⟨j.jb,0,none⟩)] w λ e w'=>e=.returned (.int .i64 (J.homes D.n:Int))/\∃n,w'=w.drewN n:=by
 have H:=η h;have hc:=A4 h.st;have hn:=h.disk.ok.n0;have hn1:=h.disk.ok.n1;have hr0:=h.ok.ring0;have hr1:=h.ok.ring1;have hfit:=h.ok.fits;have HE:Hid ((J.homes D.n:Int)=(D.n:Int)-2-(J.last.ring:Int)):=by show _=_;unfold Jn.homes;omega
 clear h;go_enter Tryz.func168,Tryz.ntmps168
 go_wp2
 go_quiet ((go_at_call 99;exact Calls.quiet_of_same ((Ac0 (H.out.disk.drewN _)).mono λ _ _ ⟨a,b⟩=>⟨a,b.symm⟩)))
 go_wp2
 go_ret;exact⟨M0 HE.out.symm,_,rfl⟩
theorem Bd3{w:World}{F:Nat->Prop}{j:JG}{J:Jn}{D:Dk}(h:D6 w F j J D) :
  Calls Tryz.prog 80 #[.pointer (some ⟨j.jb,0,none⟩)] w λ e w'=>e=.returned (.int .u64 (J.turn-1))/\w=w':=by
 have hc:=A4 h.st;have h0:=h.ok.turn0;have h1:=h.ok.turn1;have hw:=I9 (J.turn-1) (by omega) (by omega);have HW:=η hw;clear h hw h1;go_enter Tryz.func80,Tryz.ntmps80
 go_wp2
 go_ret;exact⟨M0 HW.out,rfl⟩
theorem Bx7{w:World}{F:Nat->Prop}{j:JG}{J:Jn}{D:Dk}(h:D6 w F j J D) :
  Calls Tryz.prog 160 #[.pointer (some ⟨j.jb,0,none⟩)] w λ e w'=>e=.returned (.int .i64 ((J.last.ring:Int)-(J.used:Int)))/\∃n,w'=w.drewN n:=by
 have hc:=A4 h.st;have hr1:=h.ok.ring1;have hu:=h.ok.used;clear h;go_enter Tryz.func160,Tryz.ntmps160
 go_wp2
 go_quiet (fail)
 go_wp2
 go_ret;exact⟨rfl,_,rfl⟩
def Jn.at(J:Jn)(place:Nat):Nat:=2+place % J.last.ring
theorem Av5{w:World}{F:Nat->Prop}{j:JG}{J:Jn}{D:Dk}(h:D6 w F j J D)(p:Nat)(hp:p<=100000) :
  Calls Tryz.prog 163 #[.pointer (some ⟨j.jb,0,none⟩),.int .i64 (p:Int)] w λ e w'=>e=.returned (.int .i64 (J.at p:Int))/\w=w':=by
 have hc:=A4 h.st;have hr0:=h.ok.ring0;have hr1:=h.ok.ring1;have hm:p % J.last.ring<J.last.ring:=Nat.mod_lt _ (by omega);have HE:Hid ((J.at p:Int)=2+(p:Int) % (J.last.ring:Int)):=by show _=_;unfold Jn.at;omega
 clear h;go_enter Tryz.func163,Tryz.ntmps163
 go_wp2
 go_ret;exact⟨M0 (by rw[HE.out]),rfl⟩
def Jn.may(J:Jn)(D:Dk):Int:=if J.done=true∨D.lives≠J.lives then 8 else 0
theorem M6{w:World}{F:Nat->Prop}{j:JG}{J:Jn}{D:Dk}(h:D6 w F j J D) :
  Calls Tryz.prog 158 #[.pointer (some ⟨j.jb,0,none⟩)] w λ e w'=>e=.returned (.int .i64 (J.may D))/\∃n,w'=w.drewN n:=by
 have H:=η h;have hc:=A4 h.st;clear h;cases hd:J.done with
 | true=>
  rw[hd] at hc;have HE:Hid (J.may D=8):=by show _=_;unfold Jn.may;rw[if_pos (.inl hd)]
  clear hd;go_enter Tryz.func158,Tryz.ntmps158
  go_wp2
  go_quiet (fail)
  go_wp2
  go_ret;exact⟨M0 HE.out.symm,_,rfl⟩
 | false=>
  rw[hd] at hc;by_cases hl:D.lives=J.lives
  ·have hb:(D.lives != J.lives)=false:=by simp[hl]
   have HE:Hid (J.may D=0):=by show _=_;unfold Jn.may;rw[if_neg (by simp[hd,hl])]
   clear hd hl;go_enter Tryz.func158,Tryz.ntmps158
   go_wp2
   go_quiet ((go_at_call 103;exact Calls.quiet_of_same ((Am1 (H.out.disk.drewN _)).mono λ _ _ ⟨a,b⟩=>⟨a,b.symm⟩)))
   go_wp2
   go_ret;exact⟨M0 HE.out.symm,_,rfl⟩
  ·have hb:(D.lives != J.lives)=true:=by simpa using hl
   have HE:Hid (J.may D=8):=by show _=_;unfold Jn.may;rw[if_pos (.inr hl)]
   clear hd hl;go_enter Tryz.func158,Tryz.ntmps158
   go_wp2
   go_quiet ((go_at_call 103;exact Calls.quiet_of_same ((Am1 (H.out.disk.drewN _)).mono λ _ _ ⟨a,b⟩=>⟨a,b.symm⟩)))
   go_wp2
   go_ret;exact⟨M0 HE.out.symm,_,rfl⟩
end Go.Proofs.YtgfbepakonjbnaaGreat
namespace Go.Proofs.YtgfbepakonjbnaaGreat
open Go.RowKit
theorem Dk.write_n(D:Dk)(i:Int)(b:List UInt8):(D.write i b).1.n=D.n:=by
 unfold Dk.write;repeat' split
 all_goals first | rfl | exact Dk.step_n D
theorem Dk.flush_n(D:Dk):D.flush.1.n=D.n:=by
 unfold Dk.flush;repeat' split
 all_goals first | rfl | exact Dk.step_n D
theorem Ag1{w:World}{F:Nat->Prop}{g:DG}{D:Dk}(h:C9 w F g D)(i:Int)(v:Value)(b:List UInt8)(hr:Rd w v b) :
  Calls Tryz.prog 214 #[.pointer (some ⟨g.db,0,none⟩),.int .i64 i,v] w λ e w'=>e=.returned (.int .i64 (D.write i b).2)/\C9 w' (Gr F w.heap.size) g (D.write i b).1/\Upd [g.db,g.mb] w w':=by
 by_cases hm:D.may i=0
 ·obtain⟨hoff,h0,h1⟩:=Dk.may_zero hm;obtain⟨k,rfl⟩:=Int.eq_ofNat_of_zero_le h0;by_cases hb:b.length=512
  ·by_cases ha:D.armed=0
   ·have e:D.write (k:Int) b=({ D with off:=true,way:=some k,front:=b.take D.part },8):=by
     unfold Dk.write;rw[if_neg (by simpa using hm),if_neg (by simpa using hb),if_pos ha];simp
    rw[e];exact(Bq9 h k v b hr hoff (by omega) hb ha).mono λ _ _ ⟨a,b,c⟩=>⟨a,b,c.mono (by simp)⟩
   ·have e:D.write (k:Int) b=({ D.step with wait:=λ j=>if j=k then some b else D.wait j,writes:=wrap64 (D.writes+1) },0):=by
     unfold Dk.write;rw[if_neg (by simpa using hm),if_neg (by simpa using hb),if_neg ha];simp
    rw[e];exact Cc7 h k v b hr hoff (by omega) hb ha
  ·have e:D.write (k:Int) b=(D,9):=by
    unfold Dk.write;rw[if_neg (by simpa using hm),if_pos (by simpa using hb)]
   rw[e];obtain⟨ao,cap,rfl,_⟩:=hr;exact(Bq8 h k ao b.length cap hm hb).mono λ _ _ ⟨a,b⟩=>⟨a,by rw[← b];exact h.mono Gr.old,by rw[← b];exact Upd.refl _ _⟩
 ·have e:D.write i b=(D,D.may i):=by unfold Dk.write;rw[if_pos hm]
  rw[e];exact(Bx4 h i v hm).mono λ _ _ ⟨a,b⟩=>⟨a,by rw[← b];exact h.mono Gr.old,by rw[← b];exact Upd.refl _ _⟩
theorem Ag2{w:World}{F:Nat->Prop}{g:DG}{D:Dk}(h:C9 w F g D) :
  Calls Tryz.prog 213 #[.pointer (some ⟨g.db,0,none⟩)] w λ e w'=>e=.returned (.int .i64 D.flush.2)/\C9 w' F g D.flush.1/\Upd [g.db,g.lb,g.mb] w w':=by
 cases hoff:D.off with
 | true=>
  have e:D.flush=(D,8):=by unfold Dk.flush;rw[hoff];simp
  rw[e];exact(Bx5 h hoff).mono λ _ _ ⟨a,b⟩=>⟨a,by rw[← b];exact h,by rw[← b];exact Upd.refl _ _⟩
 | false=>
  by_cases ha:D.armed=0
  ·have e:D.flush=({ D with off:=true },8):=by unfold Dk.flush;rw[hoff];simp[ha]
   rw[e];exact(Br0 h hoff ha).mono λ _ _ ⟨a,b,c⟩=>⟨a,b,c.mono (by simp)⟩
  ·have e:D.flush=({ D.step with last:=D.now,wait:=λ _=>none },0):=by unfold Dk.flush;rw[hoff];simp[ha]
   rw[e];exact Cc8 h hoff ha
theorem D6.step{w w':World}{F G:Nat->Prop}{j:JG}{J:Jn}{D D':Dk}(h:D6 w F j J D)(hD:C9 w' G j.d D')(hu:Upd [j.d.db,j.d.lb,j.d.mb] w w')(hFG:∀k,F k->G k)(hn:D'.n=D.n):D6 w' G j J D':=by
 have hjb:j.jb∉[j.d.db,j.d.lb,j.d.mb]:=by
  obtain⟨⟨fv,a1,_⟩,⟨lv,b1,_⟩,⟨f,hf,_⟩,_⟩:=h.disk;simp only[List.mem_cons,List.not_mem_nil,or_false,not_or];refine⟨?_,?_,hf.not_cells h.st⟩
  ·intro e;have:=h.st;rw[e,a1] at this;simp at this
  ·intro e;have:=h.st;rw[e,b1] at this;simp at this
 have hab:j.ab∉[j.d.db,j.d.lb,j.d.mb]:=by
  obtain⟨⟨fv,a1,_⟩,⟨lv,b1,_⟩,_,_⟩:=h.disk;obtain⟨f,hf,_⟩:=h.away;simp only[List.mem_cons,List.not_mem_nil,or_false,not_or];exact⟨Ne.symm (hf.not_cells a1),Ne.symm (hf.not_cells b1),h.ne⟩
 refine⟨hD,(hu.block _ h.lt.1 hjb).trans h.st,(h.away.world (hu.block _ h.lt.2 hab) (λ k c _ hk=>hu.block _ (A2 hk) (h.disk.byte hk))).mono hFG,h.ne,?_⟩;rw[hn];exact h.ok
theorem D6.re{w w':World}{F:Nat->Prop}{j:JG}{J J':Jn}{D:Dk}(h:D6 w F j J D)
  (hst:w'.heap[j.jb]?=some (.cells #[.pointer (some ⟨j.d.db,0,none⟩),.int .i64 J'.lives,.bool J'.done,.int .u64 J'.last.number,.int .u64 J'.last.turn,.int .i64 (J'.last.place:Int),.int .i64 (J'.last.ring:Int),.int .u64 J'.turn,.int .i64 (J'.place:Int),.int .i64 (J'.used:Int),.map (some j.ab)] 189 (0,0)))
  (ho:∀k,k<w.heap.size->k≠j.jb->w'.heap[k]?=w.heap[k]?) (haw:J'.away=J.away) (hok:J'.Ok D.n):D6 w' F j J' D:=by
 have ha:∀k c,F k->w.heap[k]?=some (.cells c 5 (0,0))->w'.heap[k]?=w.heap[k]?:=λ k c _ hk=>ho k (A2 hk) (by rintro rfl;rw[h.st] at hk;simp at hk);have hlt:=h.disk.lt;have hd:∀k,k∈[j.d.db,j.d.lb,j.d.mb]->k≠j.jb:=by
  obtain⟨⟨fv,a1,_⟩,⟨lv,b1,_⟩,⟨f,hf,_⟩,_⟩:=h.disk;intro k hk e;simp only[List.mem_cons,List.not_mem_nil,or_false] at hk;have hst':=h.st;rcases hk with rfl | rfl | rfl
  ·rw[← e,a1] at hst';simp at hst'
  ·rw[← e,b1] at hst';simp at hst'
  ·exact hf.not_cells hst' e.symm
 obtain⟨f,hf,_⟩:=id h.away;refine⟨h.disk.world (ho _ hlt.1 (hd _ (by simp))) (ho _ hlt.2.1 (hd _ (by simp))) (ho _ hlt.2.2 (hd _ (by simp))) ha,hst,?_,h.ne,hok⟩;rw[haw];exact h.away.world (ho _ hf.lt (Ne.symm (hf.not_cells h.st))) ha
theorem D6.done{w:World}{F:Nat->Prop}{j:JG}{J:Jn}{D:Dk}(h:D6 w F j J D)(b:Bool):D6 (w.setCell ⟨j.jb,2,none⟩ (.bool b)) F j { J with done:=b } D:=by
 refine h.re ?_ (λ k _ hk=>E7 _ _ hk) rfl ?_
 ·rw[B3 h.st];simp
 ·have ok:=h.ok;exact⟨ok.ring0,ok.ring1,ok.fits,ok.lplace,ok.place,ok.num0,ok.num1,ok.lturn0,ok.turn0,ok.turn1,ok.used,ok.away⟩
def Jn.hear(J:Jn)(e:Int):Jn:={ J with done:=J.done || (e != 0) }
theorem Aa2{w:World}{F:Nat->Prop}{j:JG}{J:Jn}{D:Dk}(h:D6 w F j J D)(i:Int)(v:Value)(b:List UInt8)(hr:Rd w v b) :
  Calls Tryz.prog 162 #[.pointer (some ⟨j.jb,0,none⟩),.int .i64 i,v] w λ e w'=>e=.returned (.int .i64 (D.write i b).2)/\D6 w' (Gr F w.heap.size) j (J.hear (D.write i b).2) (D.write i b).1/\Upd [j.jb,j.d.db,j.d.mb] w w':=by
 have H:=η h;have HR:=η hr;have hc:=A4 h.st;have HN:=η (Dk.write_n D i b);have HW:=η (Ag1 h.disk i v b hr);clear h hr;generalize D.write i b=R at *;obtain⟨D',e'⟩:=R;simp only at HW HN ⊢;go_enter Tryz.func162,Tryz.ntmps162
 go_wp2_with fail
 refine HW.out.mono ?_;rintro e w1 ⟨rfl,hD1,hu1⟩;have hJ1:=H.out.step hD1 (hu1.mono (by simp)) Gr.old HN.out;have hc1:=A4 hJ1.st;have hf1:=E4 hJ1.st;have HJ1:=η hJ1;have HU1:=η hu1;clear hD1 hu1 hJ1 hc;cases hd:J.done with
 | true=>
  rw[hd] at hc1;have HD:=η hd;clear hd;go_wp2
  go_ret;refine⟨rfl,?_,(HU1.out.mono (by simp)).set _ (.inl (by simp))⟩;have e1:J.hear e' = { J with done:=true }:=by unfold Jn.hear;rw[HD.out];rfl
  rw[e1];exact HJ1.out.done true
 | false=>
  rw[hd] at hc1;have HD:=η hd;clear hd;go_wp2
  go_ret;refine⟨rfl,?_,(HU1.out.mono (by simp)).set _ (.inl (by simp))⟩;have e1:J.hear e' = { J with done:=(e' != 0) }:=by unfold Jn.hear;rw[HD.out];rfl
  rw[e1];exact HJ1.out.done _
theorem Ad3{w:World}{F:Nat->Prop}{j:JG}{J:Jn}{D:Dk}(h:D6 w F j J D) :
  Calls Tryz.prog 167 #[.pointer (some ⟨j.jb,0,none⟩)] w λ e w'=>e=.returned (.int .i64 D.flush.2)/\D6 w' F j (J.hear D.flush.2) D.flush.1/\Upd [j.jb,j.d.db,j.d.lb,j.d.mb] w w':=by
 have H:=η h;have hc:=A4 h.st;have HN:=η (Dk.flush_n D);have HW:=η (Ag2 h.disk);clear h;generalize D.flush=R at *;obtain⟨D',e'⟩:=R;simp only at HW HN ⊢;go_enter Tryz.func167,Tryz.ntmps167
 go_wp2_with fail
 refine HW.out.mono ?_;rintro e w1 ⟨rfl,hD1,hu1⟩;have hJ1:=H.out.step hD1 hu1 (λ _ h=>h) HN.out;have hc1:=A4 hJ1.st;have hf1:=E4 hJ1.st;have HJ1:=η hJ1;have HU1:=η hu1;clear hD1 hu1 hJ1 hc;cases hd:J.done with
 | true=>
  rw[hd] at hc1;have HD:=η hd;clear hd;go_wp2
  go_ret;refine⟨rfl,?_,(HU1.out.mono (by simp)).set _ (.inl (by simp))⟩;have e1:J.hear e' = { J with done:=true }:=by unfold Jn.hear;rw[HD.out];rfl
  rw[e1];exact HJ1.out.done true
 | false=>
  rw[hd] at hc1;have HD:=η hd;clear hd;go_wp2
  go_ret;refine⟨rfl,?_,(HU1.out.mono (by simp)).set _ (.inl (by simp))⟩;have e1:J.hear e' = { J with done:=(e' != 0) }:=by unfold Jn.hear;rw[HD.out];rfl
  rw[e1];exact HJ1.out.done _
end Go.Proofs.YtgfbepakonjbnaaGreat
end
